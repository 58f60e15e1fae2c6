import Derived.Test.YtaaploablbkilaaLawH
open Go Go.Sx Go.Proofs
open Go.ChangeShapes Go.WideShapes Go.ChangeAt Go.RowKit
set_option maxRecDepth 100000
namespace Go.Proofs.Ytaaploablbkilaa

/-- A row of bytes that may grow. -/
def gReg (len cap : Nat) (b : Nat → Int) : Reg := rowReg 5 len 1 cap (fun j => .int .u8 (b j))
/-- A piece of a row of bytes. -/
structure BV where
  nil : Bool
  lo : Nat
  len : Nat
  cap : Nat
  n : Nat
  b : Nat → Int
def BV.reg (x : BV) : Reg := roRegB 5 x.n 1 (fun j => .int .u8 (x.b j))
def BV.t (x : BV) (r : Nat) : T := .ite x.nil .nils (.slice r 0 [] x.lo 1 x.len x.cap)
def BV.Ok (x : BV) : Prop := (x.nil = true → x.len = 0) ∧ x.len ≤ 140737488355328 ∧ x.lo + x.len ≤ x.n
def viewV (t : T) (H : List Reg) : BV := ⟨tNil t, tLo t, tLen t, tCap t, tLen (regC H (tRef t)), fun j => tInt (tArr (regC H (tRef t)) j)⟩
def copy2Pt : Pat BV where
  view | [t], H => some (viewV t H) | _, _ => none
  args x := [x.t 0]
  H x := [x.reg]
  out x := .need x.Ok (.any (fun c : Nat => x.len ≤ c) fun c => .ret (.slice 1 0 [] 0 1 x.len c) [x.reg, gReg x.len c (fun j => x.b (x.lo + j))])
theorem copy2_vc : ∀ (x : BV),
    x.Ok ∧ True →
      (x.nil = true → x.len = (0 : Nat)) ∧
        x.lo + x.len ≤ x.n ∧
          ((0 : Nat) = (0 : Nat) ∧
              (0 : Nat) ≤ (0 : Nat) ∧
                (0 : Nat) ≤ (0 : Nat) ∧
                  (0 : Nat) ≤ (0 : Nat) ∧
                    ((0 : Nat) + x.len) * (1 : Nat) ≤ (140737488355328 : Nat) ∧
                      (0 : Nat) + x.len ≤ (9223372036854775807 : Nat) ∧ (∀ (_ : Nat), (1 : Nat) = (1 : Nat)) ∧ ∀ (_ : Nat), (1 : Nat) = (1 : Nat)) ∧
            ∀ (cap' : Nat),
              (0 : Nat) + x.len ≤ cap' →
                x.Ok →
                  ∃ (x_1 : Nat),
                    x.len ≤ x_1 ∧
                      (True ∧ True ∧ (0 : Nat) = (0 : Nat) ∧ (0 : Nat) + x.len = x.len ∧ cap' = x_1) ∧
                        True ∧
                          ((0 : Nat) ≤ (0 : Nat) ∧ x.n = x.n ∧ ∀ (j : Nat), j < x.n → x.b j = x.b j) ∧
                            (x_1 * (1 : Nat) ≤ cap' * (1 : Nat) ∧
                                x.len = (0 : Nat) + x.len ∧
                                  ∀ (j : Nat), j < (0 : Nat) + x.len → (j.blt (0 : Nat) = true → False) ∧ (j.blt (0 : Nat) = false → x.b (x.lo + (j - (0 : Nat))) = x.b (x.lo + j))) ∧
                              True := by
  simp only [true_and, and_true, eq_self, Nat.le_refl, implies_true, and_self, Nat.zero_add, nblt_true, nblt_false]
  rintro x hx
  obtain ⟨hnil, hlen, hlo⟩ := id hx
  exact ⟨hnil, hlo, ⟨by omega, by omega⟩, fun c hc _ => ⟨c, hc, rfl, by omega, fun j hj => ⟨fun h => by omega, fun _ => rfl⟩⟩⟩

def copy2_C (_ : BV) : Cfg := { Γ := Go.Sx.look [], names := true }
theorem copy2_al (x : BV) : Shown (copy2Pt.vc Try.prog (copy2_C x) Try.f18 x) := ⟨@Eq.mp _ _ (by kernel_rfl) (copy2_vc x)⟩
theorem copy2_ok : SpOk Try.prog 18 copy2Pt.sp := @Pat.okS _ copy2Pt Try.prog copy2_C 18 Try.f18 (fun x => cfg_nil rfl) (by kernel_rfl) Try.func18 (fun _ => rfl) copy2_al
/-- A row of words. -/
structure WL where
  nil : Bool
  len : Nat
  cap : Nat
  f : Nat → Int
def WL.reg (x : WL) : Reg := roRegB 22 x.len 1 (fun j => .int .u32 (x.f j))
def WL.t (x : WL) (r : Nat) : T := .ite x.nil .nils (.slice r 0 [] 0 1 x.len x.cap)
def WL.Ok (x : WL) : Prop := (x.nil = true → x.len = 0) ∧ x.len ≤ 9223372036854775807 ∧ ∀ j, u32 (x.f j)
def bytesLPt : Pat WL where
  view | [t], H => some ⟨tNil t, tLen t, tCap t, fun j => tInt (tArr (regC H (tRef t)) (tLo t + j))⟩ | _, _ => none
  args x := [x.t 0]
  H x := [x.reg]
  out x := .need (x.Ok ∧ x.len ≤ 1000) (.ret (.slice 1 0 [] 0 1 (4 * x.len) (4 * x.len)) [x.reg, bReg (4 * x.len) (4 * x.len) (byteF x.f)])
def bytesLFam (x : WL) : Fam where
  α := Nat
  I y := y ≤ x.len
  st y := { sl := mkSl 24 [(3, .slice 1 0 [] 0 1 (4 * x.len) (4 * x.len)), (10, x.t 0), (11, .int .i64 x.len), (12, .int .i64 y)], H := [x.reg, bReg (4 * x.len) (4 * x.len) (bytesF x.f y)] }
  μ y := x.len - y
theorem bytesL_vc : ∀ (x : WL),
    (x.Ok ∧ x.len ≤ (1000 : Nat)) ∧ True →
      (x.nil = true → x.len = (0 : Nat)) ∧
        ((0 : Int) ≤ IntKind.i64.wrap ((4 : Int) * (↑x.len : Int)) ∧
            IntKind.i64.wrap ((4 : Int) * (↑x.len : Int)) ≤ IntKind.i64.wrap ((4 : Int) * (↑x.len : Int)) ∧
              IntKind.i64.wrap ((4 : Int) * (↑x.len : Int)) ≤ (9223372036854775807 : Int) ∧
                (↑(1 : Nat) : Int) * IntKind.i64.wrap ((4 : Int) * (↑x.len : Int)) ≤ (281474976710656 : Int)) ∧
          (x.nil = true → x.len = (0 : Nat)) ∧
            (∃ (y : Nat),
                (bytesLFam x).I y ∧
                  (((True ∧
                          True ∧
                            (0 : Nat) = (0 : Nat) ∧
                              (IntKind.i64.wrap ((4 : Int) * (↑x.len : Int))).toNat = (4 : Nat) * x.len ∧ (IntKind.i64.wrap ((4 : Int) * (↑x.len : Int))).toNat = (4 : Nat) * x.len) ∧
                        ((x.nil = true → x.nil = true) ∧ (x.nil = false → x.nil = false ∧ True ∧ True ∧ (0 : Nat) = (0 : Nat) ∧ x.len = x.len ∧ x.cap = x.cap)) ∧
                          (↑x.len : Int) = (↑x.len : Int) ∧ (0 : Int) = (↑y : Int) ∧ True) ∧
                      ((0 : Nat) ≤ (0 : Nat) ∧ x.len = x.len ∧ ∀ (j : Nat), j < x.len → x.f j = x.f j) ∧
                        ((0 : Nat) ≤ (IntKind.i64.wrap ((4 : Int) * (↑x.len : Int))).toNat * (1 : Nat) ∧
                            (4 : Nat) * x.len = (IntKind.i64.wrap ((4 : Int) * (↑x.len : Int))).toNat ∧
                              ∀ (j : Nat), j < (IntKind.i64.wrap ((4 : Int) * (↑x.len : Int))).toNat → (0 : Int) = bytesF x.f y j) ∧
                          True) ∧
                    True) ∧
              ∀ (y : Nat),
                (bytesLFam x).I y →
                  (decide ((↑y : Int) < (↑x.len : Int)) = true →
                      (x.nil = true → x.len = (0 : Nat)) ∧
                        ((0 : Int) ≤ (↑y : Int) ∧ (↑y : Int) < (↑x.len : Int)) ∧
                          (0 : Nat) + (↑y : Int).toNat < x.len ∧
                            ∀ (v : Int),
                              v = (↑y : Int) →
                                ∀ (v_1 : Int),
                                  v_1 = x.f ((0 : Nat) + (↑y : Int).toNat) →
                                    (((True ∧ True ∧ (0 : Nat) = (0 : Nat) ∧ (4 : Nat) * x.len = (4 : Nat) * x.len ∧ (4 : Nat) * x.len = (4 : Nat) * x.len) ∧
                                          IntKind.i64.wrap ((4 : Int) * v) = IntKind.i64.wrap ((4 : Int) * v) ∧ v_1 = v_1 ∧ True) ∧
                                        ((0 : Nat) ≤ (0 : Nat) ∧ (4 : Nat) * x.len = (4 : Nat) * x.len ∧ ∀ (j : Nat), j < (4 : Nat) * x.len → bytesF x.f y j = bytesF x.f y j) ∧
                                          True) ∧
                                      ((4 : Nat) * x.len ≤ (9223372036854775807 : Nat) ∧
                                          ((-9223372036854775808 : Int) ≤ IntKind.i64.wrap ((4 : Int) * v) ∧ IntKind.i64.wrap ((4 : Int) * v) < (9223372036854775808 : Int)) ∧
                                            (0 : Int) ≤ v_1 ∧ v_1 < (4294967296 : Int)) ∧
                                        ∃ (y_1 : Nat),
                                          (bytesLFam x).I y_1 ∧
                                            (((True ∧ True ∧ (0 : Nat) = (0 : Nat) ∧ (4 : Nat) * x.len = (4 : Nat) * x.len ∧ (4 : Nat) * x.len = (4 : Nat) * x.len) ∧
                                                  ((x.nil = true → x.nil = true) ∧
                                                      (x.nil = false → x.nil = false ∧ True ∧ True ∧ (0 : Nat) = (0 : Nat) ∧ x.len = x.len ∧ x.cap = x.cap)) ∧
                                                    (↑x.len : Int) = (↑x.len : Int) ∧ IntKind.i64.wrap ((↑y : Int) + (1 : Int)) = (↑y_1 : Int) ∧ True) ∧
                                                ((0 : Nat) ≤ (0 : Nat) ∧ x.len = x.len ∧ ∀ (j : Nat), j < x.len → x.f j = x.f j) ∧
                                                  ((0 : Nat) ≤ (0 : Nat) ∧
                                                      (4 : Nat) * x.len = (4 : Nat) * x.len ∧
                                                        ∀ (j : Nat),
                                                          j < (4 : Nat) * x.len →
                                                            setB (fun (j : Nat) => bytesF x.f y j) (IntKind.i64.wrap ((4 : Int) * v)).toNat v_1
                                                                (if
                                                                    fitsB (BS.mk false ((4 : Nat) * x.len) ((4 : Nat) * x.len) fun (j : Nat) => bytesF x.f y j)
                                                                      (IntKind.i64.wrap ((4 : Int) * v)) then
                                                                  (4 : Nat)
                                                                else (0 : Nat))
                                                                j =
                                                              bytesF x.f y_1 j) ∧
                                                    True) ∧
                                              (bytesLFam x).μ y_1 < (bytesLFam x).μ y) ∧
                    (decide ((↑y : Int) < (↑x.len : Int)) = false →
                      x.Ok ∧ x.len ≤ (1000 : Nat) →
                        (True ∧ True ∧ (0 : Nat) = (0 : Nat) ∧ (4 : Nat) * x.len = (4 : Nat) * x.len ∧ (4 : Nat) * x.len = (4 : Nat) * x.len) ∧
                          True ∧
                            ((0 : Nat) ≤ (0 : Nat) ∧ x.len = x.len ∧ ∀ (j : Nat), j < x.len → x.f j = x.f j) ∧
                              ((0 : Nat) ≤ (0 : Nat) ∧ (4 : Nat) * x.len = (4 : Nat) * x.len ∧ ∀ (j : Nat), j < (4 : Nat) * x.len → bytesF x.f y j = byteF x.f j) ∧ True) := by
  simp only [true_and, and_true, eq_self, Nat.le_refl, decide_eq_true_eq, decide_eq_false_iff_not, implies_true, and_self, Int.not_lt, Nat.zero_add, Int.toNat_natCast, IntKind.wrap_i64]
  rintro x hx
  obtain ⟨⟨hnil, hlen, hf⟩, hn⟩ := id hx
  have hI : ∀ z : Nat, (bytesLFam x).I z = (z ≤ x.len) := fun _ => rfl
  have hM : ∀ z : Nat, (bytesLFam x).μ z = x.len - z := fun _ => rfl
  simp only [hI, hM]
  have e1 : (4 * (x.len : Int) + 9223372036854775808) % 18446744073709551616 - 9223372036854775808 = ((4 * x.len : Nat) : Int) := by omega
  rw [e1]
  refine ⟨hnil, by omega, hnil, ⟨0, by omega, ⟨by omega, ⟨id, id⟩, by omega⟩, by omega, by omega, fun j hj => ?_⟩, fun y hy => ⟨fun hlt => ⟨hnil, by omega, by omega, fun v hv v1 hv1 => ⟨⟨by omega, by omega, by rw [hv1]; exact hf y⟩, y + 1, by omega, ⟨⟨⟨id, id⟩, by omega⟩, fun j hj => ?_⟩, by omega⟩⟩, fun hge _ j hj => ?_⟩⟩
  · unfold bytesF; rw [if_neg (by omega)]
  · have e2 : (4 * v + 9223372036854775808) % 18446744073709551616 - 9223372036854775808 = ((4 * y : Nat) : Int) := by omega
    rw [e2, if_pos (by unfold fitsB; simp only; omega)]
    unfold setB bytesF
    simp only [Int.toNat_natCast]
    by_cases h1 : j < 4 * y
    · rw [if_neg (by omega), if_pos h1, if_pos (by omega)]
    · by_cases h2 : j < 4 * y + 4
      · rw [if_pos (by omega), if_pos (by omega), hv1]
        unfold byteF
        rw [show j / 4 = y by omega, show j % 4 = j - 4 * y by omega]
      · rw [if_neg (by omega), if_neg h1, if_neg (by omega)]
  · unfold bytesF
    rw [if_pos (by omega)]

def bytesL_C (x : WL) : Cfg := { Γ := Go.Sx.look tBytes, names := true, loops := onlyAt 3 [bytesLFam x] }
theorem bytesL_al (x : WL) : Shown (bytesLPt.vc Try.prog (bytesL_C x) Try.f22 x) := ⟨@Eq.mp _ _ (by kernel_rfl) (bytesL_vc x)⟩
theorem bytesL_ok : SpOk Try.prog 22 bytesLPt.sp := @Pat.okS _ bytesLPt Try.prog bytesL_C 22 Try.f22 (fun x => cfg_tab rfl tBytes_ok) (by kernel_rfl) Try.func22 (fun _ => rfl) bytesL_al
structure LB where
  i : Nat
  c : Nat
  wc : Nat
  ac : Nat
def gotB (x : BS) (a : Int) : Int := if fitsB x a then getW x.b a.toNat 4 else 0
def putB (x : BS) (a w : Int) : Nat → Int := setB x.b a.toNat w (if fitsB x a then 4 else 0)
def lbSl (x : BS) (l : WL) (a w : Int) (y : LB) : List (Nat × T) := [(0, x.t 0), (1, .int .i64 a), (2, .int .u32 w), (3, l.t 1), (9, .int .u32 (gotB x a)), (10, .bool (decide (fitsB x a))), (11, .int .u32 (gotB x a)), (12, .bool (decide (fitsB x a))), (13, .slice 2 0 [] 0 1 x.len y.c), (14, .bool (decide (fitsB x a))), (15, .slice 3 0 [] 0 1 x.len y.wc)]
def lbC (x : BS) (l : WL) (a w : Int) : Fam where
  α := LB
  I y := x.len ≤ y.c ∧ x.len ≤ y.wc
  st y := { sl := mkSl 99 (lbSl x l a w y), H := [x.reg, l.reg, bReg x.len y.c (putB x a w), bReg x.len y.wc (putB x a w)] }
  μ _ := 0
def lbF (x : BS) (l : WL) (a w : Int) : Fam where
  α := LB
  I y := (x.len ≤ y.c ∧ x.len ≤ y.wc) ∧ y.i ≤ l.len ∧ 4 * y.i ≤ y.ac
  st y := { sl := mkSl 99 (lbSl x l a w y ++ [(16, .slice 4 0 [] 0 1 (4 * y.i) y.ac), (17, .int .i64 y.i)]), H := [x.reg, l.reg, bReg x.len y.c (putB x a w), bReg x.len y.wc (putB x a w), gReg (4 * y.i) y.ac (byteF l.f)] }
  μ y := l.len - y.i
def lbK (x : BS) (l : WL) (a w : Int) : Nat → Gam
  | 12 => .l [lbC x l a w]
  | _ => .l []
def lbM : Nat → Nat
  | 11 => 1
  | _ => 0
def wbytesP : Pat (BS × AI × A32 × WL) where
  view _ _ := none
  args x := [x.1.t 0, x.2.1.t, x.2.2.1.t, x.2.2.2.t 1]
  H x := [x.1.reg, x.2.2.2.reg]
  out x := .need (x.1.Ok ∧ x.2.1.Ok ∧ x.2.2.1.Ok ∧ x.2.2.2.Ok) (.retq .tt)
def tWB : Tab := [(9, aliveP.sp), (16, getPt.sp), (17, getPt.sp), (18, copy2Pt.sp), (19, setPt.sp), (20, fourPt.sp), (21, samePt.sp), (22, bytesLPt.sp)]
theorem tWB_ok : TabOk Try.prog tWB := (tab_cons alive_ok (tab_cons get_ok (tab_cons rget_ok (tab_cons copy2_ok (tab_cons set_ok (tab_cons four_ok (tab_cons same_ok (tab_cons bytesL_ok tab_nil))))))))

theorem wbytes_vc : ∀ (x : BS) (a : AI) (w : A32) (l : WL),
    (x.Ok ∧ a.Ok ∧ w.Ok ∧ l.Ok) ∧ True →
      (True ∧ True) ∧
        (x.nil = true → x.len = (0 : Nat)) ∧
          (decide ((↑x.len : Int) > (2000 : Int)) = true →
              x.Ok ∧ a.Ok ∧ w.Ok ∧ l.Ok →
                True ∧
                  True ∧
                    ((0 : Nat) ≤ (0 : Nat) ∧ x.len = x.len ∧ ∀ (j : Nat), j < x.len → x.b j = x.b j) ∧
                      ((0 : Nat) ≤ (0 : Nat) ∧ l.len = l.len ∧ ∀ (j : Nat), j < l.len → l.f j = l.f j) ∧ True) ∧
            (decide ((↑x.len : Int) > (2000 : Int)) = false →
              (l.nil = true → l.len = (0 : Nat)) ∧
                (decide ((↑l.len : Int) > (300 : Int)) = true →
                    x.Ok ∧ a.Ok ∧ w.Ok ∧ l.Ok →
                      True ∧
                        True ∧
                          ((0 : Nat) ≤ (0 : Nat) ∧ x.len = x.len ∧ ∀ (j : Nat), j < x.len → x.b j = x.b j) ∧
                            ((0 : Nat) ≤ (0 : Nat) ∧ l.len = l.len ∧ ∀ (j : Nat), j < l.len → l.f j = l.f j) ∧ True) ∧
                  (decide ((↑l.len : Int) > (300 : Int)) = false →
                    ((((x.nil = true → x.nil = true) ∧ (x.nil = false → x.nil = false ∧ True ∧ True ∧ (0 : Nat) = (0 : Nat) ∧ x.len = x.len ∧ x.cap = x.cap)) ∧ a.v = a.v ∧ True) ∧
                        ((0 : Nat) ≤ (0 : Nat) ∧ x.len = x.len ∧ ∀ (j : Nat), j < x.len → x.b j = x.b ((0 : Nat) + j)) ∧ True) ∧
                      ((BS.mk x.nil x.len x.cap fun (j : Nat) => x.b ((0 : Nat) + j)).Ok ∧ (-9223372036854775808 : Int) ≤ a.v ∧ a.v < (9223372036854775808 : Int)) ∧
                        ∀ (v : Int),
                          (v =
                              if fitsB (BS.mk x.nil x.len x.cap fun (j : Nat) => x.b ((0 : Nat) + j)) a.v then getW (fun (j : Nat) => x.b ((0 : Nat) + j)) a.v.toNat (4 : Nat)
                              else (0 : Int)) →
                            ((((x.nil = true → x.nil = true) ∧ (x.nil = false → x.nil = false ∧ True ∧ True ∧ (0 : Nat) = (0 : Nat) ∧ x.len = x.len ∧ x.cap = x.cap)) ∧
                                  a.v = a.v ∧ True) ∧
                                ((0 : Nat) ≤ (0 : Nat) ∧ x.len = x.len ∧ ∀ (j : Nat), j < x.len → x.b j = x.b ((0 : Nat) + j)) ∧ True) ∧
                              ((BS.mk x.nil x.len x.cap fun (j : Nat) => x.b ((0 : Nat) + j)).Ok ∧ (-9223372036854775808 : Int) ≤ a.v ∧ a.v < (9223372036854775808 : Int)) ∧
                                ∀ (v_1 : Int),
                                  (v_1 =
                                      if fitsB (BS.mk x.nil x.len x.cap fun (j : Nat) => x.b ((0 : Nat) + j)) a.v then getW (fun (j : Nat) => x.b ((0 : Nat) + j)) a.v.toNat (4 : Nat)
                                      else (0 : Int)) →
                                    ((((x.nil = true → x.nil = true) ∧ (x.nil = false → x.nil = false ∧ True ∧ True ∧ (0 : Nat) = (0 : Nat) ∧ x.len = x.len ∧ x.cap = x.cap)) ∧
                                          True) ∧
                                        ((0 : Nat) ≤ (0 : Nat) ∧ x.len = x.len ∧ ∀ (j : Nat), j < x.len → x.b j = x.b j) ∧ True) ∧
                                      (BV.mk x.nil (0 : Nat) x.len x.cap x.len x.b).Ok ∧
                                        ∀ (x_1 : Nat),
                                          x.len ≤ x_1 →
                                            (((True ∧ True ∧ (0 : Nat) = (0 : Nat) ∧ x.len = x.len ∧ x_1 = x_1) ∧ a.v = a.v ∧ w.v = w.v ∧ True) ∧
                                                ((0 : Nat) ≤ x_1 * (1 : Nat) ∧ x.len = x.len ∧ ∀ (j : Nat), j < x.len → x.b ((0 : Nat) + j) = x.b ((0 : Nat) + j)) ∧ True) ∧
                                              (x.len ≤ (9223372036854775807 : Nat) ∧
                                                  ((-9223372036854775808 : Int) ≤ a.v ∧ a.v < (9223372036854775808 : Int)) ∧ (0 : Int) ≤ w.v ∧ w.v < (4294967296 : Int)) ∧
                                                ((((x.nil = true → x.nil = true) ∧
                                                        (x.nil = false → x.nil = false ∧ True ∧ True ∧ (0 : Nat) = (0 : Nat) ∧ x.len = x.len ∧ x.cap = x.cap)) ∧
                                                      True) ∧
                                                    ((0 : Nat) ≤ (0 : Nat) ∧ x.len = x.len ∧ ∀ (j : Nat), j < x.len → x.b j = x.b j) ∧ True) ∧
                                                  (BV.mk x.nil (0 : Nat) x.len x.cap x.len x.b).Ok ∧
                                                    ∀ (x_2 : Nat),
                                                      x.len ≤ x_2 →
                                                        ((decide (fitsB (BS.mk x.nil x.len x.cap fun (j : Nat) => x.b ((0 : Nat) + j)) a.v) = true →
                                                              (x.nil = true → True ∧ a.v = (0 : Int) ∧ True) ∧
                                                                ((0 : Int) ≤ a.v ∧ a.v ≤ (↑x.cap : Int)) ∧
                                                                  (x.nil = true → IntKind.i64.wrap (a.v + (4 : Int)) = (0 : Int) ∧ True ∧ True) ∧
                                                                    ((0 : Int) ≤ IntKind.i64.wrap (a.v + (4 : Int)) ∧ IntKind.i64.wrap (a.v + (4 : Int)) ≤ (↑x.len : Int)) ∧
                                                                      ((((x.nil = true → x.nil = true) ∧
                                                                              (x.nil = false →
                                                                                x.nil = false ∧ True ∧ True ∧ (0 : Nat) = (0 : Nat) ∧ a.v.toNat = a.v.toNat ∧ x.cap = x.cap)) ∧
                                                                            True) ∧
                                                                          ((0 : Nat) ≤ (0 : Nat) ∧ x.len = x.len ∧ ∀ (j : Nat), j < x.len → x.b j = x.b j) ∧ True) ∧
                                                                        (BV.mk x.nil (0 : Nat) a.v.toNat x.cap x.len x.b).Ok ∧
                                                                          ∀ (x_3 : Nat),
                                                                            a.v.toNat ≤ x_3 →
                                                                              ((w.v = w.v ∧ True) ∧ True) ∧
                                                                                ((0 : Int) ≤ w.v ∧ w.v < (4294967296 : Int)) ∧
                                                                                  (4 : Nat) ≤ (4 : Nat) ∧
                                                                                    ((0 : Nat) = (0 : Nat) ∧
                                                                                        a.v.toNat ≤ a.v.toNat ∧
                                                                                          a.v.toNat ≤ x_3 ∧
                                                                                            x_3 * (1 : Nat) ≤ x_3 * (1 : Nat) ∧
                                                                                              (a.v.toNat + (4 : Nat)) * (1 : Nat) ≤ (140737488355328 : Nat) ∧
                                                                                                a.v.toNat + (4 : Nat) ≤ (9223372036854775807 : Nat) ∧
                                                                                                  (∀ (_ : Nat), (1 : Nat) = (1 : Nat)) ∧ ∀ (_ : Nat), (1 : Nat) = (1 : Nat)) ∧
                                                                                      ∀ (cap' : Nat),
                                                                                        a.v.toNat + (4 : Nat) ≤ cap' →
                                                                                          (x.nil = true → x.len - (IntKind.i64.wrap (a.v + (4 : Int))).toNat = (0 : Nat)) ∧
                                                                                            (if x.cap = (IntKind.i64.wrap (a.v + (4 : Int))).toNat then (0 : Nat)
                                                                                                  else (0 : Nat) + (IntKind.i64.wrap (a.v + (4 : Int))).toNat) +
                                                                                                  (x.len - (IntKind.i64.wrap (a.v + (4 : Int))).toNat) ≤
                                                                                                x.len ∧
                                                                                              ((0 : Nat) = (0 : Nat) ∧
                                                                                                  a.v.toNat + (4 : Nat) ≤ a.v.toNat + (4 : Nat) ∧
                                                                                                    a.v.toNat + (4 : Nat) ≤ cap' ∧
                                                                                                      cap' * (1 : Nat) ≤ cap' * (1 : Nat) ∧
                                                                                                        (a.v.toNat + (4 : Nat) +
                                                                                                                (x.len - (IntKind.i64.wrap (a.v + (4 : Int))).toNat)) *
                                                                                                              (1 : Nat) ≤
                                                                                                            (140737488355328 : Nat) ∧
                                                                                                          a.v.toNat + (4 : Nat) +
                                                                                                                (x.len - (IntKind.i64.wrap (a.v + (4 : Int))).toNat) ≤
                                                                                                              (9223372036854775807 : Nat) ∧
                                                                                                            (∀ (_ : Nat), (1 : Nat) = (1 : Nat)) ∧
                                                                                                              ∀ (_ : Nat), (1 : Nat) = (1 : Nat)) ∧
                                                                                                ∀ (cap' : Nat),
                                                                                                  a.v.toNat + (4 : Nat) + (x.len - (IntKind.i64.wrap (a.v + (4 : Int))).toNat) ≤
                                                                                                      cap' →
                                                                                                    ∃ (y : LB),
                                                                                                      (x.len ≤ y.c ∧ x.len ≤ y.wc) ∧
                                                                                                        ((((x.nil = true → x.nil = true) ∧
                                                                                                                (x.nil = false →
                                                                                                                  x.nil = false ∧
                                                                                                                    True ∧
                                                                                                                      True ∧ (0 : Nat) = (0 : Nat) ∧ x.len = x.len ∧ x.cap = x.cap)) ∧
                                                                                                              a.v = a.v ∧
                                                                                                                w.v = w.v ∧
                                                                                                                  ((l.nil = true → l.nil = true) ∧
                                                                                                                      (l.nil = false →
                                                                                                                        l.nil = false ∧
                                                                                                                          True ∧
                                                                                                                            True ∧
                                                                                                                              (0 : Nat) = (0 : Nat) ∧
                                                                                                                                l.len = l.len ∧ l.cap = l.cap)) ∧
                                                                                                                    v = gotB x a.v ∧
                                                                                                                      decide
                                                                                                                            (fitsB
                                                                                                                              (BS.mk x.nil x.len x.cap fun (j : Nat) =>
                                                                                                                                x.b ((0 : Nat) + j))
                                                                                                                              a.v) =
                                                                                                                          decide (fitsB x a.v) ∧
                                                                                                                        v_1 = gotB x a.v ∧
                                                                                                                          decide
                                                                                                                                (fitsB
                                                                                                                                  (BS.mk x.nil x.len x.cap fun (j : Nat) =>
                                                                                                                                    x.b ((0 : Nat) + j))
                                                                                                                                  a.v) =
                                                                                                                              decide (fitsB x a.v) ∧
                                                                                                                            (True ∧
                                                                                                                                True ∧
                                                                                                                                  (0 : Nat) = (0 : Nat) ∧ x.len = x.len ∧ x_1 = y.c) ∧
                                                                                                                              decide
                                                                                                                                    (fitsB
                                                                                                                                      (BS.mk false x.len x_1 fun (j : Nat) =>
                                                                                                                                        x.b ((0 : Nat) + j))
                                                                                                                                      a.v) =
                                                                                                                                  decide (fitsB x a.v) ∧
                                                                                                                                (True ∧
                                                                                                                                    True ∧
                                                                                                                                      (0 : Nat) = (0 : Nat) ∧
                                                                                                                                        a.v.toNat + (4 : Nat) +
                                                                                                                                              (x.len -
                                                                                                                                                (IntKind.i64.wrap
                                                                                                                                                    (a.v + (4 : Int))).toNat) =
                                                                                                                                            x.len ∧
                                                                                                                                          cap' = y.wc) ∧
                                                                                                                                  True) ∧
                                                                                                            ((0 : Nat) ≤ (0 : Nat) ∧
                                                                                                                x.len = x.len ∧ ∀ (j : Nat), j < x.len → x.b j = x.b j) ∧
                                                                                                              ((0 : Nat) ≤ (0 : Nat) ∧
                                                                                                                  l.len = l.len ∧ ∀ (j : Nat), j < l.len → l.f j = l.f j) ∧
                                                                                                                ((0 : Nat) ≤ x_1 * (1 : Nat) ∧
                                                                                                                    x.len = x.len ∧
                                                                                                                      ∀ (j : Nat),
                                                                                                                        j < x.len →
                                                                                                                          setB (fun (j : Nat) => x.b ((0 : Nat) + j)) a.v.toNat w.v
                                                                                                                              (if
                                                                                                                                  fitsB
                                                                                                                                    (BS.mk false x.len x_1 fun (j : Nat) =>
                                                                                                                                      x.b ((0 : Nat) + j))
                                                                                                                                    a.v then
                                                                                                                                (4 : Nat)
                                                                                                                              else (0 : Nat))
                                                                                                                              j =
                                                                                                                            putB x a.v w.v j) ∧
                                                                                                                  ((0 : Nat) ≤ cap' * (1 : Nat) ∧
                                                                                                                      x.len =
                                                                                                                          a.v.toNat + (4 : Nat) +
                                                                                                                            (x.len - (IntKind.i64.wrap (a.v + (4 : Int))).toNat) ∧
                                                                                                                        ∀ (j : Nat),
                                                                                                                          j <
                                                                                                                              a.v.toNat + (4 : Nat) +
                                                                                                                                (x.len - (IntKind.i64.wrap (a.v + (4 : Int))).toNat) →
                                                                                                                            (j.blt (a.v.toNat + (4 : Nat)) = true →
                                                                                                                                (j.blt a.v.toNat = true →
                                                                                                                                    x.b ((0 : Nat) + j) = putB x a.v w.v j) ∧
                                                                                                                                  (j.blt a.v.toNat = false →
                                                                                                                                    byW w.v ((0 : Nat) + (j - a.v.toNat)) =
                                                                                                                                      putB x a.v w.v j)) ∧
                                                                                                                              (j.blt (a.v.toNat + (4 : Nat)) = false →
                                                                                                                                x.b
                                                                                                                                    ((if
                                                                                                                                          x.cap =
                                                                                                                                            (IntKind.i64.wrap
                                                                                                                                                (a.v + (4 : Int))).toNat then
                                                                                                                                        (0 : Nat)
                                                                                                                                      else
                                                                                                                                        (0 : Nat) +
                                                                                                                                          (IntKind.i64.wrap
                                                                                                                                              (a.v + (4 : Int))).toNat) +
                                                                                                                                      (j - (a.v.toNat + (4 : Nat)))) =
                                                                                                                                  putB x a.v w.v j)) ∧
                                                                                                                    True) ∧
                                                                                                          True) ∧
                                                            (decide (fitsB (BS.mk x.nil x.len x.cap fun (j : Nat) => x.b ((0 : Nat) + j)) a.v) = false →
                                                              ∃ (y : LB),
                                                                (x.len ≤ y.c ∧ x.len ≤ y.wc) ∧
                                                                  ((((x.nil = true → x.nil = true) ∧
                                                                          (x.nil = false → x.nil = false ∧ True ∧ True ∧ (0 : Nat) = (0 : Nat) ∧ x.len = x.len ∧ x.cap = x.cap)) ∧
                                                                        a.v = a.v ∧
                                                                          w.v = w.v ∧
                                                                            ((l.nil = true → l.nil = true) ∧
                                                                                (l.nil = false →
                                                                                  l.nil = false ∧ True ∧ True ∧ (0 : Nat) = (0 : Nat) ∧ l.len = l.len ∧ l.cap = l.cap)) ∧
                                                                              v = gotB x a.v ∧
                                                                                decide (fitsB (BS.mk x.nil x.len x.cap fun (j : Nat) => x.b ((0 : Nat) + j)) a.v) =
                                                                                    decide (fitsB x a.v) ∧
                                                                                  v_1 = gotB x a.v ∧
                                                                                    decide (fitsB (BS.mk x.nil x.len x.cap fun (j : Nat) => x.b ((0 : Nat) + j)) a.v) =
                                                                                        decide (fitsB x a.v) ∧
                                                                                      (True ∧ True ∧ (0 : Nat) = (0 : Nat) ∧ x.len = x.len ∧ x_1 = y.c) ∧
                                                                                        decide (fitsB (BS.mk false x.len x_1 fun (j : Nat) => x.b ((0 : Nat) + j)) a.v) =
                                                                                            decide (fitsB x a.v) ∧
                                                                                          (True ∧ True ∧ (0 : Nat) = (0 : Nat) ∧ x.len = x.len ∧ x_2 = y.wc) ∧ True) ∧
                                                                      ((0 : Nat) ≤ (0 : Nat) ∧ x.len = x.len ∧ ∀ (j : Nat), j < x.len → x.b j = x.b j) ∧
                                                                        ((0 : Nat) ≤ (0 : Nat) ∧ l.len = l.len ∧ ∀ (j : Nat), j < l.len → l.f j = l.f j) ∧
                                                                          ((0 : Nat) ≤ x_1 * (1 : Nat) ∧
                                                                              x.len = x.len ∧
                                                                                ∀ (j : Nat),
                                                                                  j < x.len →
                                                                                    setB (fun (j : Nat) => x.b ((0 : Nat) + j)) a.v.toNat w.v
                                                                                        (if fitsB (BS.mk false x.len x_1 fun (j : Nat) => x.b ((0 : Nat) + j)) a.v then (4 : Nat)
                                                                                        else (0 : Nat))
                                                                                        j =
                                                                                      putB x a.v w.v j) ∧
                                                                            ((0 : Nat) ≤ x_2 * (1 : Nat) ∧
                                                                                x.len = x.len ∧ ∀ (j : Nat), j < x.len → x.b ((0 : Nat) + j) = putB x a.v w.v j) ∧
                                                                              True) ∧
                                                                    True)) ∧
                                                          ∀ (y : LB),
                                                            x.len ≤ y.c ∧ x.len ≤ y.wc →
                                                              ∀ (v : Int),
                                                                v = (0 : Int) →
                                                                  (∃ (y_1 : LB),
                                                                      ((x.len ≤ y_1.c ∧ x.len ≤ y_1.wc) ∧ y_1.i ≤ l.len ∧ (4 : Nat) * y_1.i ≤ y_1.ac) ∧
                                                                        ((((x.nil = true → x.nil = true) ∧
                                                                                (x.nil = false →
                                                                                  x.nil = false ∧ True ∧ True ∧ (0 : Nat) = (0 : Nat) ∧ x.len = x.len ∧ x.cap = x.cap)) ∧
                                                                              a.v = a.v ∧
                                                                                w.v = w.v ∧
                                                                                  ((l.nil = true → l.nil = true) ∧
                                                                                      (l.nil = false →
                                                                                        l.nil = false ∧ True ∧ True ∧ (0 : Nat) = (0 : Nat) ∧ l.len = l.len ∧ l.cap = l.cap)) ∧
                                                                                    gotB x a.v = gotB x a.v ∧
                                                                                      decide (fitsB x a.v) = decide (fitsB x a.v) ∧
                                                                                        gotB x a.v = gotB x a.v ∧
                                                                                          decide (fitsB x a.v) = decide (fitsB x a.v) ∧
                                                                                            (True ∧ True ∧ (0 : Nat) = (0 : Nat) ∧ x.len = x.len ∧ y.c = y_1.c) ∧
                                                                                              decide (fitsB x a.v) = decide (fitsB x a.v) ∧
                                                                                                (True ∧ True ∧ (0 : Nat) = (0 : Nat) ∧ x.len = x.len ∧ y.wc = y_1.wc) ∧
                                                                                                  (True ∧
                                                                                                      True ∧
                                                                                                        (0 : Nat) = (0 : Nat) ∧ (0 : Nat) = (4 : Nat) * y_1.i ∧ (0 : Nat) = y_1.ac) ∧
                                                                                                    v = (↑y_1.i : Int) ∧ True) ∧
                                                                            ((0 : Nat) ≤ (0 : Nat) ∧ x.len = x.len ∧ ∀ (j : Nat), j < x.len → x.b j = x.b j) ∧
                                                                              ((0 : Nat) ≤ (0 : Nat) ∧ l.len = l.len ∧ ∀ (j : Nat), j < l.len → l.f j = l.f j) ∧
                                                                                ((0 : Nat) ≤ (0 : Nat) ∧
                                                                                    x.len = x.len ∧ ∀ (j : Nat), j < x.len → putB x a.v w.v j = putB x a.v w.v j) ∧
                                                                                  ((0 : Nat) ≤ (0 : Nat) ∧
                                                                                      x.len = x.len ∧ ∀ (j : Nat), j < x.len → putB x a.v w.v j = putB x a.v w.v j) ∧
                                                                                    (y_1.ac * (1 : Nat) ≤ (0 : Nat) ∧
                                                                                        (4 : Nat) * y_1.i = (0 : Nat) ∧ ∀ (j : Nat), j < (0 : Nat) → False) ∧
                                                                                      True) ∧
                                                                          True) ∧
                                                                    ∀ (y : LB),
                                                                      (x.len ≤ y.c ∧ x.len ≤ y.wc) ∧ y.i ≤ l.len ∧ (4 : Nat) * y.i ≤ y.ac →
                                                                        (l.nil = true → l.len = (0 : Nat)) ∧
                                                                          (decide ((↑y.i : Int) < (↑l.len : Int)) = true →
                                                                              (l.nil = true → l.len = (0 : Nat)) ∧
                                                                                ((0 : Int) ≤ (↑y.i : Int) ∧ (↑y.i : Int) < (↑l.len : Int)) ∧
                                                                                  (0 : Nat) + (↑y.i : Int).toNat < l.len ∧
                                                                                    ((l.f ((0 : Nat) + (↑y.i : Int).toNat) = l.f ((0 : Nat) + (↑y.i : Int).toNat) ∧ True) ∧ True) ∧
                                                                                      ((0 : Int) ≤ l.f ((0 : Nat) + (↑y.i : Int).toNat) ∧
                                                                                          l.f ((0 : Nat) + (↑y.i : Int).toNat) < (4294967296 : Int)) ∧
                                                                                        (4 : Nat) ≤ (4 : Nat) ∧
                                                                                          ((0 : Nat) = (0 : Nat) ∧
                                                                                              (4 : Nat) * y.i ≤ (4 : Nat) * y.i ∧
                                                                                                (4 : Nat) * y.i ≤ y.ac ∧
                                                                                                  y.ac * (1 : Nat) ≤ y.ac * (1 : Nat) ∧
                                                                                                    ((4 : Nat) * y.i + (4 : Nat)) * (1 : Nat) ≤ (140737488355328 : Nat) ∧
                                                                                                      (4 : Nat) * y.i + (4 : Nat) ≤ (9223372036854775807 : Nat) ∧
                                                                                                        (∀ (_ : Nat), (1 : Nat) = (1 : Nat)) ∧ ∀ (_ : Nat), (1 : Nat) = (1 : Nat)) ∧
                                                                                            ∀ (cap' : Nat),
                                                                                              (4 : Nat) * y.i + (4 : Nat) ≤ cap' →
                                                                                                ∀ (v : Int),
                                                                                                  v = IntKind.i64.wrap ((↑y.i : Int) + (1 : Int)) →
                                                                                                    ∃ (y_1 : LB),
                                                                                                      ((x.len ≤ y_1.c ∧ x.len ≤ y_1.wc) ∧
                                                                                                          y_1.i ≤ l.len ∧ (4 : Nat) * y_1.i ≤ y_1.ac) ∧
                                                                                                        ((((x.nil = true → x.nil = true) ∧
                                                                                                                (x.nil = false →
                                                                                                                  x.nil = false ∧
                                                                                                                    True ∧
                                                                                                                      True ∧ (0 : Nat) = (0 : Nat) ∧ x.len = x.len ∧ x.cap = x.cap)) ∧
                                                                                                              a.v = a.v ∧
                                                                                                                w.v = w.v ∧
                                                                                                                  ((l.nil = true → l.nil = true) ∧
                                                                                                                      (l.nil = false →
                                                                                                                        l.nil = false ∧
                                                                                                                          True ∧
                                                                                                                            True ∧
                                                                                                                              (0 : Nat) = (0 : Nat) ∧
                                                                                                                                l.len = l.len ∧ l.cap = l.cap)) ∧
                                                                                                                    gotB x a.v = gotB x a.v ∧
                                                                                                                      decide (fitsB x a.v) = decide (fitsB x a.v) ∧
                                                                                                                        gotB x a.v = gotB x a.v ∧
                                                                                                                          decide (fitsB x a.v) = decide (fitsB x a.v) ∧
                                                                                                                            (True ∧
                                                                                                                                True ∧
                                                                                                                                  (0 : Nat) = (0 : Nat) ∧
                                                                                                                                    x.len = x.len ∧ y.c = y_1.c) ∧
                                                                                                                              decide (fitsB x a.v) = decide (fitsB x a.v) ∧
                                                                                                                                (True ∧
                                                                                                                                    True ∧
                                                                                                                                      (0 : Nat) = (0 : Nat) ∧
                                                                                                                                        x.len = x.len ∧ y.wc = y_1.wc) ∧
                                                                                                                                  (True ∧
                                                                                                                                      True ∧
                                                                                                                                        (0 : Nat) = (0 : Nat) ∧
                                                                                                                                          (4 : Nat) * y.i + (4 : Nat) =
                                                                                                                                              (4 : Nat) * y_1.i ∧
                                                                                                                                            cap' = y_1.ac) ∧
                                                                                                                                    v = (↑y_1.i : Int) ∧ True) ∧
                                                                                                            ((0 : Nat) ≤ (0 : Nat) ∧
                                                                                                                x.len = x.len ∧ ∀ (j : Nat), j < x.len → x.b j = x.b j) ∧
                                                                                                              ((0 : Nat) ≤ (0 : Nat) ∧
                                                                                                                  l.len = l.len ∧ ∀ (j : Nat), j < l.len → l.f j = l.f j) ∧
                                                                                                                ((0 : Nat) ≤ (0 : Nat) ∧
                                                                                                                    x.len = x.len ∧
                                                                                                                      ∀ (j : Nat), j < x.len → putB x a.v w.v j = putB x a.v w.v j) ∧
                                                                                                                  ((0 : Nat) ≤ (0 : Nat) ∧
                                                                                                                      x.len = x.len ∧
                                                                                                                        ∀ (j : Nat),
                                                                                                                          j < x.len → putB x a.v w.v j = putB x a.v w.v j) ∧
                                                                                                                    (y_1.ac * (1 : Nat) ≤ cap' * (1 : Nat) ∧
                                                                                                                        (4 : Nat) * y_1.i = (4 : Nat) * y.i + (4 : Nat) ∧
                                                                                                                          ∀ (j : Nat),
                                                                                                                            j < (4 : Nat) * y.i + (4 : Nat) →
                                                                                                                              (j.blt ((4 : Nat) * y.i) = true →
                                                                                                                                  byteF l.f j = byteF l.f j) ∧
                                                                                                                                (j.blt ((4 : Nat) * y.i) = false →
                                                                                                                                  byW (l.f ((0 : Nat) + (↑y.i : Int).toNat))
                                                                                                                                      ((0 : Nat) + (j - (4 : Nat) * y.i)) =
                                                                                                                                    byteF l.f j)) ∧
                                                                                                                      True) ∧
                                                                                                          (lbF x l a.v w.v).μ y_1 < (lbF x l a.v w.v).μ y) ∧
                                                                            (decide ((↑y.i : Int) < (↑l.len : Int)) = false →
                                                                              ((gotB x a.v == gotB x a.v) = true →
                                                                                  ((decide (fitsB x a.v) == decide (fitsB x a.v)) = true →
                                                                                      ((decide (fitsB x a.v) == decide (fitsB x a.v)) = true →
                                                                                          (((false = false ∧ True ∧ True ∧ (0 : Nat) = (0 : Nat) ∧ x.len = x.len ∧ y.c = y.c) ∧
                                                                                                (false = false ∧ True ∧ True ∧ (0 : Nat) = (0 : Nat) ∧ x.len = x.len ∧ y.wc = y.wc) ∧
                                                                                                  True) ∧
                                                                                              ((0 : Nat) ≤ (0 : Nat) ∧
                                                                                                  x.len = x.len ∧
                                                                                                    ∀ (j : Nat), j < x.len → putB x a.v w.v j = putB x a.v w.v ((0 : Nat) + j)) ∧
                                                                                                ((0 : Nat) ≤ (0 : Nat) ∧
                                                                                                    x.len = x.len ∧
                                                                                                      ∀ (j : Nat), j < x.len → putB x a.v w.v j = putB x a.v w.v ((0 : Nat) + j)) ∧
                                                                                                  True) ∧
                                                                                            ((BS.mk false x.len y.c fun (j : Nat) => putB x a.v w.v ((0 : Nat) + j)).Ok ∧
                                                                                                (BS.mk false x.len y.wc fun (j : Nat) => putB x a.v w.v ((0 : Nat) + j)).Ok) ∧
                                                                                              (decide
                                                                                                      (sameB (BS.mk false x.len y.c fun (j : Nat) => putB x a.v w.v ((0 : Nat) + j))
                                                                                                        (BS.mk false x.len y.wc fun (j : Nat) => putB x a.v w.v ((0 : Nat) + j))) =
                                                                                                    true →
                                                                                                  ((((l.nil = true → l.nil = true) ∧
                                                                                                          (l.nil = false →
                                                                                                            l.nil = false ∧
                                                                                                              True ∧ True ∧ (0 : Nat) = (0 : Nat) ∧ l.len = l.len ∧ l.cap = l.cap)) ∧
                                                                                                        True) ∧
                                                                                                      ((0 : Nat) ≤ (0 : Nat) ∧
                                                                                                          l.len = l.len ∧ ∀ (j : Nat), j < l.len → l.f j = l.f ((0 : Nat) + j)) ∧
                                                                                                        True) ∧
                                                                                                    ((WL.mk l.nil l.len l.cap fun (j : Nat) => l.f ((0 : Nat) + j)).Ok ∧
                                                                                                        l.len ≤ (1000 : Nat)) ∧
                                                                                                      (((false = false ∧
                                                                                                              True ∧
                                                                                                                True ∧
                                                                                                                  (0 : Nat) = (0 : Nat) ∧
                                                                                                                    (4 : Nat) * l.len = (4 : Nat) * l.len ∧
                                                                                                                      (4 : Nat) * l.len = (4 : Nat) * l.len) ∧
                                                                                                            (false = false ∧
                                                                                                                True ∧
                                                                                                                  True ∧
                                                                                                                    (0 : Nat) = (0 : Nat) ∧
                                                                                                                      (4 : Nat) * y.i = (4 : Nat) * y.i ∧ y.ac = y.ac) ∧
                                                                                                              True) ∧
                                                                                                          ((0 : Nat) ≤ (0 : Nat) ∧
                                                                                                              (4 : Nat) * l.len = (4 : Nat) * l.len ∧
                                                                                                                ∀ (j : Nat),
                                                                                                                  j < (4 : Nat) * l.len →
                                                                                                                    byteF (fun (j : Nat) => l.f ((0 : Nat) + j)) j =
                                                                                                                      byteF (fun (j : Nat) => l.f ((0 : Nat) + j)) ((0 : Nat) + j)) ∧
                                                                                                            ((0 : Nat) ≤ y.ac * (1 : Nat) ∧
                                                                                                                (4 : Nat) * y.i = (4 : Nat) * y.i ∧
                                                                                                                  ∀ (j : Nat),
                                                                                                                    j < (4 : Nat) * y.i → byteF l.f j = byteF l.f ((0 : Nat) + j)) ∧
                                                                                                              True) ∧
                                                                                                        ((BS.mk false ((4 : Nat) * l.len) ((4 : Nat) * l.len) fun (j : Nat) =>
                                                                                                                byteF (fun (j : Nat) => l.f ((0 : Nat) + j)) ((0 : Nat) + j)).Ok ∧
                                                                                                            (BS.mk false ((4 : Nat) * y.i) y.ac fun (j : Nat) =>
                                                                                                                byteF l.f ((0 : Nat) + j)).Ok) ∧
                                                                                                          (x.Ok ∧ a.Ok ∧ w.Ok ∧ l.Ok →
                                                                                                            decide
                                                                                                                  (sameB
                                                                                                                    (BS.mk false ((4 : Nat) * l.len) ((4 : Nat) * l.len)
                                                                                                                      fun (j : Nat) =>
                                                                                                                      byteF (fun (j : Nat) => l.f ((0 : Nat) + j)) ((0 : Nat) + j))
                                                                                                                    (BS.mk false ((4 : Nat) * y.i) y.ac fun (j : Nat) =>
                                                                                                                      byteF l.f ((0 : Nat) + j))) =
                                                                                                                true ∧
                                                                                                              True ∧
                                                                                                                ((0 : Nat) ≤ (0 : Nat) ∧
                                                                                                                    x.len = x.len ∧ ∀ (j : Nat), j < x.len → x.b j = x.b j) ∧
                                                                                                                  ((0 : Nat) ≤ (0 : Nat) ∧
                                                                                                                      l.len = l.len ∧ ∀ (j : Nat), j < l.len → l.f j = l.f j) ∧
                                                                                                                    True)) ∧
                                                                                                (decide
                                                                                                      (sameB (BS.mk false x.len y.c fun (j : Nat) => putB x a.v w.v ((0 : Nat) + j))
                                                                                                        (BS.mk false x.len y.wc fun (j : Nat) => putB x a.v w.v ((0 : Nat) + j))) =
                                                                                                    false →
                                                                                                  x.Ok ∧ a.Ok ∧ w.Ok ∧ l.Ok →
                                                                                                    False ∧
                                                                                                      True ∧
                                                                                                        ((0 : Nat) ≤ (0 : Nat) ∧
                                                                                                            x.len = x.len ∧ ∀ (j : Nat), j < x.len → x.b j = x.b j) ∧
                                                                                                          ((0 : Nat) ≤ (0 : Nat) ∧
                                                                                                              l.len = l.len ∧ ∀ (j : Nat), j < l.len → l.f j = l.f j) ∧
                                                                                                            True)) ∧
                                                                                        ((decide (fitsB x a.v) == decide (fitsB x a.v)) = false →
                                                                                          x.Ok ∧ a.Ok ∧ w.Ok ∧ l.Ok →
                                                                                            False ∧
                                                                                              True ∧
                                                                                                ((0 : Nat) ≤ (0 : Nat) ∧ x.len = x.len ∧ ∀ (j : Nat), j < x.len → x.b j = x.b j) ∧
                                                                                                  ((0 : Nat) ≤ (0 : Nat) ∧ l.len = l.len ∧ ∀ (j : Nat), j < l.len → l.f j = l.f j) ∧
                                                                                                    True)) ∧
                                                                                    ((decide (fitsB x a.v) == decide (fitsB x a.v)) = false →
                                                                                      x.Ok ∧ a.Ok ∧ w.Ok ∧ l.Ok →
                                                                                        False ∧
                                                                                          True ∧
                                                                                            ((0 : Nat) ≤ (0 : Nat) ∧ x.len = x.len ∧ ∀ (j : Nat), j < x.len → x.b j = x.b j) ∧
                                                                                              ((0 : Nat) ≤ (0 : Nat) ∧ l.len = l.len ∧ ∀ (j : Nat), j < l.len → l.f j = l.f j) ∧
                                                                                                True)) ∧
                                                                                ((gotB x a.v == gotB x a.v) = false →
                                                                                  x.Ok ∧ a.Ok ∧ w.Ok ∧ l.Ok →
                                                                                    False ∧
                                                                                      True ∧
                                                                                        ((0 : Nat) ≤ (0 : Nat) ∧ x.len = x.len ∧ ∀ (j : Nat), j < x.len → x.b j = x.b j) ∧
                                                                                          ((0 : Nat) ≤ (0 : Nat) ∧ l.len = l.len ∧ ∀ (j : Nat), j < l.len → l.f j = l.f j) ∧ True)))) := by
  simp only [true_and, and_true, eq_self, Nat.le_refl, decide_eq_true_eq, decide_eq_false_iff_not, beq_iff_eq, beq_eq_false_iff_ne, implies_true, true_implies, and_self, Int.not_lt, gt_iff_lt, ne_eq, Nat.zero_add, Int.toNat_natCast, nblt_true, nblt_false, IntKind.wrap_i64]
  rintro x ⟨a⟩ ⟨w⟩ l ⟨hx, ha, hw, hl⟩
  have ha : i64 a := ha
  have hw : u32 w := hw
  obtain ⟨xnil, xlen, xcap, xb⟩ := id hx
  obtain ⟨lnil, llen, lf⟩ := id hl
  have hI1 : ∀ z : LB, (lbF x l a w).I z = ((x.len ≤ z.c ∧ x.len ≤ z.wc) ∧ z.i ≤ l.len ∧ 4 * z.i ≤ z.ac) := fun _ => rfl
  have hM1 : ∀ z : LB, (lbF x l a w).μ z = l.len - z.i := fun _ => rfl
  have hI2 : ∀ z : LB, (lbC x l a w).I z = (x.len ≤ z.c ∧ x.len ≤ z.wc) := fun _ => rfl
  simp only [hM1]
  refine ⟨xnil, fun h2000 => ⟨lnil, fun h300 => ?_⟩⟩
  have hbv : BV.Ok { nil := x.nil, lo := 0, len := x.len, cap := x.cap, n := x.len, b := fun j => x.b j } := ⟨xnil, by show x.len ≤ _; omega, by show 0 + x.len ≤ x.len; omega⟩
  have hfit0 : fitsB x a ↔ (0 ≤ a ∧ a ≤ (x.len : Int) - 4) := Iff.rfl
  have hput0 : ¬ fitsB x a → ∀ j, putB x a w j = x.b j := fun h j => by unfold putB setB; rw [if_neg h, if_neg (by omega)]
  have hput1 : fitsB x a → ∀ j, putB x a w j = if a.toNat ≤ j ∧ j < a.toNat + 4 then byW w (j - a.toNat) else x.b j := fun h j => by unfold putB setB; rw [if_pos h]; rfl
  have hputu : ∀ j, j < x.len → u8 (putB x a w j) := fun j hj => by
    by_cases h : fitsB x a
    · rw [hput1 h]; unfold byW; split
      · unfold u8; omega
      · exact xb j hj
    · rw [hput0 h]; exact xb j hj
  have hget : ∀ v : Int, (v = if fitsB { nil := x.nil, len := x.len, cap := x.cap, b := fun j => x.b j } a then getW (fun j => x.b j) a.toNat 4 else 0) → v = gotB x a := fun v h => h
  have hset : ∀ c j, setB (fun j => x.b j) a.toNat w (if fitsB { nil := false, len := x.len, cap := c, b := fun j => x.b j } a then 4 else 0) j = putB x a w j := fun c j => rfl
  have hdec : ∀ c, decide (fitsB { nil := false, len := x.len, cap := c, b := fun j => x.b j } a) = decide (fitsB x a) := fun c => rfl
  have e1 : fitsB x a → (a + 4 + 9223372036854775808) % 18446744073709551616 - 9223372036854775808 = a + 4 := fun h => by have := hfit0.1 h; omega
  refine ⟨⟨id, id⟩, ⟨hx, ha⟩, fun v hv => ⟨⟨id, id⟩, ⟨hx, ha⟩, fun v1 hv1 => ⟨⟨id, id⟩, hbv, fun c hc => ⟨by omega, ⟨by omega, ha, hw⟩, ⟨id, id⟩, hbv, fun wc hwc => ⟨⟨fun hfit => ?_, fun hfit => ?_⟩, fun y hy => ?_⟩⟩⟩⟩⟩
  · have hfit : fitsB x a := hfit
    obtain ⟨f1, f2⟩ := hfit0.1 hfit
    rw [e1 hfit]
    have hnn : x.nil = true → False := fun h => by have := xnil h; omega
    refine ⟨fun h => (hnn h).elim, by omega, fun h => (hnn h).elim, by omega, ⟨id, id⟩, ⟨fun h => (hnn h).elim, by show a.toNat ≤ _; omega, by show 0 + a.toNat ≤ x.len; omega⟩, fun c3 h3 => ⟨hw, by omega, fun c4 h4 => ⟨fun h => (hnn h).elim, by split <;> omega, by omega, fun c5 h5 => ⟨⟨0, c, c5, 0⟩, ⟨hc, by show x.len ≤ c5; omega⟩, ⟨⟨id, id⟩, ⟨id, id⟩, hget v hv, hget v1 hv1, rfl, hdec c, by omega, rfl⟩, ⟨by omega, fun j _ => hset c j⟩, by omega, by omega, fun j hj => ?_⟩⟩⟩⟩
    rw [hput1 hfit]
    refine ⟨fun h6 => ⟨fun h7 => by rw [if_neg (by omega)], fun h7 => by rw [if_pos (by omega)]⟩, fun h6 => ?_⟩
    rw [if_neg (by omega)]
    split
    · omega
    · congr 1; omega
  · have hfit : ¬ fitsB x a := hfit
    exact ⟨⟨0, c, wc, 0⟩, ⟨hc, hwc⟩, ⟨⟨id, id⟩, ⟨id, id⟩, hget v hv, hget v1 hv1, rfl, hdec c, rfl⟩, ⟨by omega, fun j _ => hset c j⟩, by omega, fun j _ => (hput0 hfit j).symm⟩
  · rintro v rfl
    refine ⟨⟨⟨0, y.c, y.wc, 0⟩, ⟨hy, Nat.zero_le _, Nat.le_refl _⟩, ⟨⟨id, id⟩, ⟨id, id⟩, rfl, rfl, ⟨rfl, rfl⟩, rfl⟩, by show 0 * 1 ≤ 0; omega, rfl, fun j hj => absurd hj (Nat.not_lt_zero j)⟩, fun y hy => ⟨lnil, fun hlt => ⟨lnil, by omega, by omega, lf _, by omega, fun c4 h4 v hv => ⟨⟨y.i + 1, y.c, y.wc, c4⟩, ⟨hy.1, by show y.i + 1 ≤ _; omega, by show 4 * (y.i + 1) ≤ c4; omega⟩, ⟨⟨⟨id, id⟩, ⟨id, id⟩, rfl, rfl, ⟨by show _ = 4 * (y.i + 1); omega, rfl⟩, by show v = ((y.i + 1 : Nat) : Int); omega⟩, by show c4 * 1 ≤ _; omega, by show 4 * (y.i + 1) = _; omega, fun j hj hj2 => ?_⟩, by show l.len - (y.i + 1) < _; omega⟩⟩, fun hge => ?_⟩⟩
    · unfold byW byteF
      rw [show j / 4 = y.i by omega, show j % 4 = j - 4 * y.i by omega]
    · have e : y.i = l.len := by omega
      have hs : sameB { nil := false, len := x.len, cap := y.c, b := fun j => putB x a w j } { nil := false, len := x.len, cap := y.wc, b := fun j => putB x a w j } := ⟨rfl, fun j _ => rfl⟩
      refine ⟨⟨⟨⟨⟨⟨fun h => (nomatch h), xlen, hy.1.1, hputu⟩, ⟨fun h => (nomatch h), xlen, hy.1.2, hputu⟩⟩, fun _ => ⟨⟨id, id⟩, ⟨⟨lnil, llen, lf⟩, by omega⟩, by omega, ⟨⟨fun h => (nomatch h), (by show 4 * l.len ≤ _; omega), Nat.le_refl _, fun j _ => ?_⟩, ⟨fun h => (nomatch h), (by show 4 * y.i ≤ _; omega), hy.2.2, fun j _ => ?_⟩⟩, fun _ => ?_⟩, fun h => absurd hs h⟩, fun h => absurd trivial h⟩, fun h => absurd trivial h⟩, fun h => absurd trivial h⟩
      · show u8 (byteF _ j); unfold byteF u8; omega
      · show u8 (byteF _ j); unfold byteF u8; omega
      · rw [e]; exact ⟨rfl, fun j _ => rfl⟩

def wbytes_C (x : (BS × AI × A32 × WL)) : Cfg := { Γ := Go.Sx.look tWB, names := true, loops := onlyAt 14 [lbF (x.1) (x.2.2.2) (x.2.1).v (x.2.2.1).v], cuts := lbK (x.1) (x.2.2.2) (x.2.1).v (x.2.2.1).v, mode := lbM }
theorem wbytes_al (x : (BS × AI × A32 × WL)) : Shown (wbytesP.vc Try.prog (wbytes_C x) Try.f4 x) := ⟨@Eq.mp _ _ (by kernel_rfl) (wbytes_vc (x.1) (x.2.1) (x.2.2.1) (x.2.2.2))⟩
theorem wbytes_ok : SpOk Try.prog 4 wbytesP.sp := @Pat.okS _ wbytesP Try.prog wbytes_C 4 Try.f4 (fun x => cfg_tab rfl tWB_ok) (by kernel_rfl) Try.func4 (fun _ => rfl) wbytes_al
end Go.Proofs.Ytaaploablbkilaa
