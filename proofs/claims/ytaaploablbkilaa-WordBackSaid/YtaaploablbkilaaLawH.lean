import Derived.Test.YtaaploablbkilaaLawA
open Go Go.Sx Go.Proofs
open Go.ChangeShapes Go.WideShapes Go.ChangeAt Go.RowKit
set_option maxRecDepth 100000
namespace Go.Proofs.Ytaaploablbkilaa

theorem getW_byteF {f : Nat → Int} {i : Nat} (h : u32 (f i)) : getW (byteF f) (4 * i) 4 = f i := by
  obtain ⟨h1, h2⟩ := h
  have e : ∀ k, k < 4 → byteF f (4 * i + k) = f i / 2 ^ (8 * k) % 256 := fun k hk => by
    unfold byteF
    rw [show (4 * i + k) / 4 = i by omega, show (4 * i + k) % 4 = k by omega]
  simp only [getW, e 0 (by omega), e 1 (by omega), e 2 (by omega), e 3 (by omega)]
  rw [show (2 : Int) ^ (8 * 0) = 1 from rfl, show (2 : Int) ^ (8 * 1) = 256 from rfl, show (2 : Int) ^ (8 * 2) = 65536 from rfl, show (2 : Int) ^ (8 * 3) = 16777216 from rfl]
  omega
theorem numOf_u32 (f : Nat → Bool) : u32 ((numOf f 32 : Nat) : Int) := u32_nat (numOf_lt f 32)
theorem putN_u32 {w a n v : Int} (hw : u32 w) : u32 (putN w a n v) := by
  unfold putN; split
  · exact numOf_u32 _
  · exact hw
theorem fieldN_u32 {w a n : Int} : u32 (fieldN w a n) := by
  unfold fieldN; split
  · rename_i h
    have h1 := numOf_lt (fieldF w.toNat a.toNat) n.toNat
    have h2 : (2 : Nat) ^ n.toNat ≤ 2 ^ 32 := Nat.pow_le_pow_right (by decide) (by unfold fitsP at h; omega)
    exact u32_nat (by rw [show (2 : Nat) ^ 32 = 4294967296 from by decide] at h2; omega)
  · exact ⟨by decide, by decide⟩
theorem extN_u32 {v n : Int} : u32 (extN v n) := by
  unfold extN; split
  · exact numOf_u32 _
  · exact ⟨by decide, by decide⟩
theorem back1 {w a n v : Int} (h : fitsP a n) : fieldN (putN w a n v) a n = fieldN v 0 n := by
  have h0 : fitsP 0 n := by unfold fitsP at *; omega
  unfold fieldN
  rw [if_pos h, if_pos h0]
  unfold putN
  rw [if_pos h]
  congr 1
  refine numOf_congr fun j hj => ?_
  unfold fitsP at h
  unfold fieldF
  rw [Int.toNat_natCast, testBit_numOf]
  unfold putF
  rw [if_pos (by omega), show a.toNat + j - a.toNat = j by omega, show (0 : Int).toNat + j = j by simp]
  have : a.toNat + j < 32 := by omega
  simp [this]
theorem back2 {w a n v : Int} (hw : u32 w) (h : fitsP a n) : putN (putN w a n v) a n (fieldN w a n) = w := by
  obtain ⟨W, rfl⟩ := Int.eq_ofNat_of_zero_le hw.1
  have hW : W < 2 ^ 32 := by have := hw.2; rw [show (2 : Nat) ^ 32 = 4294967296 from by decide]; omega
  unfold fieldN putN
  simp only [if_pos h]
  congr 1
  refine (numOf_eq hW fun j hj => ?_).symm
  unfold fitsP at h
  unfold putF fieldF
  simp only [Int.toNat_natCast]
  split
  · rename_i hj2
    rw [testBit_numOf, show a.toNat + (j - a.toNat) = j by omega]
    have : j - a.toNat < n.toNat := by omega
    simp [this]
  · rename_i hj2
    rw [testBit_numOf, if_neg hj2]
    simp [hj]
theorem back3 {v m : Int} (h : 1 ≤ m ∧ m ≤ 32) : fieldN (extN v m) 0 m = fieldN v 0 m := by
  have h0 : fitsP 0 m := by unfold fitsP; omega
  unfold fieldN extN
  rw [if_pos h0, if_pos h0, if_pos h]
  congr 1
  refine numOf_congr fun j hj => ?_
  unfold fieldF extF
  rw [Int.toNat_natCast, testBit_numOf, show (0 : Int).toNat + j = j by simp, show min j (m.toNat - 1) = j by omega]
  have : j < 32 := by omega
  simp [this]
def backP : Pat (A32 × A32 × AI × AI × AI) where
  view _ _ := none
  args x := [x.1.t, x.2.1.t, x.2.2.1.t, x.2.2.2.1.t, x.2.2.2.2.t]
  H _ := []
  out x := .need (x.1.Ok ∧ x.2.1.Ok ∧ x.2.2.1.Ok ∧ x.2.2.2.1.Ok ∧ x.2.2.2.2.Ok) (.retq .tt)
def tBack : Tab := [(9, aliveP.sp), (12, putPt.sp), (10, fieldPt.sp), (22, bytesPt.sp), (16, getPt.sp), (14, extPt.sp)]
theorem tBack_ok : TabOk Try.prog tBack := (tab_cons alive_ok (tab_cons put_ok (tab_cons field_ok (tab_cons bytes_ok (tab_cons get_ok (tab_cons ext_ok tab_nil))))))

theorem back_vc : ∀ (w v : A32) (a n m : AI),
    (w.Ok ∧ v.Ok ∧ a.Ok ∧ n.Ok ∧ m.Ok) ∧ True →
      (True ∧ True) ∧
        ((w.v = w.v ∧ a.v = a.v ∧ n.v = n.v ∧ v.v = v.v ∧ True) ∧ True) ∧
          (((0 : Int) ≤ w.v ∧ w.v < (4294967296 : Int)) ∧
              ((-9223372036854775808 : Int) ≤ a.v ∧ a.v < (9223372036854775808 : Int)) ∧
                ((-9223372036854775808 : Int) ≤ n.v ∧ n.v < (9223372036854775808 : Int)) ∧ (0 : Int) ≤ v.v ∧ v.v < (4294967296 : Int)) ∧
            ∀ (v_1 : Int),
              v_1 = putN w.v a.v n.v v.v →
                (decide (n.v < (1 : Int)) = true → w.Ok ∧ v.Ok ∧ a.Ok ∧ n.Ok ∧ m.Ok → (v_1 == w.v) = true ∧ True ∧ True) ∧
                  (decide (n.v < (1 : Int)) = false →
                    (decide (n.v > (32 : Int)) = true → w.Ok ∧ v.Ok ∧ a.Ok ∧ n.Ok ∧ m.Ok → (v_1 == w.v) = true ∧ True ∧ True) ∧
                      (decide (n.v > (32 : Int)) = false →
                        (decide (a.v < (0 : Int)) = true → w.Ok ∧ v.Ok ∧ a.Ok ∧ n.Ok ∧ m.Ok → (v_1 == w.v) = true ∧ True ∧ True) ∧
                          (decide (a.v < (0 : Int)) = false →
                            (decide (a.v > IntKind.i64.wrap ((32 : Int) - n.v)) = true → w.Ok ∧ v.Ok ∧ a.Ok ∧ n.Ok ∧ m.Ok → (v_1 == w.v) = true ∧ True ∧ True) ∧
                              (decide (a.v > IntKind.i64.wrap ((32 : Int) - n.v)) = false →
                                (((True ∧ True ∧ (0 : Nat) = (0 : Nat) ∧ (3 : Nat) = (3 : Nat) ∧ (3 : Nat) = (3 : Nat)) ∧ True) ∧
                                    ((0 : Nat) ≤ (3 : Nat) ∧
                                        (3 : Nat) = (3 : Nat) ∧
                                          ∀ (j : Nat),
                                            j < (3 : Nat) →
                                              (bif j.beq (0 : Nat) then w.v else bif j.beq (1 : Nat) then v.v else v_1) =
                                                bif j.beq (0 : Nat) then w.v else bif j.beq (1 : Nat) then v.v else v_1) ∧
                                      True) ∧
                                  ((3 : Nat) ≤ (1000 : Nat) ∧
                                      ∀ (j : Nat),
                                        ((0 : Int) ≤ bif j.beq (0 : Nat) then w.v else bif j.beq (1 : Nat) then v.v else v_1) ∧
                                          (bif j.beq (0 : Nat) then w.v else bif j.beq (1 : Nat) then v.v else v_1) < (4294967296 : Int)) ∧
                                    (((false = false ∧ True ∧ True ∧ (0 : Nat) = (0 : Nat) ∧ (12 : Nat) = (12 : Nat) ∧ (12 : Nat) = (12 : Nat)) ∧ (8 : Int) = (8 : Int) ∧ True) ∧
                                        ((0 : Nat) ≤ (0 : Nat) ∧
                                            (12 : Nat) = (12 : Nat) ∧
                                              ∀ (j : Nat),
                                                j < (12 : Nat) →
                                                  byteF (fun (j : Nat) => bif j.beq (0 : Nat) then w.v else bif j.beq (1 : Nat) then v.v else v_1) j =
                                                    byteF (fun (j : Nat) => bif j.beq (0 : Nat) then w.v else bif j.beq (1 : Nat) then v.v else v_1) ((0 : Nat) + j)) ∧
                                          True) ∧
                                      ((BS.mk false (12 : Nat) (12 : Nat) fun (j : Nat) =>
                                              byteF (fun (j : Nat) => bif j.beq (0 : Nat) then w.v else bif j.beq (1 : Nat) then v.v else v_1) ((0 : Nat) + j)).Ok ∧
                                          (-9223372036854775808 : Int) ≤ (8 : Int) ∧ (8 : Int) < (9223372036854775808 : Int)) ∧
                                        ∀ (v_2 : Int),
                                          (v_2 =
                                              if
                                                  fitsB
                                                    (BS.mk false (12 : Nat) (12 : Nat) fun (j : Nat) =>
                                                      byteF (fun (j : Nat) => bif j.beq (0 : Nat) then w.v else bif j.beq (1 : Nat) then v.v else v_1) ((0 : Nat) + j))
                                                    (8 : Int) then
                                                getW
                                                  (fun (j : Nat) => byteF (fun (j : Nat) => bif j.beq (0 : Nat) then w.v else bif j.beq (1 : Nat) then v.v else v_1) ((0 : Nat) + j))
                                                  (Int.toNat (8 : Int)) (4 : Nat)
                                              else (0 : Int)) →
                                            ((v_1 = v_1 ∧ a.v = a.v ∧ n.v = n.v ∧ True) ∧ True) ∧
                                              (((0 : Int) ≤ v_1 ∧ v_1 < (4294967296 : Int)) ∧
                                                  ((-9223372036854775808 : Int) ≤ a.v ∧ a.v < (9223372036854775808 : Int)) ∧
                                                    (-9223372036854775808 : Int) ≤ n.v ∧ n.v < (9223372036854775808 : Int)) ∧
                                                ((v.v = v.v ∧ (0 : Int) = (0 : Int) ∧ n.v = n.v ∧ True) ∧ True) ∧
                                                  (((0 : Int) ≤ v.v ∧ v.v < (4294967296 : Int)) ∧
                                                      ((-9223372036854775808 : Int) ≤ (0 : Int) ∧ (0 : Int) < (9223372036854775808 : Int)) ∧
                                                        (-9223372036854775808 : Int) ≤ n.v ∧ n.v < (9223372036854775808 : Int)) ∧
                                                    ((fieldN v_1 a.v n.v != fieldN v.v (0 : Int) n.v) = true → w.Ok ∧ v.Ok ∧ a.Ok ∧ n.Ok ∧ m.Ok → False ∧ True ∧ True) ∧
                                                      ((fieldN v_1 a.v n.v != fieldN v.v (0 : Int) n.v) = false →
                                                        ((!decide
                                                                  (fitsB
                                                                    (BS.mk false (12 : Nat) (12 : Nat) fun (j : Nat) =>
                                                                      byteF (fun (j : Nat) => bif j.beq (0 : Nat) then w.v else bif j.beq (1 : Nat) then v.v else v_1)
                                                                        ((0 : Nat) + j))
                                                                    (8 : Int))) =
                                                              true →
                                                            w.Ok ∧ v.Ok ∧ a.Ok ∧ n.Ok ∧ m.Ok → False ∧ True ∧ True) ∧
                                                          ((!decide
                                                                  (fitsB
                                                                    (BS.mk false (12 : Nat) (12 : Nat) fun (j : Nat) =>
                                                                      byteF (fun (j : Nat) => bif j.beq (0 : Nat) then w.v else bif j.beq (1 : Nat) then v.v else v_1)
                                                                        ((0 : Nat) + j))
                                                                    (8 : Int))) =
                                                              false →
                                                            ((v_2 != v_1) = true → w.Ok ∧ v.Ok ∧ a.Ok ∧ n.Ok ∧ m.Ok → False ∧ True ∧ True) ∧
                                                              ((v_2 != v_1) = false →
                                                                ((w.v = w.v ∧ a.v = a.v ∧ n.v = n.v ∧ True) ∧ True) ∧
                                                                  (((0 : Int) ≤ w.v ∧ w.v < (4294967296 : Int)) ∧
                                                                      ((-9223372036854775808 : Int) ≤ a.v ∧ a.v < (9223372036854775808 : Int)) ∧
                                                                        (-9223372036854775808 : Int) ≤ n.v ∧ n.v < (9223372036854775808 : Int)) ∧
                                                                    ((v_1 = v_1 ∧ a.v = a.v ∧ n.v = n.v ∧ fieldN w.v a.v n.v = fieldN w.v a.v n.v ∧ True) ∧ True) ∧
                                                                      (((0 : Int) ≤ v_1 ∧ v_1 < (4294967296 : Int)) ∧
                                                                          ((-9223372036854775808 : Int) ≤ a.v ∧ a.v < (9223372036854775808 : Int)) ∧
                                                                            ((-9223372036854775808 : Int) ≤ n.v ∧ n.v < (9223372036854775808 : Int)) ∧
                                                                              (0 : Int) ≤ fieldN w.v a.v n.v ∧ fieldN w.v a.v n.v < (4294967296 : Int)) ∧
                                                                        ((putN v_1 a.v n.v (fieldN w.v a.v n.v) != w.v) = true →
                                                                            w.Ok ∧ v.Ok ∧ a.Ok ∧ n.Ok ∧ m.Ok → False ∧ True ∧ True) ∧
                                                                          ((putN v_1 a.v n.v (fieldN w.v a.v n.v) != w.v) = false →
                                                                            (decide (m.v < (1 : Int)) = true → w.Ok ∧ v.Ok ∧ a.Ok ∧ n.Ok ∧ m.Ok → True ∧ True ∧ True) ∧
                                                                              (decide (m.v < (1 : Int)) = false →
                                                                                (decide (m.v > (32 : Int)) = true → w.Ok ∧ v.Ok ∧ a.Ok ∧ n.Ok ∧ m.Ok → True ∧ True ∧ True) ∧
                                                                                  (decide (m.v > (32 : Int)) = false →
                                                                                    ((v.v = v.v ∧ m.v = m.v ∧ True) ∧ True) ∧
                                                                                      (((0 : Int) ≤ v.v ∧ v.v < (4294967296 : Int)) ∧
                                                                                          (-9223372036854775808 : Int) ≤ m.v ∧ m.v < (9223372036854775808 : Int)) ∧
                                                                                        ((extN v.v m.v = extN v.v m.v ∧ (0 : Int) = (0 : Int) ∧ m.v = m.v ∧ True) ∧ True) ∧
                                                                                          (((0 : Int) ≤ extN v.v m.v ∧ extN v.v m.v < (4294967296 : Int)) ∧
                                                                                              ((-9223372036854775808 : Int) ≤ (0 : Int) ∧ (0 : Int) < (9223372036854775808 : Int)) ∧
                                                                                                (-9223372036854775808 : Int) ≤ m.v ∧ m.v < (9223372036854775808 : Int)) ∧
                                                                                            ((v.v = v.v ∧ (0 : Int) = (0 : Int) ∧ m.v = m.v ∧ True) ∧ True) ∧
                                                                                              (((0 : Int) ≤ v.v ∧ v.v < (4294967296 : Int)) ∧
                                                                                                  ((-9223372036854775808 : Int) ≤ (0 : Int) ∧
                                                                                                      (0 : Int) < (9223372036854775808 : Int)) ∧
                                                                                                    (-9223372036854775808 : Int) ≤ m.v ∧ m.v < (9223372036854775808 : Int)) ∧
                                                                                                (w.Ok ∧ v.Ok ∧ a.Ok ∧ n.Ok ∧ m.Ok →
                                                                                                  (fieldN (extN v.v m.v) (0 : Int) m.v == fieldN v.v (0 : Int) m.v) = true ∧
                                                                                                    True ∧ True))))))))))) := by
  simp only [true_and, and_true, eq_self, Nat.le_refl, decide_eq_true_eq, decide_eq_false_iff_not, beq_iff_eq, implies_true, and_self, bne_iff_ne, Int.not_lt, gt_iff_lt, ne_eq, Nat.zero_add, cond_nbeq, IntKind.wrap_i64, bne_eq_false_iff_eq, Bool.not_eq_true', Bool.not_eq_false']
  rintro ⟨w⟩ ⟨v⟩ ⟨a⟩ ⟨n⟩ ⟨m⟩ ⟨hw, hv, ha, hn, hm⟩
  have hw : u32 w := hw
  have hv : u32 v := hv
  have ha : i64 a := ha
  have hn : i64 n := hn
  have hm : i64 m := hm
  dsimp only
  refine ⟨⟨hw, ha, hn, hv⟩, fun x hx => ?_⟩
  have hxu : u32 x := by rw [hx]; exact putN_u32 hw
  have hnot : ¬ fitsP a n → x = w := fun h => by rw [hx]; unfold putN; rw [if_neg h]
  have hs : n ≤ 32 → 1 ≤ n → (32 - n + 9223372036854775808) % 18446744073709551616 - 9223372036854775808 = 32 - n := fun h h' => by omega
  refine ⟨fun h _ => hnot fun h2 => by unfold fitsP at h2; omega, fun h1 => ⟨fun h _ => hnot fun h2 => by unfold fitsP at h2; omega, fun h2 => ⟨fun h _ => hnot fun h2 => by unfold fitsP at h2; omega, fun h3 => ?_⟩⟩⟩
  rw [hs h2 h1]
  refine ⟨fun h _ => hnot fun h2 => by unfold fitsP at h2; omega, fun h4 => ?_⟩
  have hfit : fitsP a n := ⟨h1, h2, h3, h4⟩
  have hf : ∀ j : Nat, u32 (if j = 0 then w else if j = 1 then v else x) := fun j => by split; exact hw; split; exact hv; exact hxu
  have hby : ∀ j, u8 (byteF (fun j => if j = 0 then w else if j = 1 then v else x) j) := fun j => by
    unfold byteF u8; omega
  have hget := getW_byteF (f := fun j => if j = 0 then w else if j = 1 then v else x) (i := 2) hxu
  have hB : fitsB { nil := false, len := 12, cap := 12, b := fun j => byteF (fun j => if j = 0 then w else if j = 1 then v else x) j } 8 := ⟨by decide, (show (8 : Int) ≤ 12 - 4 by decide)⟩
  refine ⟨by decide, ⟨by decide, hf⟩, ⟨⟨fun h => (nomatch h), (show 12 ≤ 9223372036854775807 by decide), Nat.le_refl 12, fun j _ => hby j⟩, by decide, by decide⟩, fun y hy => ?_⟩
  rw [if_pos hB] at hy
  have hy : y = x := by rw [hy]; exact hget
  have b1 : fieldN x a n = fieldN v 0 n := by rw [hx]; exact back1 hfit
  have b2 : putN x a n (fieldN w a n) = w := by rw [hx]; exact back2 hw hfit
  refine ⟨⟨hxu, ha, hn⟩, ⟨hv, by decide, hn⟩, fun h => absurd b1 h, fun _ => ⟨fun h => absurd hB h, fun _ => ⟨fun h => absurd hy h, fun _ => ⟨⟨hw, ha, hn⟩, ⟨hxu, ha, hn, fieldN_u32⟩, fun h => absurd b2 h, fun _ m1 m2 => ?_⟩⟩⟩⟩
  exact ⟨⟨hv, hm⟩, ⟨extN_u32, by decide, hm⟩, ⟨hv, by decide, hm⟩, fun _ => back3 ⟨m1, m2⟩⟩

def back_C (_ : (A32 × A32 × AI × AI × AI)) : Cfg := { Γ := Go.Sx.look tBack, names := true }
theorem back_al (x : (A32 × A32 × AI × AI × AI)) : Shown (backP.vc Try.prog (back_C x) Try.f6 x) := ⟨@Eq.mp _ _ (by kernel_rfl) (back_vc (x.1) (x.2.1) (x.2.2.1) (x.2.2.2.1) (x.2.2.2.2))⟩
theorem back_ok : SpOk Try.prog 6 backP.sp := @Pat.okS _ backP Try.prog back_C 6 Try.f6 (fun x => cfg_tab rfl tBack_ok) (by kernel_rfl) Try.func6 (fun _ => rfl) back_al
end Go.Proofs.Ytaaploablbkilaa
