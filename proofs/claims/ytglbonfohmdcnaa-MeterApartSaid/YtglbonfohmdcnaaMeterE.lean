import Derived.Test.YtglbonfohmdcnaaMeterC
open Go Go.Sx Go.Proofs
set_option maxRecDepth 100000
namespace Go.Proofs.Ytglbonfohmdcnaa

structure A1 where
  i : Nat
  s : MS
def callRun (x : CS) (s : MS) (i : Nat) : MS := if x.wait i then (s.wait (x.core i) (x.times i)).2 else (s.charge (x.core i) (x.kind i) (x.times i)).2
def leastLF1 (x : CS) (w : WS) : Fam where
  α := A1
  I y := y.i ≤ x.len ∧ y.s.Ok ∧ y.s.n = 4
  st y := { sl := mkSl 144 [(0, x.t 0), (1, w.t 1), (5, p0 2), (7, .int .i64 y.i)], H := x.reg :: w.reg :: y.s.HT 3 }
  μ y := x.len - y.i
def callMode : Nat → Nat
  | 12 => 1
  | 13 => 1
  | _ => 0
structure A2 where
  s : MS
  k : Nat
  any : Bool
def WS.any (w : WS) : Nat → Bool
  | 0 => false
  | k + 1 => w.any k || w.w k
def leastLF2 (x : CS) (w : WS) (_ : A1) : Fam where
  α := A2
  I y := y.s.Ok ∧ y.s.n = 4 ∧ y.k ≤ 4 ∧ y.k ≤ w.len ∧ y.any = w.any y.k
  st y := { sl := mkSl 144 [(0, x.t 0), (1, w.t 1), (5, p0 2), (8, .int .i64 (leastF y.s.clk w.sel 4)), (9, .bool y.any), (10, .int .i64 y.k)], H := x.reg :: w.reg :: y.s.HT 3 }
  μ y := 4 - y.k
def leastLL (x : CS) (w : WS) : Nat → Gam
  | 9 => .l [leastLF1 x w]
  | 17 => .g fun u => [leastLF2 x w u]
  | _ => .l []
def leastLP : Pat (CS × WS) where
  view _ _ := none
  args x := [x.1.t 0, x.2.t 1]
  H x := [x.1.reg, x.2.reg]
  out x := .need (x.1.Ok ∧ (x.2.nil = true → x.2.len = 0)) (.retq .tt)
theorem leastF_spec (clk : Nat → Int) (sel : Nat → Bool) : ∀ m, (leastF clk sel m = -1 ∧ ∀ k, k < m → sel k = false) ∨
    ((0 ≤ leastF clk sel m ∧ leastF clk sel m < m) ∧ sel (leastF clk sel m).toNat = true ∧ ∀ k, k < m → sel k = true → clk (leastF clk sel m).toNat ≤ clk k ∧ ((k : Int) < leastF clk sel m → clk (leastF clk sel m).toNat < clk k))
  | 0 => .inl ⟨rfl, fun k h => absurd h (Nat.not_lt_zero _)⟩
  | m + 1 => by
    have ih := leastF_spec clk sel m
    simp only [leastF]
    split
    · rename_i h
      refine .inr ⟨by omega, by rw [Int.toNat_natCast]; exact h.1, fun k hk hs => ?_⟩
      rw [Int.toNat_natCast]
      rcases ih with ⟨e, h2⟩ | ⟨h1, _, h3⟩
      · by_cases hkm : k = m
        · subst hkm; exact ⟨Int.le_refl _, fun h => by omega⟩
        · rw [h2 k (by omega)] at hs; cases hs
      · rcases h.2 with h4 | h4
        · omega
        · by_cases hkm : k = m
          · subst hkm; exact ⟨Int.le_refl _, fun h => by omega⟩
          · have := (h3 k (by omega) hs).1
            exact ⟨by omega, fun _ => by omega⟩
    · rename_i h
      rcases ih with ⟨e, h2⟩ | ⟨h1, h4, h3⟩
      · refine .inl ⟨e, fun k hk => ?_⟩
        by_cases hkm : k = m
        · subst hkm
          cases hsk : sel k with
          | false => rfl
          | true => exact absurd ⟨hsk, .inl (by omega)⟩ h
        · exact h2 k (by omega)
      · refine .inr ⟨by omega, h4, fun k hk hs => ?_⟩
        by_cases hkm : k = m
        · subst hkm
          have : ¬ clk k < clk (leastF clk sel k).toNat := fun hh => h ⟨hs, .inr hh⟩
          exact ⟨by omega, fun _ => by omega⟩
        · exact h3 k (by omega) hs
theorem WS.any_spec (w : WS) : ∀ n, (w.any n = true ↔ ∃ j, j < n ∧ w.w j = true)
  | 0 => ⟨(fun h => nomatch h), fun ⟨j, h, _⟩ => absurd h (Nat.not_lt_zero _)⟩
  | n + 1 => by
    simp only [WS.any, Bool.or_eq_true, WS.any_spec w n]
    constructor
    · rintro (⟨j, h1, h2⟩ | h)
      · exact ⟨j, by omega, h2⟩
      · exact ⟨n, by omega, h⟩
    · rintro ⟨j, h1, h2⟩
      by_cases hj : j = n
      · subst hj; exact .inr h2
      · exact .inl ⟨j, by omega, h2⟩
theorem WS.sel_spec (w : WS) (j : Nat) : w.sel j = true ↔ j < w.len ∧ w.w j = true := by unfold WS.sel; simp
theorem leastL_vc : ∀ (x : CS) (w : WS),
    (x.Ok ∧ (w.nil = true → w.len = (0 : Nat))) ∧ True →
      (True ∧ True) ∧
        (x.nil = true → x.len = (0 : Nat)) ∧
          (decide ((↑x.len : Int) > (60 : Int)) = true →
              x.Ok ∧ (w.nil = true → w.len = (0 : Nat)) →
                True ∧
                  True ∧
                    ((0 : Nat) ≤ (0 : Nat) ∧
                        x.len = x.len ∧ ∀ (j : Nat), j < x.len → x.core j = x.core j ∧ x.kind j = x.kind j ∧ x.times j = x.times j ∧ x.wait j = x.wait j ∧ True) ∧
                      ((0 : Nat) ≤ (0 : Nat) ∧ w.len = w.len ∧ ∀ (j : Nat), j < w.len → w.w j = w.w j) ∧ True) ∧
            (decide ((↑x.len : Int) > (60 : Int)) = false →
              (w.nil = true → w.len = (0 : Nat)) ∧
                (decide ((↑w.len : Int) > (20 : Int)) = true →
                    x.Ok ∧ (w.nil = true → w.len = (0 : Nat)) →
                      True ∧
                        True ∧
                          ((0 : Nat) ≤ (0 : Nat) ∧
                              x.len = x.len ∧ ∀ (j : Nat), j < x.len → x.core j = x.core j ∧ x.kind j = x.kind j ∧ x.times j = x.times j ∧ x.wait j = x.wait j ∧ True) ∧
                            ((0 : Nat) ≤ (0 : Nat) ∧ w.len = w.len ∧ ∀ (j : Nat), j < w.len → w.w j = w.w j) ∧ True) ∧
                  (decide ((↑w.len : Int) > (20 : Int)) = false →
                    (((4 : Int) = (4 : Int) ∧ True) ∧ True) ∧
                      ((1 : Int) ≤ (4 : Int) ∧ (4 : Int) ≤ (4 : Int) →
                          ∀ (x_1 : MS),
                            x_1 = MS.new (4 : Int) →
                              ∀ (v : Int),
                                v = (0 : Int) →
                                  ((v != (0 : Int)) = true →
                                      x.Ok ∧ (w.nil = true → w.len = (0 : Nat)) →
                                        False ∧
                                          True ∧
                                            ((0 : Nat) ≤ (0 : Nat) ∧
                                                x.len = x.len ∧
                                                  ∀ (j : Nat), j < x.len → x.core j = x.core j ∧ x.kind j = x.kind j ∧ x.times j = x.times j ∧ x.wait j = x.wait j ∧ True) ∧
                                              ((0 : Nat) ≤ (0 : Nat) ∧ w.len = w.len ∧ ∀ (j : Nat), j < w.len → w.w j = w.w j) ∧ True) ∧
                                    ((v != (0 : Int)) = false →
                                      ∀ (v : Int),
                                        v = (0 : Int) →
                                          (∃ (y : A1),
                                              (y.i ≤ x.len ∧ y.s.Ok ∧ y.s.n = (4 : Nat)) ∧
                                                ((((x.nil = true → x.nil = true) ∧
                                                        (x.nil = false → x.nil = false ∧ True ∧ True ∧ (0 : Nat) = (0 : Nat) ∧ x.len = x.len ∧ x.cap = x.cap)) ∧
                                                      ((w.nil = true → w.nil = true) ∧
                                                          (w.nil = false → w.nil = false ∧ True ∧ True ∧ (0 : Nat) = (0 : Nat) ∧ w.len = w.len ∧ w.cap = w.cap)) ∧
                                                        (True ∧ True) ∧ v = (↑y.i : Int) ∧ True) ∧
                                                    ((0 : Nat) ≤ (0 : Nat) ∧
                                                        x.len = x.len ∧
                                                          ∀ (j : Nat), j < x.len → x.core j = x.core j ∧ x.kind j = x.kind j ∧ x.times j = x.times j ∧ x.wait j = x.wait j ∧ True) ∧
                                                      ((0 : Nat) ≤ (0 : Nat) ∧ w.len = w.len ∧ ∀ (j : Nat), j < w.len → w.w j = w.w j) ∧
                                                        ((2 : Nat) ≤ (2 : Nat) ∧ (True ∧ True ∧ (0 : Nat) = (0 : Nat) ∧ x_1.n = y.s.n ∧ x_1.n = y.s.n) ∧ x_1.st = y.s.st ∧ True) ∧
                                                          (y.s.n * (10 : Nat) ≤ x_1.n * (10 : Nat) ∧
                                                              y.s.n = x_1.n ∧
                                                                ∀ (j : Nat),
                                                                  j < x_1.n →
                                                                    x_1.clk j = y.s.clk j ∧
                                                                      ((9 : Nat) = (9 : Nat) ∧ ∀ (j_1 : Nat), j_1 < (9 : Nat) → x_1.by_ j j_1 = y.s.by_ j j_1) ∧ True) ∧
                                                            True) ∧
                                                  True) ∧
                                            ∀ (y : A1),
                                              y.i ≤ x.len ∧ y.s.Ok ∧ y.s.n = (4 : Nat) →
                                                (x.nil = true → x.len = (0 : Nat)) ∧
                                                  (decide ((↑y.i : Int) < (↑x.len : Int)) = true →
                                                      (x.nil = true → x.len = (0 : Nat)) ∧
                                                        ((0 : Int) ≤ (↑y.i : Int) ∧ (↑y.i : Int) < (↑x.len : Int)) ∧
                                                          (0 : Nat) + (↑y.i : Int).toNat < x.len ∧
                                                            (x.wait ((0 : Nat) + (↑y.i : Int).toNat) = true →
                                                                (x.nil = true → x.len = (0 : Nat)) ∧
                                                                  ((0 : Int) ≤ (↑y.i : Int) ∧ (↑y.i : Int) < (↑x.len : Int)) ∧
                                                                    (0 : Nat) + (↑y.i : Int).toNat < x.len ∧
                                                                      (x.nil = true → x.len = (0 : Nat)) ∧
                                                                        ((0 : Int) ≤ (↑y.i : Int) ∧ (↑y.i : Int) < (↑x.len : Int)) ∧
                                                                          (0 : Nat) + (↑y.i : Int).toNat < x.len ∧
                                                                            (((True ∧ True) ∧
                                                                                  x.core ((0 : Nat) + (↑y.i : Int).toNat) = x.core ((0 : Nat) + (↑y.i : Int).toNat) ∧
                                                                                    x.times ((0 : Nat) + (↑y.i : Int).toNat) = x.times ((0 : Nat) + (↑y.i : Int).toNat) ∧ True) ∧
                                                                                ((2 : Nat) ≤ (2 : Nat) ∧
                                                                                    (True ∧ True ∧ (0 : Nat) = (0 : Nat) ∧ y.s.n = y.s.n ∧ y.s.n = y.s.n) ∧ y.s.st = y.s.st ∧ True) ∧
                                                                                  (y.s.n * (10 : Nat) ≤ y.s.n * (10 : Nat) ∧
                                                                                      y.s.n = y.s.n ∧
                                                                                        ∀ (j : Nat),
                                                                                          j < y.s.n →
                                                                                            y.s.clk j = y.s.clk j ∧
                                                                                              ((9 : Nat) = (9 : Nat) ∧
                                                                                                  ∀ (j_1 : Nat), j_1 < (9 : Nat) → y.s.by_ j j_1 = y.s.by_ j j_1) ∧
                                                                                                True) ∧
                                                                                    True) ∧
                                                                              (y.s.Ok ∧
                                                                                  (0 : Int) ≤ x.times ((0 : Nat) + (↑y.i : Int).toNat) ∧
                                                                                    x.times ((0 : Nat) + (↑y.i : Int).toNat) < (18446744073709551616 : Int)) ∧
                                                                                ∀ (x_2 : Int × MS),
                                                                                  x_2 =
                                                                                      y.s.wait (x.core ((0 : Nat) + (↑y.i : Int).toNat)) (x.times ((0 : Nat) + (↑y.i : Int).toNat)) →
                                                                                    ∀ (v : Int),
                                                                                      v = IntKind.i64.wrap ((↑y.i : Int) + (1 : Int)) →
                                                                                        ∃ (y_1 : A1),
                                                                                          (y_1.i ≤ x.len ∧ y_1.s.Ok ∧ y_1.s.n = (4 : Nat)) ∧
                                                                                            ((((x.nil = true → x.nil = true) ∧
                                                                                                    (x.nil = false →
                                                                                                      x.nil = false ∧
                                                                                                        True ∧ True ∧ (0 : Nat) = (0 : Nat) ∧ x.len = x.len ∧ x.cap = x.cap)) ∧
                                                                                                  ((w.nil = true → w.nil = true) ∧
                                                                                                      (w.nil = false →
                                                                                                        w.nil = false ∧
                                                                                                          True ∧ True ∧ (0 : Nat) = (0 : Nat) ∧ w.len = w.len ∧ w.cap = w.cap)) ∧
                                                                                                    (True ∧ True) ∧ v = (↑y_1.i : Int) ∧ True) ∧
                                                                                                ((0 : Nat) ≤ (0 : Nat) ∧
                                                                                                    x.len = x.len ∧
                                                                                                      ∀ (j : Nat),
                                                                                                        j < x.len →
                                                                                                          x.core j = x.core j ∧
                                                                                                            x.kind j = x.kind j ∧
                                                                                                              x.times j = x.times j ∧ x.wait j = x.wait j ∧ True) ∧
                                                                                                  ((0 : Nat) ≤ (0 : Nat) ∧ w.len = w.len ∧ ∀ (j : Nat), j < w.len → w.w j = w.w j) ∧
                                                                                                    ((2 : Nat) ≤ (2 : Nat) ∧
                                                                                                        (True ∧
                                                                                                            True ∧
                                                                                                              (0 : Nat) = (0 : Nat) ∧ x_2.snd.n = y_1.s.n ∧ x_2.snd.n = y_1.s.n) ∧
                                                                                                          x_2.snd.st = y_1.s.st ∧ True) ∧
                                                                                                      (y_1.s.n * (10 : Nat) ≤ y.s.n * (10 : Nat) ∧
                                                                                                          y_1.s.n = x_2.snd.n ∧
                                                                                                            ∀ (j : Nat),
                                                                                                              j < x_2.snd.n →
                                                                                                                x_2.snd.clk j = y_1.s.clk j ∧
                                                                                                                  ((9 : Nat) = (9 : Nat) ∧
                                                                                                                      ∀ (j_1 : Nat),
                                                                                                                        j_1 < (9 : Nat) → x_2.snd.by_ j j_1 = y_1.s.by_ j j_1) ∧
                                                                                                                    True) ∧
                                                                                                        True) ∧
                                                                                              (leastLF1 x w).μ y_1 < (leastLF1 x w).μ y) ∧
                                                              (x.wait ((0 : Nat) + (↑y.i : Int).toNat) = false →
                                                                (x.nil = true → x.len = (0 : Nat)) ∧
                                                                  ((0 : Int) ≤ (↑y.i : Int) ∧ (↑y.i : Int) < (↑x.len : Int)) ∧
                                                                    (0 : Nat) + (↑y.i : Int).toNat < x.len ∧
                                                                      (x.nil = true → x.len = (0 : Nat)) ∧
                                                                        ((0 : Int) ≤ (↑y.i : Int) ∧ (↑y.i : Int) < (↑x.len : Int)) ∧
                                                                          (0 : Nat) + (↑y.i : Int).toNat < x.len ∧
                                                                            (x.nil = true → x.len = (0 : Nat)) ∧
                                                                              ((0 : Int) ≤ (↑y.i : Int) ∧ (↑y.i : Int) < (↑x.len : Int)) ∧
                                                                                (0 : Nat) + (↑y.i : Int).toNat < x.len ∧
                                                                                  (((True ∧ True) ∧
                                                                                        x.core ((0 : Nat) + (↑y.i : Int).toNat) = x.core ((0 : Nat) + (↑y.i : Int).toNat) ∧
                                                                                          x.kind ((0 : Nat) + (↑y.i : Int).toNat) = x.kind ((0 : Nat) + (↑y.i : Int).toNat) ∧
                                                                                            x.times ((0 : Nat) + (↑y.i : Int).toNat) = x.times ((0 : Nat) + (↑y.i : Int).toNat) ∧
                                                                                              True) ∧
                                                                                      ((2 : Nat) ≤ (2 : Nat) ∧
                                                                                          (True ∧ True ∧ (0 : Nat) = (0 : Nat) ∧ y.s.n = y.s.n ∧ y.s.n = y.s.n) ∧
                                                                                            y.s.st = y.s.st ∧ True) ∧
                                                                                        (y.s.n * (10 : Nat) ≤ y.s.n * (10 : Nat) ∧
                                                                                            y.s.n = y.s.n ∧
                                                                                              ∀ (j : Nat),
                                                                                                j < y.s.n →
                                                                                                  y.s.clk j = y.s.clk j ∧
                                                                                                    ((9 : Nat) = (9 : Nat) ∧
                                                                                                        ∀ (j_1 : Nat), j_1 < (9 : Nat) → y.s.by_ j j_1 = y.s.by_ j j_1) ∧
                                                                                                      True) ∧
                                                                                          True) ∧
                                                                                    (y.s.Ok ∧
                                                                                        (0 : Int) ≤ x.times ((0 : Nat) + (↑y.i : Int).toNat) ∧
                                                                                          x.times ((0 : Nat) + (↑y.i : Int).toNat) < (18446744073709551616 : Int)) ∧
                                                                                      ∀ (x_2 : Int × MS),
                                                                                        x_2 =
                                                                                            y.s.charge (x.core ((0 : Nat) + (↑y.i : Int).toNat))
                                                                                              (x.kind ((0 : Nat) + (↑y.i : Int).toNat)) (x.times ((0 : Nat) + (↑y.i : Int).toNat)) →
                                                                                          ∀ (v : Int),
                                                                                            v = IntKind.i64.wrap ((↑y.i : Int) + (1 : Int)) →
                                                                                              ∃ (y_1 : A1),
                                                                                                (y_1.i ≤ x.len ∧ y_1.s.Ok ∧ y_1.s.n = (4 : Nat)) ∧
                                                                                                  ((((x.nil = true → x.nil = true) ∧
                                                                                                          (x.nil = false →
                                                                                                            x.nil = false ∧
                                                                                                              True ∧ True ∧ (0 : Nat) = (0 : Nat) ∧ x.len = x.len ∧ x.cap = x.cap)) ∧
                                                                                                        ((w.nil = true → w.nil = true) ∧
                                                                                                            (w.nil = false →
                                                                                                              w.nil = false ∧
                                                                                                                True ∧
                                                                                                                  True ∧ (0 : Nat) = (0 : Nat) ∧ w.len = w.len ∧ w.cap = w.cap)) ∧
                                                                                                          (True ∧ True) ∧ v = (↑y_1.i : Int) ∧ True) ∧
                                                                                                      ((0 : Nat) ≤ (0 : Nat) ∧
                                                                                                          x.len = x.len ∧
                                                                                                            ∀ (j : Nat),
                                                                                                              j < x.len →
                                                                                                                x.core j = x.core j ∧
                                                                                                                  x.kind j = x.kind j ∧
                                                                                                                    x.times j = x.times j ∧ x.wait j = x.wait j ∧ True) ∧
                                                                                                        ((0 : Nat) ≤ (0 : Nat) ∧
                                                                                                            w.len = w.len ∧ ∀ (j : Nat), j < w.len → w.w j = w.w j) ∧
                                                                                                          ((2 : Nat) ≤ (2 : Nat) ∧
                                                                                                              (True ∧
                                                                                                                  True ∧
                                                                                                                    (0 : Nat) = (0 : Nat) ∧
                                                                                                                      x_2.snd.n = y_1.s.n ∧ x_2.snd.n = y_1.s.n) ∧
                                                                                                                x_2.snd.st = y_1.s.st ∧ True) ∧
                                                                                                            (y_1.s.n * (10 : Nat) ≤ y.s.n * (10 : Nat) ∧
                                                                                                                y_1.s.n = x_2.snd.n ∧
                                                                                                                  ∀ (j : Nat),
                                                                                                                    j < x_2.snd.n →
                                                                                                                      x_2.snd.clk j = y_1.s.clk j ∧
                                                                                                                        ((9 : Nat) = (9 : Nat) ∧
                                                                                                                            ∀ (j_1 : Nat),
                                                                                                                              j_1 < (9 : Nat) → x_2.snd.by_ j j_1 = y_1.s.by_ j j_1) ∧
                                                                                                                          True) ∧
                                                                                                              True) ∧
                                                                                                    (leastLF1 x w).μ y_1 < (leastLF1 x w).μ y)) ∧
                                                    (decide ((↑y.i : Int) < (↑x.len : Int)) = false →
                                                      (((True ∧ True) ∧
                                                            ((w.nil = true → w.nil = true) ∧
                                                                (w.nil = false → w.nil = false ∧ True ∧ True ∧ (0 : Nat) = (0 : Nat) ∧ w.len = w.len ∧ w.cap = w.cap)) ∧
                                                              True) ∧
                                                          ((2 : Nat) ≤ (2 : Nat) ∧ (True ∧ True ∧ (0 : Nat) = (0 : Nat) ∧ y.s.n = y.s.n ∧ y.s.n = y.s.n) ∧ y.s.st = y.s.st ∧ True) ∧
                                                            (y.s.n * (10 : Nat) ≤ y.s.n * (10 : Nat) ∧
                                                                y.s.n = y.s.n ∧
                                                                  ∀ (j : Nat),
                                                                    j < y.s.n →
                                                                      y.s.clk j = y.s.clk j ∧
                                                                        ((9 : Nat) = (9 : Nat) ∧ ∀ (j_1 : Nat), j_1 < (9 : Nat) → y.s.by_ j j_1 = y.s.by_ j j_1) ∧ True) ∧
                                                              ((0 : Nat) ≤ (0 : Nat) ∧ w.len = w.len ∧ ∀ (j : Nat), j < w.len → w.w j = w.w j) ∧ True) ∧
                                                        (w.nil = true → w.len = (0 : Nat)) ∧
                                                          (w.len ≤ (1000 : Nat) ∧ y.s.n ≤ (4 : Nat)) ∧
                                                            ∀ (v : Int),
                                                              v = leastF (fun (j : Nat) => y.s.clk j) w.sel y.s.n →
                                                                ∀ (v_1 : Int),
                                                                  v_1 = (0 : Int) →
                                                                    ∃ (g : A1),
                                                                      (∃ (y_1 : A2),
                                                                          (y_1.s.Ok ∧ y_1.s.n = (4 : Nat) ∧ y_1.k ≤ (4 : Nat) ∧ y_1.k ≤ w.len ∧ y_1.any = w.any y_1.k) ∧
                                                                            ((((x.nil = true → x.nil = true) ∧
                                                                                    (x.nil = false →
                                                                                      x.nil = false ∧ True ∧ True ∧ (0 : Nat) = (0 : Nat) ∧ x.len = x.len ∧ x.cap = x.cap)) ∧
                                                                                  ((w.nil = true → w.nil = true) ∧
                                                                                      (w.nil = false →
                                                                                        w.nil = false ∧ True ∧ True ∧ (0 : Nat) = (0 : Nat) ∧ w.len = w.len ∧ w.cap = w.cap)) ∧
                                                                                    (True ∧ True) ∧
                                                                                      v = leastF y_1.s.clk w.sel (4 : Nat) ∧ y_1.any = false ∧ v_1 = (↑y_1.k : Int) ∧ True) ∧
                                                                                ((0 : Nat) ≤ (0 : Nat) ∧
                                                                                    x.len = x.len ∧
                                                                                      ∀ (j : Nat),
                                                                                        j < x.len →
                                                                                          x.core j = x.core j ∧
                                                                                            x.kind j = x.kind j ∧ x.times j = x.times j ∧ x.wait j = x.wait j ∧ True) ∧
                                                                                  ((0 : Nat) ≤ (0 : Nat) ∧ w.len = w.len ∧ ∀ (j : Nat), j < w.len → w.w j = w.w j) ∧
                                                                                    ((2 : Nat) ≤ (2 : Nat) ∧
                                                                                        (True ∧ True ∧ (0 : Nat) = (0 : Nat) ∧ y.s.n = y_1.s.n ∧ y.s.n = y_1.s.n) ∧
                                                                                          y.s.st = y_1.s.st ∧ True) ∧
                                                                                      (y_1.s.n * (10 : Nat) ≤ y.s.n * (10 : Nat) ∧
                                                                                          y_1.s.n = y.s.n ∧
                                                                                            ∀ (j : Nat),
                                                                                              j < y.s.n →
                                                                                                y.s.clk j = y_1.s.clk j ∧
                                                                                                  ((9 : Nat) = (9 : Nat) ∧
                                                                                                      ∀ (j_1 : Nat), j_1 < (9 : Nat) → y.s.by_ j j_1 = y_1.s.by_ j j_1) ∧
                                                                                                    True) ∧
                                                                                        True) ∧
                                                                              True) ∧
                                                                        ∀ (y : A2),
                                                                          y.s.Ok ∧ y.s.n = (4 : Nat) ∧ y.k ≤ (4 : Nat) ∧ y.k ≤ w.len ∧ y.any = w.any y.k →
                                                                            (decide ((↑y.k : Int) < (4 : Int)) = true →
                                                                                (w.nil = true → w.len = (0 : Nat)) ∧
                                                                                  (decide ((↑y.k : Int) < (↑w.len : Int)) = true →
                                                                                      (y.any = true →
                                                                                          (w.nil = true → w.len = (0 : Nat)) ∧
                                                                                            ((0 : Int) ≤ (↑y.k : Int) ∧ (↑y.k : Int) < (↑w.len : Int)) ∧
                                                                                              (0 : Nat) + (↑y.k : Int).toNat < w.len ∧
                                                                                                (w.w ((0 : Nat) + (↑y.k : Int).toNat) = true →
                                                                                                    (decide (leastF y.s.clk w.sel (4 : Nat) ≥ (0 : Int)) = true →
                                                                                                        (((True ∧ True) ∧ (↑y.k : Int) = (↑y.k : Int) ∧ True) ∧
                                                                                                            ((2 : Nat) ≤ (2 : Nat) ∧
                                                                                                                (True ∧
                                                                                                                    True ∧ (0 : Nat) = (0 : Nat) ∧ y.s.n = y.s.n ∧ y.s.n = y.s.n) ∧
                                                                                                                  y.s.st = y.s.st ∧ True) ∧
                                                                                                              (y.s.n * (10 : Nat) ≤ y.s.n * (10 : Nat) ∧
                                                                                                                  y.s.n = y.s.n ∧
                                                                                                                    ∀ (j : Nat),
                                                                                                                      j < y.s.n →
                                                                                                                        y.s.clk j = y.s.clk j ∧
                                                                                                                          ((9 : Nat) = (9 : Nat) ∧
                                                                                                                              ∀ (j_1 : Nat),
                                                                                                                                j_1 < (9 : Nat) → y.s.by_ j j_1 = y.s.by_ j j_1) ∧
                                                                                                                            True) ∧
                                                                                                                True) ∧
                                                                                                          (((True ∧ True) ∧
                                                                                                                leastF y.s.clk w.sel (4 : Nat) = leastF y.s.clk w.sel (4 : Nat) ∧
                                                                                                                  True) ∧
                                                                                                              ((2 : Nat) ≤ (2 : Nat) ∧
                                                                                                                  (True ∧
                                                                                                                      True ∧ (0 : Nat) = (0 : Nat) ∧ y.s.n = y.s.n ∧ y.s.n = y.s.n) ∧
                                                                                                                    y.s.st = y.s.st ∧ True) ∧
                                                                                                                (y.s.n * (10 : Nat) ≤ y.s.n * (10 : Nat) ∧
                                                                                                                    y.s.n = y.s.n ∧
                                                                                                                      ∀ (j : Nat),
                                                                                                                        j < y.s.n →
                                                                                                                          y.s.clk j = y.s.clk j ∧
                                                                                                                            ((9 : Nat) = (9 : Nat) ∧
                                                                                                                                ∀ (j_1 : Nat),
                                                                                                                                  j_1 < (9 : Nat) → y.s.by_ j j_1 = y.s.by_ j j_1) ∧
                                                                                                                              True) ∧
                                                                                                                  True) ∧
                                                                                                            (decide
                                                                                                                    (y.s.clkOf (↑y.k : Int) <
                                                                                                                      y.s.clkOf (leastF y.s.clk w.sel (4 : Nat))) =
                                                                                                                  true →
                                                                                                                x.Ok ∧ (w.nil = true → w.len = (0 : Nat)) →
                                                                                                                  False ∧
                                                                                                                    True ∧
                                                                                                                      ((0 : Nat) ≤ (0 : Nat) ∧
                                                                                                                          x.len = x.len ∧
                                                                                                                            ∀ (j : Nat),
                                                                                                                              j < x.len →
                                                                                                                                x.core j = x.core j ∧
                                                                                                                                  x.kind j = x.kind j ∧
                                                                                                                                    x.times j = x.times j ∧
                                                                                                                                      x.wait j = x.wait j ∧ True) ∧
                                                                                                                        ((0 : Nat) ≤ (0 : Nat) ∧
                                                                                                                            w.len = w.len ∧ ∀ (j : Nat), j < w.len → w.w j = w.w j) ∧
                                                                                                                          True) ∧
                                                                                                              (decide
                                                                                                                    (y.s.clkOf (↑y.k : Int) <
                                                                                                                      y.s.clkOf (leastF y.s.clk w.sel (4 : Nat))) =
                                                                                                                  false →
                                                                                                                (decide ((↑y.k : Int) < leastF y.s.clk w.sel (4 : Nat)) = true →
                                                                                                                    (((True ∧ True) ∧ (↑y.k : Int) = (↑y.k : Int) ∧ True) ∧
                                                                                                                        ((2 : Nat) ≤ (2 : Nat) ∧
                                                                                                                            (True ∧
                                                                                                                                True ∧
                                                                                                                                  (0 : Nat) = (0 : Nat) ∧
                                                                                                                                    y.s.n = y.s.n ∧ y.s.n = y.s.n) ∧
                                                                                                                              y.s.st = y.s.st ∧ True) ∧
                                                                                                                          (y.s.n * (10 : Nat) ≤ y.s.n * (10 : Nat) ∧
                                                                                                                              y.s.n = y.s.n ∧
                                                                                                                                ∀ (j : Nat),
                                                                                                                                  j < y.s.n →
                                                                                                                                    y.s.clk j = y.s.clk j ∧
                                                                                                                                      ((9 : Nat) = (9 : Nat) ∧
                                                                                                                                          ∀ (j_1 : Nat),
                                                                                                                                            j_1 < (9 : Nat) →
                                                                                                                                              y.s.by_ j j_1 = y.s.by_ j j_1) ∧
                                                                                                                                        True) ∧
                                                                                                                            True) ∧
                                                                                                                      (((True ∧ True) ∧
                                                                                                                            leastF y.s.clk w.sel (4 : Nat) =
                                                                                                                                leastF y.s.clk w.sel (4 : Nat) ∧
                                                                                                                              True) ∧
                                                                                                                          ((2 : Nat) ≤ (2 : Nat) ∧
                                                                                                                              (True ∧
                                                                                                                                  True ∧
                                                                                                                                    (0 : Nat) = (0 : Nat) ∧
                                                                                                                                      y.s.n = y.s.n ∧ y.s.n = y.s.n) ∧
                                                                                                                                y.s.st = y.s.st ∧ True) ∧
                                                                                                                            (y.s.n * (10 : Nat) ≤ y.s.n * (10 : Nat) ∧
                                                                                                                                y.s.n = y.s.n ∧
                                                                                                                                  ∀ (j : Nat),
                                                                                                                                    j < y.s.n →
                                                                                                                                      y.s.clk j = y.s.clk j ∧
                                                                                                                                        ((9 : Nat) = (9 : Nat) ∧
                                                                                                                                            ∀ (j_1 : Nat),
                                                                                                                                              j_1 < (9 : Nat) →
                                                                                                                                                y.s.by_ j j_1 = y.s.by_ j j_1) ∧
                                                                                                                                          True) ∧
                                                                                                                              True) ∧
                                                                                                                        ((y.s.clkOf (↑y.k : Int) ==
                                                                                                                                y.s.clkOf (leastF y.s.clk w.sel (4 : Nat))) =
                                                                                                                              true →
                                                                                                                            x.Ok ∧ (w.nil = true → w.len = (0 : Nat)) →
                                                                                                                              False ∧
                                                                                                                                True ∧
                                                                                                                                  ((0 : Nat) ≤ (0 : Nat) ∧
                                                                                                                                      x.len = x.len ∧
                                                                                                                                        ∀ (j : Nat),
                                                                                                                                          j < x.len →
                                                                                                                                            x.core j = x.core j ∧
                                                                                                                                              x.kind j = x.kind j ∧
                                                                                                                                                x.times j = x.times j ∧
                                                                                                                                                  x.wait j = x.wait j ∧ True) ∧
                                                                                                                                    ((0 : Nat) ≤ (0 : Nat) ∧
                                                                                                                                        w.len = w.len ∧
                                                                                                                                          ∀ (j : Nat), j < w.len → w.w j = w.w j) ∧
                                                                                                                                      True) ∧
                                                                                                                          ((y.s.clkOf (↑y.k : Int) ==
                                                                                                                                y.s.clkOf (leastF y.s.clk w.sel (4 : Nat))) =
                                                                                                                              false →
                                                                                                                            ∀ (v : Int),
                                                                                                                              v = IntKind.i64.wrap ((↑y.k : Int) + (1 : Int)) →
                                                                                                                                ∃ (y_1 : A2),
                                                                                                                                  (y_1.s.Ok ∧
                                                                                                                                      y_1.s.n = (4 : Nat) ∧
                                                                                                                                        y_1.k ≤ (4 : Nat) ∧
                                                                                                                                          y_1.k ≤ w.len ∧ y_1.any = w.any y_1.k) ∧
                                                                                                                                    ((((x.nil = true → x.nil = true) ∧
                                                                                                                                            (x.nil = false →
                                                                                                                                              x.nil = false ∧
                                                                                                                                                True ∧
                                                                                                                                                  True ∧
                                                                                                                                                    (0 : Nat) = (0 : Nat) ∧
                                                                                                                                                      x.len = x.len ∧
                                                                                                                                                        x.cap = x.cap)) ∧
                                                                                                                                          ((w.nil = true → w.nil = true) ∧
                                                                                                                                              (w.nil = false →
                                                                                                                                                w.nil = false ∧
                                                                                                                                                  True ∧
                                                                                                                                                    True ∧
                                                                                                                                                      (0 : Nat) = (0 : Nat) ∧
                                                                                                                                                        w.len = w.len ∧
                                                                                                                                                          w.cap = w.cap)) ∧
                                                                                                                                            (True ∧ True) ∧
                                                                                                                                              leastF y.s.clk w.sel (4 : Nat) =
                                                                                                                                                  leastF y_1.s.clk w.sel (4 : Nat) ∧
                                                                                                                                                y_1.any = true ∧
                                                                                                                                                  v = (↑y_1.k : Int) ∧ True) ∧
                                                                                                                                        ((0 : Nat) ≤ (0 : Nat) ∧
                                                                                                                                            x.len = x.len ∧
                                                                                                                                              ∀ (j : Nat),
                                                                                                                                                j < x.len →
                                                                                                                                                  x.core j = x.core j ∧
                                                                                                                                                    x.kind j = x.kind j ∧
                                                                                                                                                      x.times j = x.times j ∧
                                                                                                                                                        x.wait j = x.wait j ∧ True) ∧
                                                                                                                                          ((0 : Nat) ≤ (0 : Nat) ∧
                                                                                                                                              w.len = w.len ∧
                                                                                                                                                ∀ (j : Nat),
                                                                                                                                                  j < w.len → w.w j = w.w j) ∧
                                                                                                                                            ((2 : Nat) ≤ (2 : Nat) ∧
                                                                                                                                                (True ∧
                                                                                                                                                    True ∧
                                                                                                                                                      (0 : Nat) = (0 : Nat) ∧
                                                                                                                                                        y.s.n = y_1.s.n ∧
                                                                                                                                                          y.s.n = y_1.s.n) ∧
                                                                                                                                                  y.s.st = y_1.s.st ∧ True) ∧
                                                                                                                                              (y_1.s.n * (10 : Nat) ≤
                                                                                                                                                    y.s.n * (10 : Nat) ∧
                                                                                                                                                  y_1.s.n = y.s.n ∧
                                                                                                                                                    ∀ (j : Nat),
                                                                                                                                                      j < y.s.n →
                                                                                                                                                        y.s.clk j = y_1.s.clk j ∧
                                                                                                                                                          ((9 : Nat) = (9 : Nat) ∧
                                                                                                                                                              ∀ (j_1 : Nat),
                                                                                                                                                                j_1 < (9 : Nat) →
                                                                                                                                                                  y.s.by_ j j_1 =
                                                                                                                                                                    y_1.s.by_ j j_1) ∧
                                                                                                                                                            True) ∧
                                                                                                                                                True) ∧
                                                                                                                                      (leastLF2 x w g).μ y_1 <
                                                                                                                                        (leastLF2 x w g).μ y)) ∧
                                                                                                                  (decide ((↑y.k : Int) < leastF y.s.clk w.sel (4 : Nat)) = false →
                                                                                                                    ∀ (v : Int),
                                                                                                                      v = IntKind.i64.wrap ((↑y.k : Int) + (1 : Int)) →
                                                                                                                        ∃ (y_1 : A2),
                                                                                                                          (y_1.s.Ok ∧
                                                                                                                              y_1.s.n = (4 : Nat) ∧
                                                                                                                                y_1.k ≤ (4 : Nat) ∧
                                                                                                                                  y_1.k ≤ w.len ∧ y_1.any = w.any y_1.k) ∧
                                                                                                                            ((((x.nil = true → x.nil = true) ∧
                                                                                                                                    (x.nil = false →
                                                                                                                                      x.nil = false ∧
                                                                                                                                        True ∧
                                                                                                                                          True ∧
                                                                                                                                            (0 : Nat) = (0 : Nat) ∧
                                                                                                                                              x.len = x.len ∧ x.cap = x.cap)) ∧
                                                                                                                                  ((w.nil = true → w.nil = true) ∧
                                                                                                                                      (w.nil = false →
                                                                                                                                        w.nil = false ∧
                                                                                                                                          True ∧
                                                                                                                                            True ∧
                                                                                                                                              (0 : Nat) = (0 : Nat) ∧
                                                                                                                                                w.len = w.len ∧ w.cap = w.cap)) ∧
                                                                                                                                    (True ∧ True) ∧
                                                                                                                                      leastF y.s.clk w.sel (4 : Nat) =
                                                                                                                                          leastF y_1.s.clk w.sel (4 : Nat) ∧
                                                                                                                                        y_1.any = true ∧ v = (↑y_1.k : Int) ∧ True) ∧
                                                                                                                                ((0 : Nat) ≤ (0 : Nat) ∧
                                                                                                                                    x.len = x.len ∧
                                                                                                                                      ∀ (j : Nat),
                                                                                                                                        j < x.len →
                                                                                                                                          x.core j = x.core j ∧
                                                                                                                                            x.kind j = x.kind j ∧
                                                                                                                                              x.times j = x.times j ∧
                                                                                                                                                x.wait j = x.wait j ∧ True) ∧
                                                                                                                                  ((0 : Nat) ≤ (0 : Nat) ∧
                                                                                                                                      w.len = w.len ∧
                                                                                                                                        ∀ (j : Nat), j < w.len → w.w j = w.w j) ∧
                                                                                                                                    ((2 : Nat) ≤ (2 : Nat) ∧
                                                                                                                                        (True ∧
                                                                                                                                            True ∧
                                                                                                                                              (0 : Nat) = (0 : Nat) ∧
                                                                                                                                                y.s.n = y_1.s.n ∧ y.s.n = y_1.s.n) ∧
                                                                                                                                          y.s.st = y_1.s.st ∧ True) ∧
                                                                                                                                      (y_1.s.n * (10 : Nat) ≤ y.s.n * (10 : Nat) ∧
                                                                                                                                          y_1.s.n = y.s.n ∧
                                                                                                                                            ∀ (j : Nat),
                                                                                                                                              j < y.s.n →
                                                                                                                                                y.s.clk j = y_1.s.clk j ∧
                                                                                                                                                  ((9 : Nat) = (9 : Nat) ∧
                                                                                                                                                      ∀ (j_1 : Nat),
                                                                                                                                                        j_1 < (9 : Nat) →
                                                                                                                                                          y.s.by_ j j_1 =
                                                                                                                                                            y_1.s.by_ j j_1) ∧
                                                                                                                                                    True) ∧
                                                                                                                                        True) ∧
                                                                                                                              (leastLF2 x w g).μ y_1 < (leastLF2 x w g).μ y))) ∧
                                                                                                      (decide (leastF y.s.clk w.sel (4 : Nat) ≥ (0 : Int)) = false →
                                                                                                        ∀ (v : Int),
                                                                                                          v = IntKind.i64.wrap ((↑y.k : Int) + (1 : Int)) →
                                                                                                            ∃ (y_1 : A2),
                                                                                                              (y_1.s.Ok ∧
                                                                                                                  y_1.s.n = (4 : Nat) ∧
                                                                                                                    y_1.k ≤ (4 : Nat) ∧ y_1.k ≤ w.len ∧ y_1.any = w.any y_1.k) ∧
                                                                                                                ((((x.nil = true → x.nil = true) ∧
                                                                                                                        (x.nil = false →
                                                                                                                          x.nil = false ∧
                                                                                                                            True ∧
                                                                                                                              True ∧
                                                                                                                                (0 : Nat) = (0 : Nat) ∧
                                                                                                                                  x.len = x.len ∧ x.cap = x.cap)) ∧
                                                                                                                      ((w.nil = true → w.nil = true) ∧
                                                                                                                          (w.nil = false →
                                                                                                                            w.nil = false ∧
                                                                                                                              True ∧
                                                                                                                                True ∧
                                                                                                                                  (0 : Nat) = (0 : Nat) ∧
                                                                                                                                    w.len = w.len ∧ w.cap = w.cap)) ∧
                                                                                                                        (True ∧ True) ∧
                                                                                                                          leastF y.s.clk w.sel (4 : Nat) =
                                                                                                                              leastF y_1.s.clk w.sel (4 : Nat) ∧
                                                                                                                            y_1.any = true ∧ v = (↑y_1.k : Int) ∧ True) ∧
                                                                                                                    ((0 : Nat) ≤ (0 : Nat) ∧
                                                                                                                        x.len = x.len ∧
                                                                                                                          ∀ (j : Nat),
                                                                                                                            j < x.len →
                                                                                                                              x.core j = x.core j ∧
                                                                                                                                x.kind j = x.kind j ∧
                                                                                                                                  x.times j = x.times j ∧
                                                                                                                                    x.wait j = x.wait j ∧ True) ∧
                                                                                                                      ((0 : Nat) ≤ (0 : Nat) ∧
                                                                                                                          w.len = w.len ∧ ∀ (j : Nat), j < w.len → w.w j = w.w j) ∧
                                                                                                                        ((2 : Nat) ≤ (2 : Nat) ∧
                                                                                                                            (True ∧
                                                                                                                                True ∧
                                                                                                                                  (0 : Nat) = (0 : Nat) ∧
                                                                                                                                    y.s.n = y_1.s.n ∧ y.s.n = y_1.s.n) ∧
                                                                                                                              y.s.st = y_1.s.st ∧ True) ∧
                                                                                                                          (y_1.s.n * (10 : Nat) ≤ y.s.n * (10 : Nat) ∧
                                                                                                                              y_1.s.n = y.s.n ∧
                                                                                                                                ∀ (j : Nat),
                                                                                                                                  j < y.s.n →
                                                                                                                                    y.s.clk j = y_1.s.clk j ∧
                                                                                                                                      ((9 : Nat) = (9 : Nat) ∧
                                                                                                                                          ∀ (j_1 : Nat),
                                                                                                                                            j_1 < (9 : Nat) →
                                                                                                                                              y.s.by_ j j_1 = y_1.s.by_ j j_1) ∧
                                                                                                                                        True) ∧
                                                                                                                            True) ∧
                                                                                                                  (leastLF2 x w g).μ y_1 < (leastLF2 x w g).μ y)) ∧
                                                                                                  (w.w ((0 : Nat) + (↑y.k : Int).toNat) = false →
                                                                                                    ∀ (v : Int),
                                                                                                      v = IntKind.i64.wrap ((↑y.k : Int) + (1 : Int)) →
                                                                                                        ∃ (y_1 : A2),
                                                                                                          (y_1.s.Ok ∧
                                                                                                              y_1.s.n = (4 : Nat) ∧
                                                                                                                y_1.k ≤ (4 : Nat) ∧ y_1.k ≤ w.len ∧ y_1.any = w.any y_1.k) ∧
                                                                                                            ((((x.nil = true → x.nil = true) ∧
                                                                                                                    (x.nil = false →
                                                                                                                      x.nil = false ∧
                                                                                                                        True ∧
                                                                                                                          True ∧
                                                                                                                            (0 : Nat) = (0 : Nat) ∧ x.len = x.len ∧ x.cap = x.cap)) ∧
                                                                                                                  ((w.nil = true → w.nil = true) ∧
                                                                                                                      (w.nil = false →
                                                                                                                        w.nil = false ∧
                                                                                                                          True ∧
                                                                                                                            True ∧
                                                                                                                              (0 : Nat) = (0 : Nat) ∧
                                                                                                                                w.len = w.len ∧ w.cap = w.cap)) ∧
                                                                                                                    (True ∧ True) ∧
                                                                                                                      leastF y.s.clk w.sel (4 : Nat) =
                                                                                                                          leastF y_1.s.clk w.sel (4 : Nat) ∧
                                                                                                                        y_1.any = true ∧ v = (↑y_1.k : Int) ∧ True) ∧
                                                                                                                ((0 : Nat) ≤ (0 : Nat) ∧
                                                                                                                    x.len = x.len ∧
                                                                                                                      ∀ (j : Nat),
                                                                                                                        j < x.len →
                                                                                                                          x.core j = x.core j ∧
                                                                                                                            x.kind j = x.kind j ∧
                                                                                                                              x.times j = x.times j ∧ x.wait j = x.wait j ∧ True) ∧
                                                                                                                  ((0 : Nat) ≤ (0 : Nat) ∧
                                                                                                                      w.len = w.len ∧ ∀ (j : Nat), j < w.len → w.w j = w.w j) ∧
                                                                                                                    ((2 : Nat) ≤ (2 : Nat) ∧
                                                                                                                        (True ∧
                                                                                                                            True ∧
                                                                                                                              (0 : Nat) = (0 : Nat) ∧
                                                                                                                                y.s.n = y_1.s.n ∧ y.s.n = y_1.s.n) ∧
                                                                                                                          y.s.st = y_1.s.st ∧ True) ∧
                                                                                                                      (y_1.s.n * (10 : Nat) ≤ y.s.n * (10 : Nat) ∧
                                                                                                                          y_1.s.n = y.s.n ∧
                                                                                                                            ∀ (j : Nat),
                                                                                                                              j < y.s.n →
                                                                                                                                y.s.clk j = y_1.s.clk j ∧
                                                                                                                                  ((9 : Nat) = (9 : Nat) ∧
                                                                                                                                      ∀ (j_1 : Nat),
                                                                                                                                        j_1 < (9 : Nat) →
                                                                                                                                          y.s.by_ j j_1 = y_1.s.by_ j j_1) ∧
                                                                                                                                    True) ∧
                                                                                                                        True) ∧
                                                                                                              (leastLF2 x w g).μ y_1 < (leastLF2 x w g).μ y)) ∧
                                                                                        (y.any = false →
                                                                                          (w.nil = true → w.len = (0 : Nat)) ∧
                                                                                            ((0 : Int) ≤ (↑y.k : Int) ∧ (↑y.k : Int) < (↑w.len : Int)) ∧
                                                                                              (0 : Nat) + (↑y.k : Int).toNat < w.len ∧
                                                                                                (w.nil = true → w.len = (0 : Nat)) ∧
                                                                                                  ((0 : Int) ≤ (↑y.k : Int) ∧ (↑y.k : Int) < (↑w.len : Int)) ∧
                                                                                                    (0 : Nat) + (↑y.k : Int).toNat < w.len ∧
                                                                                                      (w.w ((0 : Nat) + (↑y.k : Int).toNat) = true →
                                                                                                          (decide (leastF y.s.clk w.sel (4 : Nat) ≥ (0 : Int)) = true →
                                                                                                              (((True ∧ True) ∧ (↑y.k : Int) = (↑y.k : Int) ∧ True) ∧
                                                                                                                  ((2 : Nat) ≤ (2 : Nat) ∧
                                                                                                                      (True ∧
                                                                                                                          True ∧
                                                                                                                            (0 : Nat) = (0 : Nat) ∧ y.s.n = y.s.n ∧ y.s.n = y.s.n) ∧
                                                                                                                        y.s.st = y.s.st ∧ True) ∧
                                                                                                                    (y.s.n * (10 : Nat) ≤ y.s.n * (10 : Nat) ∧
                                                                                                                        y.s.n = y.s.n ∧
                                                                                                                          ∀ (j : Nat),
                                                                                                                            j < y.s.n →
                                                                                                                              y.s.clk j = y.s.clk j ∧
                                                                                                                                ((9 : Nat) = (9 : Nat) ∧
                                                                                                                                    ∀ (j_1 : Nat),
                                                                                                                                      j_1 < (9 : Nat) →
                                                                                                                                        y.s.by_ j j_1 = y.s.by_ j j_1) ∧
                                                                                                                                  True) ∧
                                                                                                                      True) ∧
                                                                                                                (((True ∧ True) ∧
                                                                                                                      leastF y.s.clk w.sel (4 : Nat) =
                                                                                                                          leastF y.s.clk w.sel (4 : Nat) ∧
                                                                                                                        True) ∧
                                                                                                                    ((2 : Nat) ≤ (2 : Nat) ∧
                                                                                                                        (True ∧
                                                                                                                            True ∧
                                                                                                                              (0 : Nat) = (0 : Nat) ∧ y.s.n = y.s.n ∧ y.s.n = y.s.n) ∧
                                                                                                                          y.s.st = y.s.st ∧ True) ∧
                                                                                                                      (y.s.n * (10 : Nat) ≤ y.s.n * (10 : Nat) ∧
                                                                                                                          y.s.n = y.s.n ∧
                                                                                                                            ∀ (j : Nat),
                                                                                                                              j < y.s.n →
                                                                                                                                y.s.clk j = y.s.clk j ∧
                                                                                                                                  ((9 : Nat) = (9 : Nat) ∧
                                                                                                                                      ∀ (j_1 : Nat),
                                                                                                                                        j_1 < (9 : Nat) →
                                                                                                                                          y.s.by_ j j_1 = y.s.by_ j j_1) ∧
                                                                                                                                    True) ∧
                                                                                                                        True) ∧
                                                                                                                  (decide
                                                                                                                          (y.s.clkOf (↑y.k : Int) <
                                                                                                                            y.s.clkOf (leastF y.s.clk w.sel (4 : Nat))) =
                                                                                                                        true →
                                                                                                                      x.Ok ∧ (w.nil = true → w.len = (0 : Nat)) →
                                                                                                                        False ∧
                                                                                                                          True ∧
                                                                                                                            ((0 : Nat) ≤ (0 : Nat) ∧
                                                                                                                                x.len = x.len ∧
                                                                                                                                  ∀ (j : Nat),
                                                                                                                                    j < x.len →
                                                                                                                                      x.core j = x.core j ∧
                                                                                                                                        x.kind j = x.kind j ∧
                                                                                                                                          x.times j = x.times j ∧
                                                                                                                                            x.wait j = x.wait j ∧ True) ∧
                                                                                                                              ((0 : Nat) ≤ (0 : Nat) ∧
                                                                                                                                  w.len = w.len ∧
                                                                                                                                    ∀ (j : Nat), j < w.len → w.w j = w.w j) ∧
                                                                                                                                True) ∧
                                                                                                                    (decide
                                                                                                                          (y.s.clkOf (↑y.k : Int) <
                                                                                                                            y.s.clkOf (leastF y.s.clk w.sel (4 : Nat))) =
                                                                                                                        false →
                                                                                                                      (decide ((↑y.k : Int) < leastF y.s.clk w.sel (4 : Nat)) = true →
                                                                                                                          (((True ∧ True) ∧ (↑y.k : Int) = (↑y.k : Int) ∧ True) ∧
                                                                                                                              ((2 : Nat) ≤ (2 : Nat) ∧
                                                                                                                                  (True ∧
                                                                                                                                      True ∧
                                                                                                                                        (0 : Nat) = (0 : Nat) ∧
                                                                                                                                          y.s.n = y.s.n ∧ y.s.n = y.s.n) ∧
                                                                                                                                    y.s.st = y.s.st ∧ True) ∧
                                                                                                                                (y.s.n * (10 : Nat) ≤ y.s.n * (10 : Nat) ∧
                                                                                                                                    y.s.n = y.s.n ∧
                                                                                                                                      ∀ (j : Nat),
                                                                                                                                        j < y.s.n →
                                                                                                                                          y.s.clk j = y.s.clk j ∧
                                                                                                                                            ((9 : Nat) = (9 : Nat) ∧
                                                                                                                                                ∀ (j_1 : Nat),
                                                                                                                                                  j_1 < (9 : Nat) →
                                                                                                                                                    y.s.by_ j j_1 = y.s.by_ j j_1) ∧
                                                                                                                                              True) ∧
                                                                                                                                  True) ∧
                                                                                                                            (((True ∧ True) ∧
                                                                                                                                  leastF y.s.clk w.sel (4 : Nat) =
                                                                                                                                      leastF y.s.clk w.sel (4 : Nat) ∧
                                                                                                                                    True) ∧
                                                                                                                                ((2 : Nat) ≤ (2 : Nat) ∧
                                                                                                                                    (True ∧
                                                                                                                                        True ∧
                                                                                                                                          (0 : Nat) = (0 : Nat) ∧
                                                                                                                                            y.s.n = y.s.n ∧ y.s.n = y.s.n) ∧
                                                                                                                                      y.s.st = y.s.st ∧ True) ∧
                                                                                                                                  (y.s.n * (10 : Nat) ≤ y.s.n * (10 : Nat) ∧
                                                                                                                                      y.s.n = y.s.n ∧
                                                                                                                                        ∀ (j : Nat),
                                                                                                                                          j < y.s.n →
                                                                                                                                            y.s.clk j = y.s.clk j ∧
                                                                                                                                              ((9 : Nat) = (9 : Nat) ∧
                                                                                                                                                  ∀ (j_1 : Nat),
                                                                                                                                                    j_1 < (9 : Nat) →
                                                                                                                                                      y.s.by_ j j_1 = y.s.by_ j j_1) ∧
                                                                                                                                                True) ∧
                                                                                                                                    True) ∧
                                                                                                                              ((y.s.clkOf (↑y.k : Int) ==
                                                                                                                                      y.s.clkOf (leastF y.s.clk w.sel (4 : Nat))) =
                                                                                                                                    true →
                                                                                                                                  x.Ok ∧ (w.nil = true → w.len = (0 : Nat)) →
                                                                                                                                    False ∧
                                                                                                                                      True ∧
                                                                                                                                        ((0 : Nat) ≤ (0 : Nat) ∧
                                                                                                                                            x.len = x.len ∧
                                                                                                                                              ∀ (j : Nat),
                                                                                                                                                j < x.len →
                                                                                                                                                  x.core j = x.core j ∧
                                                                                                                                                    x.kind j = x.kind j ∧
                                                                                                                                                      x.times j = x.times j ∧
                                                                                                                                                        x.wait j = x.wait j ∧ True) ∧
                                                                                                                                          ((0 : Nat) ≤ (0 : Nat) ∧
                                                                                                                                              w.len = w.len ∧
                                                                                                                                                ∀ (j : Nat),
                                                                                                                                                  j < w.len → w.w j = w.w j) ∧
                                                                                                                                            True) ∧
                                                                                                                                ((y.s.clkOf (↑y.k : Int) ==
                                                                                                                                      y.s.clkOf (leastF y.s.clk w.sel (4 : Nat))) =
                                                                                                                                    false →
                                                                                                                                  ∀ (v : Int),
                                                                                                                                    v = IntKind.i64.wrap ((↑y.k : Int) + (1 : Int)) →
                                                                                                                                      ∃ (y_1 : A2),
                                                                                                                                        (y_1.s.Ok ∧
                                                                                                                                            y_1.s.n = (4 : Nat) ∧
                                                                                                                                              y_1.k ≤ (4 : Nat) ∧
                                                                                                                                                y_1.k ≤ w.len ∧
                                                                                                                                                  y_1.any = w.any y_1.k) ∧
                                                                                                                                          ((((x.nil = true → x.nil = true) ∧
                                                                                                                                                  (x.nil = false →
                                                                                                                                                    x.nil = false ∧
                                                                                                                                                      True ∧
                                                                                                                                                        True ∧
                                                                                                                                                          (0 : Nat) = (0 : Nat) ∧
                                                                                                                                                            x.len = x.len ∧
                                                                                                                                                              x.cap = x.cap)) ∧
                                                                                                                                                ((w.nil = true → w.nil = true) ∧
                                                                                                                                                    (w.nil = false →
                                                                                                                                                      w.nil = false ∧
                                                                                                                                                        True ∧
                                                                                                                                                          True ∧
                                                                                                                                                            (0 : Nat) = (0 : Nat) ∧
                                                                                                                                                              w.len = w.len ∧
                                                                                                                                                                w.cap = w.cap)) ∧
                                                                                                                                                  (True ∧ True) ∧
                                                                                                                                                    leastF y.s.clk w.sel (4 : Nat) =
                                                                                                                                                        leastF y_1.s.clk w.sel
                                                                                                                                                          (4 : Nat) ∧
                                                                                                                                                      w.w
                                                                                                                                                            ((0 : Nat) +
                                                                                                                                                              (↑y.k : Int).toNat) =
                                                                                                                                                          y_1.any ∧
                                                                                                                                                        v = (↑y_1.k : Int) ∧ True) ∧
                                                                                                                                              ((0 : Nat) ≤ (0 : Nat) ∧
                                                                                                                                                  x.len = x.len ∧
                                                                                                                                                    ∀ (j : Nat),
                                                                                                                                                      j < x.len →
                                                                                                                                                        x.core j = x.core j ∧
                                                                                                                                                          x.kind j = x.kind j ∧
                                                                                                                                                            x.times j = x.times j ∧
                                                                                                                                                              x.wait j = x.wait j ∧
                                                                                                                                                                True) ∧
                                                                                                                                                ((0 : Nat) ≤ (0 : Nat) ∧
                                                                                                                                                    w.len = w.len ∧
                                                                                                                                                      ∀ (j : Nat),
                                                                                                                                                        j < w.len → w.w j = w.w j) ∧
                                                                                                                                                  ((2 : Nat) ≤ (2 : Nat) ∧
                                                                                                                                                      (True ∧
                                                                                                                                                          True ∧
                                                                                                                                                            (0 : Nat) = (0 : Nat) ∧
                                                                                                                                                              y.s.n = y_1.s.n ∧
                                                                                                                                                                y.s.n = y_1.s.n) ∧
                                                                                                                                                        y.s.st = y_1.s.st ∧ True) ∧
                                                                                                                                                    (y_1.s.n * (10 : Nat) ≤
                                                                                                                                                          y.s.n * (10 : Nat) ∧
                                                                                                                                                        y_1.s.n = y.s.n ∧
                                                                                                                                                          ∀ (j : Nat),
                                                                                                                                                            j < y.s.n →
                                                                                                                                                              y.s.clk j =
                                                                                                                                                                  y_1.s.clk j ∧
                                                                                                                                                                ((9 : Nat) =
                                                                                                                                                                      (9 : Nat) ∧
                                                                                                                                                                    ∀ (j_1 : Nat),
                                                                                                                                                                      j_1 <
                                                                                                                                                                          (9 : Nat) →
                                                                                                                                                                        y.s.by_ j
                                                                                                                                                                            j_1 =
                                                                                                                                                                          y_1.s.by_ j
                                                                                                                                                                            j_1) ∧
                                                                                                                                                                  True) ∧
                                                                                                                                                      True) ∧
                                                                                                                                            (leastLF2 x w g).μ y_1 <
                                                                                                                                              (leastLF2 x w g).μ y)) ∧
                                                                                                                        (decide ((↑y.k : Int) < leastF y.s.clk w.sel (4 : Nat)) =
                                                                                                                            false →
                                                                                                                          ∀ (v : Int),
                                                                                                                            v = IntKind.i64.wrap ((↑y.k : Int) + (1 : Int)) →
                                                                                                                              ∃ (y_1 : A2),
                                                                                                                                (y_1.s.Ok ∧
                                                                                                                                    y_1.s.n = (4 : Nat) ∧
                                                                                                                                      y_1.k ≤ (4 : Nat) ∧
                                                                                                                                        y_1.k ≤ w.len ∧ y_1.any = w.any y_1.k) ∧
                                                                                                                                  ((((x.nil = true → x.nil = true) ∧
                                                                                                                                          (x.nil = false →
                                                                                                                                            x.nil = false ∧
                                                                                                                                              True ∧
                                                                                                                                                True ∧
                                                                                                                                                  (0 : Nat) = (0 : Nat) ∧
                                                                                                                                                    x.len = x.len ∧ x.cap = x.cap)) ∧
                                                                                                                                        ((w.nil = true → w.nil = true) ∧
                                                                                                                                            (w.nil = false →
                                                                                                                                              w.nil = false ∧
                                                                                                                                                True ∧
                                                                                                                                                  True ∧
                                                                                                                                                    (0 : Nat) = (0 : Nat) ∧
                                                                                                                                                      w.len = w.len ∧
                                                                                                                                                        w.cap = w.cap)) ∧
                                                                                                                                          (True ∧ True) ∧
                                                                                                                                            leastF y.s.clk w.sel (4 : Nat) =
                                                                                                                                                leastF y_1.s.clk w.sel (4 : Nat) ∧
                                                                                                                                              w.w ((0 : Nat) + (↑y.k : Int).toNat) =
                                                                                                                                                  y_1.any ∧
                                                                                                                                                v = (↑y_1.k : Int) ∧ True) ∧
                                                                                                                                      ((0 : Nat) ≤ (0 : Nat) ∧
                                                                                                                                          x.len = x.len ∧
                                                                                                                                            ∀ (j : Nat),
                                                                                                                                              j < x.len →
                                                                                                                                                x.core j = x.core j ∧
                                                                                                                                                  x.kind j = x.kind j ∧
                                                                                                                                                    x.times j = x.times j ∧
                                                                                                                                                      x.wait j = x.wait j ∧ True) ∧
                                                                                                                                        ((0 : Nat) ≤ (0 : Nat) ∧
                                                                                                                                            w.len = w.len ∧
                                                                                                                                              ∀ (j : Nat),
                                                                                                                                                j < w.len → w.w j = w.w j) ∧
                                                                                                                                          ((2 : Nat) ≤ (2 : Nat) ∧
                                                                                                                                              (True ∧
                                                                                                                                                  True ∧
                                                                                                                                                    (0 : Nat) = (0 : Nat) ∧
                                                                                                                                                      y.s.n = y_1.s.n ∧
                                                                                                                                                        y.s.n = y_1.s.n) ∧
                                                                                                                                                y.s.st = y_1.s.st ∧ True) ∧
                                                                                                                                            (y_1.s.n * (10 : Nat) ≤
                                                                                                                                                  y.s.n * (10 : Nat) ∧
                                                                                                                                                y_1.s.n = y.s.n ∧
                                                                                                                                                  ∀ (j : Nat),
                                                                                                                                                    j < y.s.n →
                                                                                                                                                      y.s.clk j = y_1.s.clk j ∧
                                                                                                                                                        ((9 : Nat) = (9 : Nat) ∧
                                                                                                                                                            ∀ (j_1 : Nat),
                                                                                                                                                              j_1 < (9 : Nat) →
                                                                                                                                                                y.s.by_ j j_1 =
                                                                                                                                                                  y_1.s.by_ j j_1) ∧
                                                                                                                                                          True) ∧
                                                                                                                                              True) ∧
                                                                                                                                    (leastLF2 x w g).μ y_1 < (leastLF2 x w g).μ y))) ∧
                                                                                                            (decide (leastF y.s.clk w.sel (4 : Nat) ≥ (0 : Int)) = false →
                                                                                                              ∀ (v : Int),
                                                                                                                v = IntKind.i64.wrap ((↑y.k : Int) + (1 : Int)) →
                                                                                                                  ∃ (y_1 : A2),
                                                                                                                    (y_1.s.Ok ∧
                                                                                                                        y_1.s.n = (4 : Nat) ∧
                                                                                                                          y_1.k ≤ (4 : Nat) ∧ y_1.k ≤ w.len ∧ y_1.any = w.any y_1.k) ∧
                                                                                                                      ((((x.nil = true → x.nil = true) ∧
                                                                                                                              (x.nil = false →
                                                                                                                                x.nil = false ∧
                                                                                                                                  True ∧
                                                                                                                                    True ∧
                                                                                                                                      (0 : Nat) = (0 : Nat) ∧
                                                                                                                                        x.len = x.len ∧ x.cap = x.cap)) ∧
                                                                                                                            ((w.nil = true → w.nil = true) ∧
                                                                                                                                (w.nil = false →
                                                                                                                                  w.nil = false ∧
                                                                                                                                    True ∧
                                                                                                                                      True ∧
                                                                                                                                        (0 : Nat) = (0 : Nat) ∧
                                                                                                                                          w.len = w.len ∧ w.cap = w.cap)) ∧
                                                                                                                              (True ∧ True) ∧
                                                                                                                                leastF y.s.clk w.sel (4 : Nat) =
                                                                                                                                    leastF y_1.s.clk w.sel (4 : Nat) ∧
                                                                                                                                  w.w ((0 : Nat) + (↑y.k : Int).toNat) = y_1.any ∧
                                                                                                                                    v = (↑y_1.k : Int) ∧ True) ∧
                                                                                                                          ((0 : Nat) ≤ (0 : Nat) ∧
                                                                                                                              x.len = x.len ∧
                                                                                                                                ∀ (j : Nat),
                                                                                                                                  j < x.len →
                                                                                                                                    x.core j = x.core j ∧
                                                                                                                                      x.kind j = x.kind j ∧
                                                                                                                                        x.times j = x.times j ∧
                                                                                                                                          x.wait j = x.wait j ∧ True) ∧
                                                                                                                            ((0 : Nat) ≤ (0 : Nat) ∧
                                                                                                                                w.len = w.len ∧
                                                                                                                                  ∀ (j : Nat), j < w.len → w.w j = w.w j) ∧
                                                                                                                              ((2 : Nat) ≤ (2 : Nat) ∧
                                                                                                                                  (True ∧
                                                                                                                                      True ∧
                                                                                                                                        (0 : Nat) = (0 : Nat) ∧
                                                                                                                                          y.s.n = y_1.s.n ∧ y.s.n = y_1.s.n) ∧
                                                                                                                                    y.s.st = y_1.s.st ∧ True) ∧
                                                                                                                                (y_1.s.n * (10 : Nat) ≤ y.s.n * (10 : Nat) ∧
                                                                                                                                    y_1.s.n = y.s.n ∧
                                                                                                                                      ∀ (j : Nat),
                                                                                                                                        j < y.s.n →
                                                                                                                                          y.s.clk j = y_1.s.clk j ∧
                                                                                                                                            ((9 : Nat) = (9 : Nat) ∧
                                                                                                                                                ∀ (j_1 : Nat),
                                                                                                                                                  j_1 < (9 : Nat) →
                                                                                                                                                    y.s.by_ j j_1 = y_1.s.by_ j j_1) ∧
                                                                                                                                              True) ∧
                                                                                                                                  True) ∧
                                                                                                                        (leastLF2 x w g).μ y_1 < (leastLF2 x w g).μ y)) ∧
                                                                                                        (w.w ((0 : Nat) + (↑y.k : Int).toNat) = false →
                                                                                                          ∀ (v : Int),
                                                                                                            v = IntKind.i64.wrap ((↑y.k : Int) + (1 : Int)) →
                                                                                                              ∃ (y_1 : A2),
                                                                                                                (y_1.s.Ok ∧
                                                                                                                    y_1.s.n = (4 : Nat) ∧
                                                                                                                      y_1.k ≤ (4 : Nat) ∧ y_1.k ≤ w.len ∧ y_1.any = w.any y_1.k) ∧
                                                                                                                  ((((x.nil = true → x.nil = true) ∧
                                                                                                                          (x.nil = false →
                                                                                                                            x.nil = false ∧
                                                                                                                              True ∧
                                                                                                                                True ∧
                                                                                                                                  (0 : Nat) = (0 : Nat) ∧
                                                                                                                                    x.len = x.len ∧ x.cap = x.cap)) ∧
                                                                                                                        ((w.nil = true → w.nil = true) ∧
                                                                                                                            (w.nil = false →
                                                                                                                              w.nil = false ∧
                                                                                                                                True ∧
                                                                                                                                  True ∧
                                                                                                                                    (0 : Nat) = (0 : Nat) ∧
                                                                                                                                      w.len = w.len ∧ w.cap = w.cap)) ∧
                                                                                                                          (True ∧ True) ∧
                                                                                                                            leastF y.s.clk w.sel (4 : Nat) =
                                                                                                                                leastF y_1.s.clk w.sel (4 : Nat) ∧
                                                                                                                              w.w ((0 : Nat) + (↑y.k : Int).toNat) = y_1.any ∧
                                                                                                                                v = (↑y_1.k : Int) ∧ True) ∧
                                                                                                                      ((0 : Nat) ≤ (0 : Nat) ∧
                                                                                                                          x.len = x.len ∧
                                                                                                                            ∀ (j : Nat),
                                                                                                                              j < x.len →
                                                                                                                                x.core j = x.core j ∧
                                                                                                                                  x.kind j = x.kind j ∧
                                                                                                                                    x.times j = x.times j ∧
                                                                                                                                      x.wait j = x.wait j ∧ True) ∧
                                                                                                                        ((0 : Nat) ≤ (0 : Nat) ∧
                                                                                                                            w.len = w.len ∧ ∀ (j : Nat), j < w.len → w.w j = w.w j) ∧
                                                                                                                          ((2 : Nat) ≤ (2 : Nat) ∧
                                                                                                                              (True ∧
                                                                                                                                  True ∧
                                                                                                                                    (0 : Nat) = (0 : Nat) ∧
                                                                                                                                      y.s.n = y_1.s.n ∧ y.s.n = y_1.s.n) ∧
                                                                                                                                y.s.st = y_1.s.st ∧ True) ∧
                                                                                                                            (y_1.s.n * (10 : Nat) ≤ y.s.n * (10 : Nat) ∧
                                                                                                                                y_1.s.n = y.s.n ∧
                                                                                                                                  ∀ (j : Nat),
                                                                                                                                    j < y.s.n →
                                                                                                                                      y.s.clk j = y_1.s.clk j ∧
                                                                                                                                        ((9 : Nat) = (9 : Nat) ∧
                                                                                                                                            ∀ (j_1 : Nat),
                                                                                                                                              j_1 < (9 : Nat) →
                                                                                                                                                y.s.by_ j j_1 = y_1.s.by_ j j_1) ∧
                                                                                                                                          True) ∧
                                                                                                                              True) ∧
                                                                                                                    (leastLF2 x w g).μ y_1 < (leastLF2 x w g).μ y))) ∧
                                                                                    (decide ((↑y.k : Int) < (↑w.len : Int)) = false →
                                                                                      ((!y.any) = true →
                                                                                          x.Ok ∧ (w.nil = true → w.len = (0 : Nat)) →
                                                                                            (leastF y.s.clk w.sel (4 : Nat) == (-1 : Int)) = true ∧
                                                                                              True ∧
                                                                                                ((0 : Nat) ≤ (0 : Nat) ∧
                                                                                                    x.len = x.len ∧
                                                                                                      ∀ (j : Nat),
                                                                                                        j < x.len →
                                                                                                          x.core j = x.core j ∧
                                                                                                            x.kind j = x.kind j ∧
                                                                                                              x.times j = x.times j ∧ x.wait j = x.wait j ∧ True) ∧
                                                                                                  ((0 : Nat) ≤ (0 : Nat) ∧ w.len = w.len ∧ ∀ (j : Nat), j < w.len → w.w j = w.w j) ∧
                                                                                                    True) ∧
                                                                                        ((!y.any) = false →
                                                                                          (decide (leastF y.s.clk w.sel (4 : Nat) ≥ (0 : Int)) = true →
                                                                                              (w.nil = true → w.len = (0 : Nat)) ∧
                                                                                                (decide (leastF y.s.clk w.sel (4 : Nat) < (↑w.len : Int)) = true →
                                                                                                    (decide (leastF y.s.clk w.sel (4 : Nat) < (4 : Int)) = true →
                                                                                                        (w.nil = true → w.len = (0 : Nat)) ∧
                                                                                                          ((0 : Int) ≤ leastF y.s.clk w.sel (4 : Nat) ∧
                                                                                                              leastF y.s.clk w.sel (4 : Nat) < (↑w.len : Int)) ∧
                                                                                                            (0 : Nat) + (leastF y.s.clk w.sel (4 : Nat)).toNat < w.len ∧
                                                                                                              (x.Ok ∧ (w.nil = true → w.len = (0 : Nat)) →
                                                                                                                w.w ((0 : Nat) + (leastF y.s.clk w.sel (4 : Nat)).toNat) = true ∧
                                                                                                                  True ∧
                                                                                                                    ((0 : Nat) ≤ (0 : Nat) ∧
                                                                                                                        x.len = x.len ∧
                                                                                                                          ∀ (j : Nat),
                                                                                                                            j < x.len →
                                                                                                                              x.core j = x.core j ∧
                                                                                                                                x.kind j = x.kind j ∧
                                                                                                                                  x.times j = x.times j ∧
                                                                                                                                    x.wait j = x.wait j ∧ True) ∧
                                                                                                                      ((0 : Nat) ≤ (0 : Nat) ∧
                                                                                                                          w.len = w.len ∧ ∀ (j : Nat), j < w.len → w.w j = w.w j) ∧
                                                                                                                        True)) ∧
                                                                                                      (decide (leastF y.s.clk w.sel (4 : Nat) < (4 : Int)) = false →
                                                                                                        x.Ok ∧ (w.nil = true → w.len = (0 : Nat)) →
                                                                                                          False ∧
                                                                                                            True ∧
                                                                                                              ((0 : Nat) ≤ (0 : Nat) ∧
                                                                                                                  x.len = x.len ∧
                                                                                                                    ∀ (j : Nat),
                                                                                                                      j < x.len →
                                                                                                                        x.core j = x.core j ∧
                                                                                                                          x.kind j = x.kind j ∧
                                                                                                                            x.times j = x.times j ∧ x.wait j = x.wait j ∧ True) ∧
                                                                                                                ((0 : Nat) ≤ (0 : Nat) ∧
                                                                                                                    w.len = w.len ∧ ∀ (j : Nat), j < w.len → w.w j = w.w j) ∧
                                                                                                                  True)) ∧
                                                                                                  (decide (leastF y.s.clk w.sel (4 : Nat) < (↑w.len : Int)) = false →
                                                                                                    x.Ok ∧ (w.nil = true → w.len = (0 : Nat)) →
                                                                                                      False ∧
                                                                                                        True ∧
                                                                                                          ((0 : Nat) ≤ (0 : Nat) ∧
                                                                                                              x.len = x.len ∧
                                                                                                                ∀ (j : Nat),
                                                                                                                  j < x.len →
                                                                                                                    x.core j = x.core j ∧
                                                                                                                      x.kind j = x.kind j ∧
                                                                                                                        x.times j = x.times j ∧ x.wait j = x.wait j ∧ True) ∧
                                                                                                            ((0 : Nat) ≤ (0 : Nat) ∧
                                                                                                                w.len = w.len ∧ ∀ (j : Nat), j < w.len → w.w j = w.w j) ∧
                                                                                                              True)) ∧
                                                                                            (decide (leastF y.s.clk w.sel (4 : Nat) ≥ (0 : Int)) = false →
                                                                                              x.Ok ∧ (w.nil = true → w.len = (0 : Nat)) →
                                                                                                False ∧
                                                                                                  True ∧
                                                                                                    ((0 : Nat) ≤ (0 : Nat) ∧
                                                                                                        x.len = x.len ∧
                                                                                                          ∀ (j : Nat),
                                                                                                            j < x.len →
                                                                                                              x.core j = x.core j ∧
                                                                                                                x.kind j = x.kind j ∧
                                                                                                                  x.times j = x.times j ∧ x.wait j = x.wait j ∧ True) ∧
                                                                                                      ((0 : Nat) ≤ (0 : Nat) ∧
                                                                                                          w.len = w.len ∧ ∀ (j : Nat), j < w.len → w.w j = w.w j) ∧
                                                                                                        True)))) ∧
                                                                              (decide ((↑y.k : Int) < (4 : Int)) = false →
                                                                                ((!y.any) = true →
                                                                                    x.Ok ∧ (w.nil = true → w.len = (0 : Nat)) →
                                                                                      (leastF y.s.clk w.sel (4 : Nat) == (-1 : Int)) = true ∧
                                                                                        True ∧
                                                                                          ((0 : Nat) ≤ (0 : Nat) ∧
                                                                                              x.len = x.len ∧
                                                                                                ∀ (j : Nat),
                                                                                                  j < x.len →
                                                                                                    x.core j = x.core j ∧
                                                                                                      x.kind j = x.kind j ∧ x.times j = x.times j ∧ x.wait j = x.wait j ∧ True) ∧
                                                                                            ((0 : Nat) ≤ (0 : Nat) ∧ w.len = w.len ∧ ∀ (j : Nat), j < w.len → w.w j = w.w j) ∧ True) ∧
                                                                                  ((!y.any) = false →
                                                                                    (decide (leastF y.s.clk w.sel (4 : Nat) ≥ (0 : Int)) = true →
                                                                                        (w.nil = true → w.len = (0 : Nat)) ∧
                                                                                          (decide (leastF y.s.clk w.sel (4 : Nat) < (↑w.len : Int)) = true →
                                                                                              (decide (leastF y.s.clk w.sel (4 : Nat) < (4 : Int)) = true →
                                                                                                  (w.nil = true → w.len = (0 : Nat)) ∧
                                                                                                    ((0 : Int) ≤ leastF y.s.clk w.sel (4 : Nat) ∧
                                                                                                        leastF y.s.clk w.sel (4 : Nat) < (↑w.len : Int)) ∧
                                                                                                      (0 : Nat) + (leastF y.s.clk w.sel (4 : Nat)).toNat < w.len ∧
                                                                                                        (x.Ok ∧ (w.nil = true → w.len = (0 : Nat)) →
                                                                                                          w.w ((0 : Nat) + (leastF y.s.clk w.sel (4 : Nat)).toNat) = true ∧
                                                                                                            True ∧
                                                                                                              ((0 : Nat) ≤ (0 : Nat) ∧
                                                                                                                  x.len = x.len ∧
                                                                                                                    ∀ (j : Nat),
                                                                                                                      j < x.len →
                                                                                                                        x.core j = x.core j ∧
                                                                                                                          x.kind j = x.kind j ∧
                                                                                                                            x.times j = x.times j ∧ x.wait j = x.wait j ∧ True) ∧
                                                                                                                ((0 : Nat) ≤ (0 : Nat) ∧
                                                                                                                    w.len = w.len ∧ ∀ (j : Nat), j < w.len → w.w j = w.w j) ∧
                                                                                                                  True)) ∧
                                                                                                (decide (leastF y.s.clk w.sel (4 : Nat) < (4 : Int)) = false →
                                                                                                  x.Ok ∧ (w.nil = true → w.len = (0 : Nat)) →
                                                                                                    False ∧
                                                                                                      True ∧
                                                                                                        ((0 : Nat) ≤ (0 : Nat) ∧
                                                                                                            x.len = x.len ∧
                                                                                                              ∀ (j : Nat),
                                                                                                                j < x.len →
                                                                                                                  x.core j = x.core j ∧
                                                                                                                    x.kind j = x.kind j ∧
                                                                                                                      x.times j = x.times j ∧ x.wait j = x.wait j ∧ True) ∧
                                                                                                          ((0 : Nat) ≤ (0 : Nat) ∧
                                                                                                              w.len = w.len ∧ ∀ (j : Nat), j < w.len → w.w j = w.w j) ∧
                                                                                                            True)) ∧
                                                                                            (decide (leastF y.s.clk w.sel (4 : Nat) < (↑w.len : Int)) = false →
                                                                                              x.Ok ∧ (w.nil = true → w.len = (0 : Nat)) →
                                                                                                False ∧
                                                                                                  True ∧
                                                                                                    ((0 : Nat) ≤ (0 : Nat) ∧
                                                                                                        x.len = x.len ∧
                                                                                                          ∀ (j : Nat),
                                                                                                            j < x.len →
                                                                                                              x.core j = x.core j ∧
                                                                                                                x.kind j = x.kind j ∧
                                                                                                                  x.times j = x.times j ∧ x.wait j = x.wait j ∧ True) ∧
                                                                                                      ((0 : Nat) ≤ (0 : Nat) ∧
                                                                                                          w.len = w.len ∧ ∀ (j : Nat), j < w.len → w.w j = w.w j) ∧
                                                                                                        True)) ∧
                                                                                      (decide (leastF y.s.clk w.sel (4 : Nat) ≥ (0 : Int)) = false →
                                                                                        x.Ok ∧ (w.nil = true → w.len = (0 : Nat)) →
                                                                                          False ∧
                                                                                            True ∧
                                                                                              ((0 : Nat) ≤ (0 : Nat) ∧
                                                                                                  x.len = x.len ∧
                                                                                                    ∀ (j : Nat),
                                                                                                      j < x.len →
                                                                                                        x.core j = x.core j ∧
                                                                                                          x.kind j = x.kind j ∧ x.times j = x.times j ∧ x.wait j = x.wait j ∧ True) ∧
                                                                                                ((0 : Nat) ≤ (0 : Nat) ∧ w.len = w.len ∧ ∀ (j : Nat), j < w.len → w.w j = w.w j) ∧
                                                                                                  True)))))) ∧
                        (¬((1 : Int) ≤ (4 : Int) ∧ (4 : Int) ≤ (4 : Int)) →
                          ∀ (v : Int),
                            v = (11 : Int) →
                              ((v != (0 : Int)) = true →
                                  x.Ok ∧ (w.nil = true → w.len = (0 : Nat)) →
                                    False ∧
                                      True ∧
                                        ((0 : Nat) ≤ (0 : Nat) ∧
                                            x.len = x.len ∧ ∀ (j : Nat), j < x.len → x.core j = x.core j ∧ x.kind j = x.kind j ∧ x.times j = x.times j ∧ x.wait j = x.wait j ∧ True) ∧
                                          ((0 : Nat) ≤ (0 : Nat) ∧ w.len = w.len ∧ ∀ (j : Nat), j < w.len → w.w j = w.w j) ∧ True) ∧
                                ((v != (0 : Int)) = false →
                                  x.Ok ∧ (w.nil = true → w.len = (0 : Nat)) →
                                    False ∧
                                      True ∧
                                        ((0 : Nat) ≤ (0 : Nat) ∧
                                            x.len = x.len ∧ ∀ (j : Nat), j < x.len → x.core j = x.core j ∧ x.kind j = x.kind j ∧ x.times j = x.times j ∧ x.wait j = x.wait j ∧ True) ∧
                                          ((0 : Nat) ≤ (0 : Nat) ∧ w.len = w.len ∧ ∀ (j : Nat), j < w.len → w.w j = w.w j) ∧ True)))) := by
  simp only [true_and, and_true, eq_self, Nat.le_refl, decide_eq_true_eq, decide_eq_false_iff_not, beq_iff_eq, beq_eq_false_iff_ne, implies_true, and_self, bne_iff_ne, Int.not_lt, Int.not_le, ge_iff_le, gt_iff_lt, ne_eq, Nat.zero_add, Int.toNat_natCast, IntKind.wrap_i64, bne_eq_false_iff_eq, Bool.not_eq_true', Bool.not_eq_false']
  rintro x w ⟨hx, hnil⟩
  obtain ⟨xnil, xlen, xx⟩ := id hx
  have hM1 : ∀ a : A1, (leastLF1 x w).μ a = x.len - a.i := fun _ => rfl
  have hM2 : ∀ (u : A1) (a : A2), (leastLF2 x w u).μ a = 4 - a.k := fun _ _ => rfl
  simp only [hM1, hM2]
  refine ⟨xnil, fun h60 => ⟨hnil, fun h20 => ⟨fun _ s0 hs0 v0 hv0 => ⟨fun h => absurd hv0 h, fun _ v hv => ⟨⟨⟨0, s0⟩, ?_⟩, fun y hy => ⟨xnil, fun hlt => ⟨xnil, by omega, by omega, fun hw => ?_, fun hw => ?_⟩, fun hge => ?_⟩⟩⟩, ?_⟩⟩⟩
  · subst hs0
    have := MS.Ok.new 4
    have h3 : (MS.new 4).n = 4 := rfl
    try dsimp only
    repeat' (with_reducible first | assumption | apply And.intro | intro _)
    all_goals (try simp only [] at *)
    all_goals (first | omega | ((repeat' (first | omega | split)) <;> (try dsimp only) <;> (try (first | omega | contradiction | (subst_vars; first | rfl | omega) | (simp_all; done) | (simp_all; omega)))))
  · obtain ⟨h1, h2, h3⟩ := hy
    have hj := xx y.i
    refine ⟨xnil, by omega, by omega, xnil, by omega, by omega, ⟨h2, hj.2.2⟩, fun r hr v hv => ⟨⟨y.i + 1, r.2⟩, ?_⟩⟩
    have f4 : (y.s.wait (x.core y.i) (x.times y.i)).2.Ok := h2.wait
    have f5 := MS.wait_n y.s (x.core y.i) (x.times y.i)
    rw [← hr] at f4 f5
    try dsimp only
    repeat' (with_reducible first | assumption | apply And.intro | intro _)
    all_goals (try simp only [] at *)
    all_goals (first | omega | ((repeat' (first | omega | split)) <;> (try dsimp only) <;> (try (first | omega | contradiction | (subst_vars; first | rfl | omega) | (simp_all; done) | (simp_all; omega)))))
  · obtain ⟨h1, h2, h3⟩ := hy
    have hj := xx y.i
    refine ⟨xnil, by omega, by omega, xnil, by omega, by omega, xnil, by omega, by omega, ⟨h2, hj.2.2⟩, fun r hr v hv => ⟨⟨y.i + 1, r.2⟩, ?_⟩⟩
    have f4 : (y.s.charge (x.core y.i) (x.kind y.i) (x.times y.i)).2.Ok := h2.charge hj.2.2.1
    have f5 := MS.charge_n y.s (x.core y.i) (x.kind y.i) (x.times y.i)
    rw [← hr] at f4 f5
    try dsimp only
    repeat' (with_reducible first | assumption | apply And.intro | intro _)
    all_goals (try simp only [] at *)
    all_goals (first | omega | ((repeat' (first | omega | split)) <;> (try dsimp only) <;> (try (first | omega | contradiction | (subst_vars; first | rfl | omega) | (simp_all; done) | (simp_all; omega)))))
  · obtain ⟨h1, h2, h3⟩ := hy
    refine ⟨⟨id, id⟩, hnil, by omega, fun v hv v1 hv1 => ⟨y, ⟨⟨y.s, 0, false⟩, ?_⟩, fun q hq => ?_⟩⟩
    · rw [h3] at hv
      try dsimp only
      repeat' (with_reducible first | assumption | apply And.intro | intro _)
      all_goals (try simp only [WS.any] at *)
      all_goals (first | omega | ((repeat' (first | omega | split)) <;> (try dsimp only) <;> (try (first | omega | contradiction | (subst_vars; first | rfl | omega) | (simp_all; done) | (simp_all; omega)))))
    · obtain ⟨q1, q2, q3, q4, q5⟩ := hq
      have hL := leastF_spec q.s.clk w.sel 4
      have hcl : ∀ c : Int, 0 ≤ c ∧ c < 4 → q.s.clkOf c = q.s.clk c.toNat := fun c hc => by unfold MS.clkOf; rw [if_pos (by omega)]
      have hany := w.any_spec q.k
      have hanyS : w.any (q.k + 1) = (w.any q.k || w.w q.k) := rfl
      generalize hLL : leastF q.s.clk w.sel 4 = L at *
      have key : (q.k = 4 ∨ w.len ≤ q.k) → (q.any = true → (0 ≤ L ∧ L < w.len) ∧ L < 4 ∧ w.w L.toNat = true) ∧ (q.any = false → L = -1) := fun hk => by
        rw [q5]
        refine ⟨fun ha => ?_, fun ha => ?_⟩
        · obtain ⟨j, j1, j2⟩ := hany.1 ha
          have hj : w.sel j = true := (w.sel_spec j).2 ⟨by omega, j2⟩
          rcases hL with ⟨e, hno⟩ | ⟨hb, hs, hall⟩
          · rw [hno j (by omega)] at hj; cases hj
          · have := (w.sel_spec _).1 hs
            exact ⟨⟨hb.1, by omega⟩, by omega, this.2⟩
        · rcases hL with ⟨e, hno⟩ | ⟨hb, hs, hall⟩
          · exact e
          · have h1 := (w.sel_spec _).1 hs
            have := hany.2 ⟨L.toNat, by omega, h1.2⟩
            rw [ha] at this; cases this
      refine ⟨fun hk => ⟨hnil, fun hkl => ?_, fun hkl => ?_⟩, fun hk => ?_⟩
      · have hc1 := hcl q.k (by omega)
        rw [hc1]
        have hsk := w.sel_spec q.k
        rcases hL with ⟨e, hno⟩ | ⟨hb, hs, hall⟩
        · have := hno q.k (by omega)
          try dsimp only
          repeat' (with_reducible first | assumption | apply And.intro | intro _ | refine Exists.intro ((⟨q.s, q.k + 1, w.any (q.k + 1)⟩ : A2)) ?_)
          all_goals (try simp only [] at *)
          all_goals (first | omega | ((repeat' (first | omega | split)) <;> (try dsimp only) <;> (try (first | omega | contradiction | (subst_vars; first | rfl | omega) | (simp_all; done) | (simp_all; omega)))))
        · have hc2 := hcl L (by omega)
          have ha := hall q.k (by omega)
          rw [hc2]
          try dsimp only
          repeat' (with_reducible first | assumption | apply And.intro | intro _ | refine Exists.intro ((⟨q.s, q.k + 1, w.any (q.k + 1)⟩ : A2)) ?_)
          all_goals (try simp only [] at *)
          all_goals (first | omega | ((repeat' (first | omega | split)) <;> (try dsimp only) <;> (try (first | omega | contradiction | (subst_vars; first | rfl | omega) | (simp_all; done) | (simp_all; omega)))))
      · obtain ⟨k1, k2⟩ := key (.inr (by omega))
        try dsimp only
        repeat' (with_reducible first | assumption | apply And.intro | intro _)
        all_goals (try simp only [cond_dec, decide_eq_decide] at *)
        all_goals (first | omega | ((repeat' (first | omega | split)) <;> (try dsimp only) <;> (try (first | omega | contradiction | (subst_vars; first | rfl | omega) | (simp_all; done) | (simp_all; omega)))))
      · obtain ⟨k1, k2⟩ := key (.inl (by omega))
        try dsimp only
        repeat' (with_reducible first | assumption | apply And.intro | intro _)
        all_goals (try simp only [cond_dec, decide_eq_decide] at *)
        all_goals (first | omega | ((repeat' (first | omega | split)) <;> (try dsimp only) <;> (try (first | omega | contradiction | (subst_vars; first | rfl | omega) | (simp_all; done) | (simp_all; omega)))))
  · try dsimp only
    repeat' (with_reducible first | assumption | apply And.intro | intro _)
    all_goals (try simp only [cond_dec, decide_eq_decide] at *)
    all_goals (first | omega | ((repeat' (first | omega | split)) <;> (try dsimp only) <;> (try (first | omega | contradiction | (subst_vars; first | rfl | omega) | (simp_all; done) | (simp_all; omega)))))

def leastL_C (x : (CS × WS)) : Cfg := { Γ := Go.Sx.look tTop, names := true, loops := leastLL (x.1) (x.2), mode := callMode }
theorem leastL_al (x : (CS × WS)) : Shown (leastLP.vc Try.prog (leastL_C x) Try.f5 x) := ⟨@Eq.mp _ _ (by kernel_rfl) (leastL_vc (x.1) (x.2))⟩
theorem leastL_ok : SpOk Try.prog 5 leastLP.sp := @Pat.okS _ leastLP Try.prog leastL_C 5 Try.f5 (fun x => cfg_tab rfl tTop_ok) (by kernel_rfl) Try.func5 (fun _ => rfl) leastL_al
