import Derived.Test.YtglbonfohmdcnaaMeterE
open Go Go.Sx Go.Proofs
set_option maxRecDepth 100000
namespace Go.Proofs.Ytglbonfohmdcnaa

/-- A call. -/
structure CD where
  core : Int
  kind : Int
  times : Int
  wait : Bool
def CD.t (c : CD) : T := .cons (.int .i64 c.core) (.cons (.int .i64 c.kind) (.cons (.int .u64 c.times) (.cons (.bool c.wait) .nil)))
def CD.Ok (c : CD) : Prop := i64 c.core ∧ i64 c.kind ∧ u64 c.times
def arr4 (f : Nat → Int) : T := .arr 4 1 (fun j => .int .u64 (f j))
def apartF1 (x : CS) (c : CD) : Fam where
  α := A1
  I y := y.i ≤ x.len ∧ y.s.Ok ∧ y.s.n = 4
  st y := { sl := mkSl 144 [(0, x.t 0), (3, p0 1), (5, p0 2), (7, .int .i64 y.i)], H := x.reg :: newReg 35 c.t :: y.s.HT 3 }
  μ y := x.len - y.i
structure A3 where
  s : MS
  f : Nat → Int
  g : Nat → Int
  k : Nat
def apartF2 (x : CS) (c : CD) (_ : A1) : Fam where
  α := A3
  I y := y.k ≤ 4 ∧ (∀ k : Nat, k < 4 → (k : Int) ≠ c.core → y.s.clkOf k = y.f k ∧ y.s.idleOf k = y.g k) ∧ (c.wait = false → ∀ k : Nat, k < 4 → y.s.idleOf k = y.g k)
  st y := { sl := mkSl 144 [(3, p0 1), (5, p0 2), (8, p0 4), (9, p0 5), (10, .int .i64 y.k)], H := x.reg :: newReg 35 c.t :: (y.s.HT 3 ++ [newReg 44 (arr4 y.f), newReg 44 (arr4 y.g)]) }
  μ y := 4 - y.k
def apartC (x : CS) (c : CD) (_ : A1) : Fam where
  α := A3
  I y := y.k = 0 ∧ (∀ k : Nat, k < 4 → (k : Int) ≠ c.core → y.s.clkOf k = y.f k ∧ y.s.idleOf k = y.g k) ∧ (c.wait = false → ∀ k : Nat, k < 4 → y.s.idleOf k = y.g k)
  st y := { sl := mkSl 144 [(3, p0 1), (5, p0 2), (8, p0 4), (9, p0 5)], H := x.reg :: newReg 35 c.t :: (y.s.HT 3 ++ [newReg 44 (arr4 y.f), newReg 44 (arr4 y.g)]) }
  μ _ := 0
def apartL (x : CS) (c : CD) : Nat → Gam
  | 9 => .l [apartF1 x c]
  | 20 => .g fun u => [apartF2 x c u]
  | _ => .l []
def apartK (x : CS) (c : CD) : Nat → Gam
  | 19 => .g fun u => [apartC x c u]
  | _ => .l []
def apartP : Pat (CS × CD) where
  view _ _ := none
  args x := [x.1.t 0, x.2.t]
  H x := [x.1.reg]
  out x := .need (x.1.Ok ∧ x.2.Ok) (.retq .tt)
theorem on_apart (s : MS) {c : Int} (hc : 0 ≤ c) (k : Nat) (y : Int) (j : Nat) (hj : (j : Int) ≠ c) : (s.on c.toNat k y).clkOf j = s.clkOf j ∧ (s.on c.toNat k y).idleOf j = s.idleOf j := by
  have hne : j ≠ c.toNat := by omega
  unfold MS.clkOf MS.idleOf
  simp only [MS.on, upI, Int.toNat_natCast, hne, false_and, if_false]
  exact ⟨trivial, trivial⟩
theorem on_idle (s : MS) {c : Int} {k : Nat} (hk : k ≠ 0) (y : Int) (j : Nat) : (s.on c.toNat k y).idleOf j = s.idleOf j := by
  unfold MS.idleOf
  simp only [MS.on, Int.toNat_natCast, Ne.symm hk, and_false, if_false]
theorem wait_apart (s : MS) (c t : Int) (j : Nat) (hj : (j : Int) ≠ c) : (s.wait c t).2.clkOf j = s.clkOf j ∧ (s.wait c t).2.idleOf j = s.idleOf j := by
  unfold MS.wait
  split
  · exact ⟨rfl, rfl⟩
  · split
    · exact ⟨rfl, rfl⟩
    · split
      · exact ⟨rfl, rfl⟩
      · exact on_apart s (by omega) _ _ j hj
theorem charge_apart (s : MS) (c k t : Int) (j : Nat) : ((j : Int) ≠ c → (s.charge c k t).2.clkOf j = s.clkOf j) ∧ (s.charge c k t).2.idleOf j = s.idleOf j := by
  have hk := cost_bd k
  unfold MS.charge
  split
  · exact ⟨fun _ => rfl, rfl⟩
  · split
    · exact ⟨fun _ => rfl, rfl⟩
    · exact ⟨fun hj => (on_apart s (by omega) _ _ j hj).1, on_idle s (by omega) _ j⟩
def tab4 (f : Int → Int) : Nat → Int := fun j => if j = 0 then f 0 else if j = 1 then f 1 else if j = 2 then f 2 else f 3
theorem tab4_at (f : Int → Int) (k : Nat) (h : k < 4) : tab4 f k = f k := by
  rcases k with _|_|_|_|k <;> first | rfl | omega
theorem apart_vc : ∀ (x : CS) (c : CD),
    (x.Ok ∧ c.Ok) ∧ True →
      (True ∧ True) ∧
        (x.nil = true → x.len = (0 : Nat)) ∧
          (decide ((↑x.len : Int) > (60 : Int)) = true →
              x.Ok ∧ c.Ok →
                True ∧
                  True ∧
                    ((0 : Nat) ≤ (0 : Nat) ∧
                        x.len = x.len ∧ ∀ (j : Nat), j < x.len → x.core j = x.core j ∧ x.kind j = x.kind j ∧ x.times j = x.times j ∧ x.wait j = x.wait j ∧ True) ∧
                      True) ∧
            (decide ((↑x.len : Int) > (60 : Int)) = false →
              (((4 : Int) = (4 : Int) ∧ True) ∧ True) ∧
                ((1 : Int) ≤ (4 : Int) ∧ (4 : Int) ≤ (4 : Int) →
                    ∀ (x_1 : MS),
                      x_1 = MS.new (4 : Int) →
                        ∀ (v : Int),
                          v = (0 : Int) →
                            ((v != (0 : Int)) = true →
                                x.Ok ∧ c.Ok →
                                  False ∧
                                    True ∧
                                      ((0 : Nat) ≤ (0 : Nat) ∧
                                          x.len = x.len ∧ ∀ (j : Nat), j < x.len → x.core j = x.core j ∧ x.kind j = x.kind j ∧ x.times j = x.times j ∧ x.wait j = x.wait j ∧ True) ∧
                                        True) ∧
                              ((v != (0 : Int)) = false →
                                ∀ (v : Int),
                                  v = (0 : Int) →
                                    (∃ (y : A1),
                                        (y.i ≤ x.len ∧ y.s.Ok ∧ y.s.n = (4 : Nat)) ∧
                                          ((((x.nil = true → x.nil = true) ∧ (x.nil = false → x.nil = false ∧ True ∧ True ∧ (0 : Nat) = (0 : Nat) ∧ x.len = x.len ∧ x.cap = x.cap)) ∧
                                                (True ∧ True) ∧ (True ∧ True) ∧ v = (↑y.i : Int) ∧ True) ∧
                                              ((0 : Nat) ≤ (0 : Nat) ∧
                                                  x.len = x.len ∧
                                                    ∀ (j : Nat), j < x.len → x.core j = x.core j ∧ x.kind j = x.kind j ∧ x.times j = x.times j ∧ x.wait j = x.wait j ∧ True) ∧
                                                ((4 : Nat) ≤ (4 : Nat) ∧ c.core = c.core ∧ c.kind = c.kind ∧ c.times = c.times ∧ c.wait = c.wait ∧ True) ∧
                                                  ((2 : Nat) ≤ (2 : Nat) ∧ (True ∧ True ∧ (0 : Nat) = (0 : Nat) ∧ x_1.n = y.s.n ∧ x_1.n = y.s.n) ∧ x_1.st = y.s.st ∧ True) ∧
                                                    (y.s.n * (10 : Nat) ≤ x_1.n * (10 : Nat) ∧
                                                        y.s.n = x_1.n ∧
                                                          ∀ (j : Nat),
                                                            j < x_1.n →
                                                              x_1.clk j = y.s.clk j ∧
                                                                ((9 : Nat) = (9 : Nat) ∧ ∀ (j_1 : Nat), j_1 < (9 : Nat) → x_1.by_ j j_1 = y.s.by_ j j_1) ∧ True) ∧
                                                      True) ∧
                                            True) ∧
                                      ∀ (y : A1),
                                        y.i ≤ x.len ∧ y.s.Ok ∧ y.s.n = (4 : Nat) →
                                          (x.nil = true → x.len = (0 : Nat)) ∧
                                            (decide ((↑y.i : Int) < (↑x.len : Int)) = true →
                                                (x.nil = true → x.len = (0 : Nat)) ∧
                                                  ((0 : Int) ≤ (↑y.i : Int) ∧ (↑y.i : Int) < (↑x.len : Int)) ∧
                                                    (0 : Nat) + (↑y.i : Int).toNat < x.len ∧
                                                      (x.wait ((0 : Nat) + (↑y.i : Int).toNat) = true →
                                                          (x.nil = true → x.len = (0 : Nat)) ∧
                                                            ((0 : Int) ≤ (↑y.i : Int) ∧ (↑y.i : Int) < (↑x.len : Int)) ∧
                                                              (0 : Nat) + (↑y.i : Int).toNat < x.len ∧
                                                                (x.nil = true → x.len = (0 : Nat)) ∧
                                                                  ((0 : Int) ≤ (↑y.i : Int) ∧ (↑y.i : Int) < (↑x.len : Int)) ∧
                                                                    (0 : Nat) + (↑y.i : Int).toNat < x.len ∧
                                                                      (((True ∧ True) ∧
                                                                            x.core ((0 : Nat) + (↑y.i : Int).toNat) = x.core ((0 : Nat) + (↑y.i : Int).toNat) ∧
                                                                              x.times ((0 : Nat) + (↑y.i : Int).toNat) = x.times ((0 : Nat) + (↑y.i : Int).toNat) ∧ True) ∧
                                                                          ((2 : Nat) ≤ (2 : Nat) ∧
                                                                              (True ∧ True ∧ (0 : Nat) = (0 : Nat) ∧ y.s.n = y.s.n ∧ y.s.n = y.s.n) ∧ y.s.st = y.s.st ∧ True) ∧
                                                                            (y.s.n * (10 : Nat) ≤ y.s.n * (10 : Nat) ∧
                                                                                y.s.n = y.s.n ∧
                                                                                  ∀ (j : Nat),
                                                                                    j < y.s.n →
                                                                                      y.s.clk j = y.s.clk j ∧
                                                                                        ((9 : Nat) = (9 : Nat) ∧ ∀ (j_1 : Nat), j_1 < (9 : Nat) → y.s.by_ j j_1 = y.s.by_ j j_1) ∧
                                                                                          True) ∧
                                                                              True) ∧
                                                                        (y.s.Ok ∧
                                                                            (0 : Int) ≤ x.times ((0 : Nat) + (↑y.i : Int).toNat) ∧
                                                                              x.times ((0 : Nat) + (↑y.i : Int).toNat) < (18446744073709551616 : Int)) ∧
                                                                          ∀ (x_2 : Int × MS),
                                                                            x_2 = y.s.wait (x.core ((0 : Nat) + (↑y.i : Int).toNat)) (x.times ((0 : Nat) + (↑y.i : Int).toNat)) →
                                                                              ∀ (v : Int),
                                                                                v = IntKind.i64.wrap ((↑y.i : Int) + (1 : Int)) →
                                                                                  ∃ (y_1 : A1),
                                                                                    (y_1.i ≤ x.len ∧ y_1.s.Ok ∧ y_1.s.n = (4 : Nat)) ∧
                                                                                      ((((x.nil = true → x.nil = true) ∧
                                                                                              (x.nil = false →
                                                                                                x.nil = false ∧
                                                                                                  True ∧ True ∧ (0 : Nat) = (0 : Nat) ∧ x.len = x.len ∧ x.cap = x.cap)) ∧
                                                                                            (True ∧ True) ∧ (True ∧ True) ∧ v = (↑y_1.i : Int) ∧ True) ∧
                                                                                          ((0 : Nat) ≤ (0 : Nat) ∧
                                                                                              x.len = x.len ∧
                                                                                                ∀ (j : Nat),
                                                                                                  j < x.len →
                                                                                                    x.core j = x.core j ∧
                                                                                                      x.kind j = x.kind j ∧ x.times j = x.times j ∧ x.wait j = x.wait j ∧ True) ∧
                                                                                            ((4 : Nat) ≤ (4 : Nat) ∧
                                                                                                c.core = c.core ∧ c.kind = c.kind ∧ c.times = c.times ∧ c.wait = c.wait ∧ True) ∧
                                                                                              ((2 : Nat) ≤ (2 : Nat) ∧
                                                                                                  (True ∧ True ∧ (0 : Nat) = (0 : Nat) ∧ x_2.snd.n = y_1.s.n ∧ x_2.snd.n = y_1.s.n) ∧
                                                                                                    x_2.snd.st = y_1.s.st ∧ True) ∧
                                                                                                (y_1.s.n * (10 : Nat) ≤ y.s.n * (10 : Nat) ∧
                                                                                                    y_1.s.n = x_2.snd.n ∧
                                                                                                      ∀ (j : Nat),
                                                                                                        j < x_2.snd.n →
                                                                                                          x_2.snd.clk j = y_1.s.clk j ∧
                                                                                                            ((9 : Nat) = (9 : Nat) ∧
                                                                                                                ∀ (j_1 : Nat),
                                                                                                                  j_1 < (9 : Nat) → x_2.snd.by_ j j_1 = y_1.s.by_ j j_1) ∧
                                                                                                              True) ∧
                                                                                                  True) ∧
                                                                                        (apartF1 x c).μ y_1 < (apartF1 x c).μ y) ∧
                                                        (x.wait ((0 : Nat) + (↑y.i : Int).toNat) = false →
                                                          (x.nil = true → x.len = (0 : Nat)) ∧
                                                            ((0 : Int) ≤ (↑y.i : Int) ∧ (↑y.i : Int) < (↑x.len : Int)) ∧
                                                              (0 : Nat) + (↑y.i : Int).toNat < x.len ∧
                                                                (x.nil = true → x.len = (0 : Nat)) ∧
                                                                  ((0 : Int) ≤ (↑y.i : Int) ∧ (↑y.i : Int) < (↑x.len : Int)) ∧
                                                                    (0 : Nat) + (↑y.i : Int).toNat < x.len ∧
                                                                      (x.nil = true → x.len = (0 : Nat)) ∧
                                                                        ((0 : Int) ≤ (↑y.i : Int) ∧ (↑y.i : Int) < (↑x.len : Int)) ∧
                                                                          (0 : Nat) + (↑y.i : Int).toNat < x.len ∧
                                                                            (((True ∧ True) ∧
                                                                                  x.core ((0 : Nat) + (↑y.i : Int).toNat) = x.core ((0 : Nat) + (↑y.i : Int).toNat) ∧
                                                                                    x.kind ((0 : Nat) + (↑y.i : Int).toNat) = x.kind ((0 : Nat) + (↑y.i : Int).toNat) ∧
                                                                                      x.times ((0 : Nat) + (↑y.i : Int).toNat) = x.times ((0 : Nat) + (↑y.i : Int).toNat) ∧ True) ∧
                                                                                ((2 : Nat) ≤ (2 : Nat) ∧
                                                                                    (True ∧ True ∧ (0 : Nat) = (0 : Nat) ∧ y.s.n = y.s.n ∧ y.s.n = y.s.n) ∧ y.s.st = y.s.st ∧ True) ∧
                                                                                  (y.s.n * (10 : Nat) ≤ y.s.n * (10 : Nat) ∧
                                                                                      y.s.n = y.s.n ∧
                                                                                        ∀ (j : Nat),
                                                                                          j < y.s.n →
                                                                                            y.s.clk j = y.s.clk j ∧
                                                                                              ((9 : Nat) = (9 : Nat) ∧
                                                                                                  ∀ (j_1 : Nat), j_1 < (9 : Nat) → y.s.by_ j j_1 = y.s.by_ j j_1) ∧
                                                                                                True) ∧
                                                                                    True) ∧
                                                                              (y.s.Ok ∧
                                                                                  (0 : Int) ≤ x.times ((0 : Nat) + (↑y.i : Int).toNat) ∧
                                                                                    x.times ((0 : Nat) + (↑y.i : Int).toNat) < (18446744073709551616 : Int)) ∧
                                                                                ∀ (x_2 : Int × MS),
                                                                                  x_2 =
                                                                                      y.s.charge (x.core ((0 : Nat) + (↑y.i : Int).toNat)) (x.kind ((0 : Nat) + (↑y.i : Int).toNat))
                                                                                        (x.times ((0 : Nat) + (↑y.i : Int).toNat)) →
                                                                                    ∀ (v : Int),
                                                                                      v = IntKind.i64.wrap ((↑y.i : Int) + (1 : Int)) →
                                                                                        ∃ (y_1 : A1),
                                                                                          (y_1.i ≤ x.len ∧ y_1.s.Ok ∧ y_1.s.n = (4 : Nat)) ∧
                                                                                            ((((x.nil = true → x.nil = true) ∧
                                                                                                    (x.nil = false →
                                                                                                      x.nil = false ∧
                                                                                                        True ∧ True ∧ (0 : Nat) = (0 : Nat) ∧ x.len = x.len ∧ x.cap = x.cap)) ∧
                                                                                                  (True ∧ True) ∧ (True ∧ True) ∧ v = (↑y_1.i : Int) ∧ True) ∧
                                                                                                ((0 : Nat) ≤ (0 : Nat) ∧
                                                                                                    x.len = x.len ∧
                                                                                                      ∀ (j : Nat),
                                                                                                        j < x.len →
                                                                                                          x.core j = x.core j ∧
                                                                                                            x.kind j = x.kind j ∧
                                                                                                              x.times j = x.times j ∧ x.wait j = x.wait j ∧ True) ∧
                                                                                                  ((4 : Nat) ≤ (4 : Nat) ∧
                                                                                                      c.core = c.core ∧
                                                                                                        c.kind = c.kind ∧ c.times = c.times ∧ c.wait = c.wait ∧ True) ∧
                                                                                                    ((2 : Nat) ≤ (2 : Nat) ∧
                                                                                                        (True ∧
                                                                                                            True ∧
                                                                                                              (0 : Nat) = (0 : Nat) ∧ x_2.snd.n = y_1.s.n ∧ x_2.snd.n = y_1.s.n) ∧
                                                                                                          x_2.snd.st = y_1.s.st ∧ True) ∧
                                                                                                      (y_1.s.n * (10 : Nat) ≤ y.s.n * (10 : Nat) ∧
                                                                                                          y_1.s.n = x_2.snd.n ∧
                                                                                                            ∀ (j : Nat),
                                                                                                              j < x_2.snd.n →
                                                                                                                x_2.snd.clk j = y_1.s.clk j ∧
                                                                                                                  ((9 : Nat) = (9 : Nat) ∧
                                                                                                                      ∀ (j_1 : Nat),
                                                                                                                        j_1 < (9 : Nat) → x_2.snd.by_ j j_1 = y_1.s.by_ j j_1) ∧
                                                                                                                    True) ∧
                                                                                                        True) ∧
                                                                                              (apartF1 x c).μ y_1 < (apartF1 x c).μ y)) ∧
                                              (decide ((↑y.i : Int) < (↑x.len : Int)) = false →
                                                (((True ∧ True) ∧ (0 : Int) = (0 : Int) ∧ True) ∧
                                                    ((2 : Nat) ≤ (2 : Nat) ∧ (True ∧ True ∧ (0 : Nat) = (0 : Nat) ∧ y.s.n = y.s.n ∧ y.s.n = y.s.n) ∧ y.s.st = y.s.st ∧ True) ∧
                                                      (y.s.n * (10 : Nat) ≤ y.s.n * (10 : Nat) ∧
                                                          y.s.n = y.s.n ∧
                                                            ∀ (j : Nat),
                                                              j < y.s.n →
                                                                y.s.clk j = y.s.clk j ∧
                                                                  ((9 : Nat) = (9 : Nat) ∧ ∀ (j_1 : Nat), j_1 < (9 : Nat) → y.s.by_ j j_1 = y.s.by_ j j_1) ∧ True) ∧
                                                        True) ∧
                                                  (((True ∧ True) ∧ (1 : Int) = (1 : Int) ∧ True) ∧
                                                      ((2 : Nat) ≤ (2 : Nat) ∧ (True ∧ True ∧ (0 : Nat) = (0 : Nat) ∧ y.s.n = y.s.n ∧ y.s.n = y.s.n) ∧ y.s.st = y.s.st ∧ True) ∧
                                                        (y.s.n * (10 : Nat) ≤ y.s.n * (10 : Nat) ∧
                                                            y.s.n = y.s.n ∧
                                                              ∀ (j : Nat),
                                                                j < y.s.n →
                                                                  y.s.clk j = y.s.clk j ∧
                                                                    ((9 : Nat) = (9 : Nat) ∧ ∀ (j_1 : Nat), j_1 < (9 : Nat) → y.s.by_ j j_1 = y.s.by_ j j_1) ∧ True) ∧
                                                          True) ∧
                                                    (((True ∧ True) ∧ (2 : Int) = (2 : Int) ∧ True) ∧
                                                        ((2 : Nat) ≤ (2 : Nat) ∧ (True ∧ True ∧ (0 : Nat) = (0 : Nat) ∧ y.s.n = y.s.n ∧ y.s.n = y.s.n) ∧ y.s.st = y.s.st ∧ True) ∧
                                                          (y.s.n * (10 : Nat) ≤ y.s.n * (10 : Nat) ∧
                                                              y.s.n = y.s.n ∧
                                                                ∀ (j : Nat),
                                                                  j < y.s.n →
                                                                    y.s.clk j = y.s.clk j ∧
                                                                      ((9 : Nat) = (9 : Nat) ∧ ∀ (j_1 : Nat), j_1 < (9 : Nat) → y.s.by_ j j_1 = y.s.by_ j j_1) ∧ True) ∧
                                                            True) ∧
                                                      (((True ∧ True) ∧ (3 : Int) = (3 : Int) ∧ True) ∧
                                                          ((2 : Nat) ≤ (2 : Nat) ∧ (True ∧ True ∧ (0 : Nat) = (0 : Nat) ∧ y.s.n = y.s.n ∧ y.s.n = y.s.n) ∧ y.s.st = y.s.st ∧ True) ∧
                                                            (y.s.n * (10 : Nat) ≤ y.s.n * (10 : Nat) ∧
                                                                y.s.n = y.s.n ∧
                                                                  ∀ (j : Nat),
                                                                    j < y.s.n →
                                                                      y.s.clk j = y.s.clk j ∧
                                                                        ((9 : Nat) = (9 : Nat) ∧ ∀ (j_1 : Nat), j_1 < (9 : Nat) → y.s.by_ j j_1 = y.s.by_ j j_1) ∧ True) ∧
                                                              True) ∧
                                                        (((True ∧ True) ∧ (0 : Int) = (0 : Int) ∧ True) ∧
                                                            ((2 : Nat) ≤ (2 : Nat) ∧ (True ∧ True ∧ (0 : Nat) = (0 : Nat) ∧ y.s.n = y.s.n ∧ y.s.n = y.s.n) ∧ y.s.st = y.s.st ∧ True) ∧
                                                              (y.s.n * (10 : Nat) ≤ y.s.n * (10 : Nat) ∧
                                                                  y.s.n = y.s.n ∧
                                                                    ∀ (j : Nat),
                                                                      j < y.s.n →
                                                                        y.s.clk j = y.s.clk j ∧
                                                                          ((9 : Nat) = (9 : Nat) ∧ ∀ (j_1 : Nat), j_1 < (9 : Nat) → y.s.by_ j j_1 = y.s.by_ j j_1) ∧ True) ∧
                                                                True) ∧
                                                          (((True ∧ True) ∧ (1 : Int) = (1 : Int) ∧ True) ∧
                                                              ((2 : Nat) ≤ (2 : Nat) ∧
                                                                  (True ∧ True ∧ (0 : Nat) = (0 : Nat) ∧ y.s.n = y.s.n ∧ y.s.n = y.s.n) ∧ y.s.st = y.s.st ∧ True) ∧
                                                                (y.s.n * (10 : Nat) ≤ y.s.n * (10 : Nat) ∧
                                                                    y.s.n = y.s.n ∧
                                                                      ∀ (j : Nat),
                                                                        j < y.s.n →
                                                                          y.s.clk j = y.s.clk j ∧
                                                                            ((9 : Nat) = (9 : Nat) ∧ ∀ (j_1 : Nat), j_1 < (9 : Nat) → y.s.by_ j j_1 = y.s.by_ j j_1) ∧ True) ∧
                                                                  True) ∧
                                                            (((True ∧ True) ∧ (2 : Int) = (2 : Int) ∧ True) ∧
                                                                ((2 : Nat) ≤ (2 : Nat) ∧
                                                                    (True ∧ True ∧ (0 : Nat) = (0 : Nat) ∧ y.s.n = y.s.n ∧ y.s.n = y.s.n) ∧ y.s.st = y.s.st ∧ True) ∧
                                                                  (y.s.n * (10 : Nat) ≤ y.s.n * (10 : Nat) ∧
                                                                      y.s.n = y.s.n ∧
                                                                        ∀ (j : Nat),
                                                                          j < y.s.n →
                                                                            y.s.clk j = y.s.clk j ∧
                                                                              ((9 : Nat) = (9 : Nat) ∧ ∀ (j_1 : Nat), j_1 < (9 : Nat) → y.s.by_ j j_1 = y.s.by_ j j_1) ∧ True) ∧
                                                                    True) ∧
                                                              (((True ∧ True) ∧ (3 : Int) = (3 : Int) ∧ True) ∧
                                                                  ((2 : Nat) ≤ (2 : Nat) ∧
                                                                      (True ∧ True ∧ (0 : Nat) = (0 : Nat) ∧ y.s.n = y.s.n ∧ y.s.n = y.s.n) ∧ y.s.st = y.s.st ∧ True) ∧
                                                                    (y.s.n * (10 : Nat) ≤ y.s.n * (10 : Nat) ∧
                                                                        y.s.n = y.s.n ∧
                                                                          ∀ (j : Nat),
                                                                            j < y.s.n →
                                                                              y.s.clk j = y.s.clk j ∧
                                                                                ((9 : Nat) = (9 : Nat) ∧ ∀ (j_1 : Nat), j_1 < (9 : Nat) → y.s.by_ j j_1 = y.s.by_ j j_1) ∧ True) ∧
                                                                      True) ∧
                                                                ∃ (_ : A1),
                                                                  ((c.wait = true →
                                                                        (((True ∧ True) ∧ c.core = c.core ∧ c.times = c.times ∧ True) ∧
                                                                            ((2 : Nat) ≤ (2 : Nat) ∧
                                                                                (True ∧ True ∧ (0 : Nat) = (0 : Nat) ∧ y.s.n = y.s.n ∧ y.s.n = y.s.n) ∧ y.s.st = y.s.st ∧ True) ∧
                                                                              (y.s.n * (10 : Nat) ≤ y.s.n * (10 : Nat) ∧
                                                                                  y.s.n = y.s.n ∧
                                                                                    ∀ (j : Nat),
                                                                                      j < y.s.n →
                                                                                        y.s.clk j = y.s.clk j ∧
                                                                                          ((9 : Nat) = (9 : Nat) ∧ ∀ (j_1 : Nat), j_1 < (9 : Nat) → y.s.by_ j j_1 = y.s.by_ j j_1) ∧
                                                                                            True) ∧
                                                                                True) ∧
                                                                          (y.s.Ok ∧ (0 : Int) ≤ c.times ∧ c.times < (18446744073709551616 : Int)) ∧
                                                                            ∀ (x_2 : Int × MS),
                                                                              x_2 = y.s.wait c.core c.times →
                                                                                ∃ (y_1 : A3),
                                                                                  (y_1.k = (0 : Nat) ∧
                                                                                      (∀ (k : Nat),
                                                                                          k < (4 : Nat) →
                                                                                            (↑k : Int) ≠ c.core →
                                                                                              y_1.s.clkOf (↑k : Int) = y_1.f k ∧ y_1.s.idleOf (↑k : Int) = y_1.g k) ∧
                                                                                        (c.wait = false → ∀ (k : Nat), k < (4 : Nat) → y_1.s.idleOf (↑k : Int) = y_1.g k)) ∧
                                                                                    (((True ∧ True) ∧ (True ∧ True) ∧ (True ∧ True) ∧ (True ∧ True) ∧ True) ∧
                                                                                        ((0 : Nat) ≤ (0 : Nat) ∧
                                                                                            x.len = x.len ∧
                                                                                              ∀ (j : Nat),
                                                                                                j < x.len →
                                                                                                  x.core j = x.core j ∧
                                                                                                    x.kind j = x.kind j ∧ x.times j = x.times j ∧ x.wait j = x.wait j ∧ True) ∧
                                                                                          ((4 : Nat) ≤ (4 : Nat) ∧
                                                                                              c.core = c.core ∧ c.kind = c.kind ∧ c.times = c.times ∧ c.wait = c.wait ∧ True) ∧
                                                                                            ((2 : Nat) ≤ (2 : Nat) ∧
                                                                                                (True ∧ True ∧ (0 : Nat) = (0 : Nat) ∧ x_2.snd.n = y_1.s.n ∧ x_2.snd.n = y_1.s.n) ∧
                                                                                                  x_2.snd.st = y_1.s.st ∧ True) ∧
                                                                                              (y_1.s.n * (10 : Nat) ≤ y.s.n * (10 : Nat) ∧
                                                                                                  y_1.s.n = x_2.snd.n ∧
                                                                                                    ∀ (j : Nat),
                                                                                                      j < x_2.snd.n →
                                                                                                        x_2.snd.clk j = y_1.s.clk j ∧
                                                                                                          ((9 : Nat) = (9 : Nat) ∧
                                                                                                              ∀ (j_1 : Nat), j_1 < (9 : Nat) → x_2.snd.by_ j j_1 = y_1.s.by_ j j_1) ∧
                                                                                                            True) ∧
                                                                                                ((4 : Nat) ≤ (4 : Nat) ∧
                                                                                                    (4 : Nat) = (4 : Nat) ∧
                                                                                                      ∀ (j : Nat),
                                                                                                        j < (4 : Nat) →
                                                                                                          (bif j.beq (0 : Nat) then y.s.clkOf (0 : Int)
                                                                                                            else
                                                                                                              bif j.beq (1 : Nat) then y.s.clkOf (1 : Int)
                                                                                                              else
                                                                                                                bif j.beq (2 : Nat) then y.s.clkOf (2 : Int)
                                                                                                                else y.s.clkOf (3 : Int)) =
                                                                                                            y_1.f j) ∧
                                                                                                  ((4 : Nat) ≤ (4 : Nat) ∧
                                                                                                      (4 : Nat) = (4 : Nat) ∧
                                                                                                        ∀ (j : Nat),
                                                                                                          j < (4 : Nat) →
                                                                                                            (bif j.beq (0 : Nat) then y.s.idleOf (0 : Int)
                                                                                                              else
                                                                                                                bif j.beq (1 : Nat) then y.s.idleOf (1 : Int)
                                                                                                                else
                                                                                                                  bif j.beq (2 : Nat) then y.s.idleOf (2 : Int)
                                                                                                                  else y.s.idleOf (3 : Int)) =
                                                                                                              y_1.g j) ∧
                                                                                                    True) ∧
                                                                                      True) ∧
                                                                      (c.wait = false →
                                                                        (((True ∧ True) ∧ c.core = c.core ∧ c.kind = c.kind ∧ c.times = c.times ∧ True) ∧
                                                                            ((2 : Nat) ≤ (2 : Nat) ∧
                                                                                (True ∧ True ∧ (0 : Nat) = (0 : Nat) ∧ y.s.n = y.s.n ∧ y.s.n = y.s.n) ∧ y.s.st = y.s.st ∧ True) ∧
                                                                              (y.s.n * (10 : Nat) ≤ y.s.n * (10 : Nat) ∧
                                                                                  y.s.n = y.s.n ∧
                                                                                    ∀ (j : Nat),
                                                                                      j < y.s.n →
                                                                                        y.s.clk j = y.s.clk j ∧
                                                                                          ((9 : Nat) = (9 : Nat) ∧ ∀ (j_1 : Nat), j_1 < (9 : Nat) → y.s.by_ j j_1 = y.s.by_ j j_1) ∧
                                                                                            True) ∧
                                                                                True) ∧
                                                                          (y.s.Ok ∧ (0 : Int) ≤ c.times ∧ c.times < (18446744073709551616 : Int)) ∧
                                                                            ∀ (x_2 : Int × MS),
                                                                              x_2 = y.s.charge c.core c.kind c.times →
                                                                                ∃ (y_1 : A3),
                                                                                  (y_1.k = (0 : Nat) ∧
                                                                                      (∀ (k : Nat),
                                                                                          k < (4 : Nat) →
                                                                                            (↑k : Int) ≠ c.core →
                                                                                              y_1.s.clkOf (↑k : Int) = y_1.f k ∧ y_1.s.idleOf (↑k : Int) = y_1.g k) ∧
                                                                                        (c.wait = false → ∀ (k : Nat), k < (4 : Nat) → y_1.s.idleOf (↑k : Int) = y_1.g k)) ∧
                                                                                    (((True ∧ True) ∧ (True ∧ True) ∧ (True ∧ True) ∧ (True ∧ True) ∧ True) ∧
                                                                                        ((0 : Nat) ≤ (0 : Nat) ∧
                                                                                            x.len = x.len ∧
                                                                                              ∀ (j : Nat),
                                                                                                j < x.len →
                                                                                                  x.core j = x.core j ∧
                                                                                                    x.kind j = x.kind j ∧ x.times j = x.times j ∧ x.wait j = x.wait j ∧ True) ∧
                                                                                          ((4 : Nat) ≤ (4 : Nat) ∧
                                                                                              c.core = c.core ∧ c.kind = c.kind ∧ c.times = c.times ∧ c.wait = c.wait ∧ True) ∧
                                                                                            ((2 : Nat) ≤ (2 : Nat) ∧
                                                                                                (True ∧ True ∧ (0 : Nat) = (0 : Nat) ∧ x_2.snd.n = y_1.s.n ∧ x_2.snd.n = y_1.s.n) ∧
                                                                                                  x_2.snd.st = y_1.s.st ∧ True) ∧
                                                                                              (y_1.s.n * (10 : Nat) ≤ y.s.n * (10 : Nat) ∧
                                                                                                  y_1.s.n = x_2.snd.n ∧
                                                                                                    ∀ (j : Nat),
                                                                                                      j < x_2.snd.n →
                                                                                                        x_2.snd.clk j = y_1.s.clk j ∧
                                                                                                          ((9 : Nat) = (9 : Nat) ∧
                                                                                                              ∀ (j_1 : Nat), j_1 < (9 : Nat) → x_2.snd.by_ j j_1 = y_1.s.by_ j j_1) ∧
                                                                                                            True) ∧
                                                                                                ((4 : Nat) ≤ (4 : Nat) ∧
                                                                                                    (4 : Nat) = (4 : Nat) ∧
                                                                                                      ∀ (j : Nat),
                                                                                                        j < (4 : Nat) →
                                                                                                          (bif j.beq (0 : Nat) then y.s.clkOf (0 : Int)
                                                                                                            else
                                                                                                              bif j.beq (1 : Nat) then y.s.clkOf (1 : Int)
                                                                                                              else
                                                                                                                bif j.beq (2 : Nat) then y.s.clkOf (2 : Int)
                                                                                                                else y.s.clkOf (3 : Int)) =
                                                                                                            y_1.f j) ∧
                                                                                                  ((4 : Nat) ≤ (4 : Nat) ∧
                                                                                                      (4 : Nat) = (4 : Nat) ∧
                                                                                                        ∀ (j : Nat),
                                                                                                          j < (4 : Nat) →
                                                                                                            (bif j.beq (0 : Nat) then y.s.idleOf (0 : Int)
                                                                                                              else
                                                                                                                bif j.beq (1 : Nat) then y.s.idleOf (1 : Int)
                                                                                                                else
                                                                                                                  bif j.beq (2 : Nat) then y.s.idleOf (2 : Int)
                                                                                                                  else y.s.idleOf (3 : Int)) =
                                                                                                              y_1.g j) ∧
                                                                                                    True) ∧
                                                                                      True)) ∧
                                                                    ∀ (y : A3),
                                                                      y.k = (0 : Nat) ∧
                                                                          (∀ (k : Nat),
                                                                              k < (4 : Nat) → (↑k : Int) ≠ c.core → y.s.clkOf (↑k : Int) = y.f k ∧ y.s.idleOf (↑k : Int) = y.g k) ∧
                                                                            (c.wait = false → ∀ (k : Nat), k < (4 : Nat) → y.s.idleOf (↑k : Int) = y.g k) →
                                                                        ∀ (v : Int),
                                                                          v = (0 : Int) →
                                                                            ∃ (g : A1),
                                                                              (∃ (y_1 : A3),
                                                                                  (y_1.k ≤ (4 : Nat) ∧
                                                                                      (∀ (k : Nat),
                                                                                          k < (4 : Nat) →
                                                                                            (↑k : Int) ≠ c.core →
                                                                                              y_1.s.clkOf (↑k : Int) = y_1.f k ∧ y_1.s.idleOf (↑k : Int) = y_1.g k) ∧
                                                                                        (c.wait = false → ∀ (k : Nat), k < (4 : Nat) → y_1.s.idleOf (↑k : Int) = y_1.g k)) ∧
                                                                                    (((True ∧ True) ∧ (True ∧ True) ∧ (True ∧ True) ∧ (True ∧ True) ∧ v = (↑y_1.k : Int) ∧ True) ∧
                                                                                        ((0 : Nat) ≤ (0 : Nat) ∧
                                                                                            x.len = x.len ∧
                                                                                              ∀ (j : Nat),
                                                                                                j < x.len →
                                                                                                  x.core j = x.core j ∧
                                                                                                    x.kind j = x.kind j ∧ x.times j = x.times j ∧ x.wait j = x.wait j ∧ True) ∧
                                                                                          ((4 : Nat) ≤ (4 : Nat) ∧
                                                                                              c.core = c.core ∧ c.kind = c.kind ∧ c.times = c.times ∧ c.wait = c.wait ∧ True) ∧
                                                                                            ((2 : Nat) ≤ (2 : Nat) ∧
                                                                                                (True ∧ True ∧ (0 : Nat) = (0 : Nat) ∧ y.s.n = y_1.s.n ∧ y.s.n = y_1.s.n) ∧
                                                                                                  y.s.st = y_1.s.st ∧ True) ∧
                                                                                              (y_1.s.n * (10 : Nat) ≤ y.s.n * (10 : Nat) ∧
                                                                                                  y_1.s.n = y.s.n ∧
                                                                                                    ∀ (j : Nat),
                                                                                                      j < y.s.n →
                                                                                                        y.s.clk j = y_1.s.clk j ∧
                                                                                                          ((9 : Nat) = (9 : Nat) ∧
                                                                                                              ∀ (j_1 : Nat), j_1 < (9 : Nat) → y.s.by_ j j_1 = y_1.s.by_ j j_1) ∧
                                                                                                            True) ∧
                                                                                                ((4 : Nat) ≤ (4 : Nat) ∧
                                                                                                    (4 : Nat) = (4 : Nat) ∧ ∀ (j : Nat), j < (4 : Nat) → y.f j = y_1.f j) ∧
                                                                                                  ((4 : Nat) ≤ (4 : Nat) ∧
                                                                                                      (4 : Nat) = (4 : Nat) ∧ ∀ (j : Nat), j < (4 : Nat) → y.g j = y_1.g j) ∧
                                                                                                    True) ∧
                                                                                      True) ∧
                                                                                ∀ (y : A3),
                                                                                  y.k ≤ (4 : Nat) ∧
                                                                                      (∀ (k : Nat),
                                                                                          k < (4 : Nat) →
                                                                                            (↑k : Int) ≠ c.core → y.s.clkOf (↑k : Int) = y.f k ∧ y.s.idleOf (↑k : Int) = y.g k) ∧
                                                                                        (c.wait = false → ∀ (k : Nat), k < (4 : Nat) → y.s.idleOf (↑k : Int) = y.g k) →
                                                                                    (decide ((↑y.k : Int) < (4 : Int)) = true →
                                                                                        (((↑y.k : Int) != c.core) = true →
                                                                                            (((True ∧ True) ∧ (↑y.k : Int) = (↑y.k : Int) ∧ True) ∧
                                                                                                ((2 : Nat) ≤ (2 : Nat) ∧
                                                                                                    (True ∧ True ∧ (0 : Nat) = (0 : Nat) ∧ y.s.n = y.s.n ∧ y.s.n = y.s.n) ∧
                                                                                                      y.s.st = y.s.st ∧ True) ∧
                                                                                                  (y.s.n * (10 : Nat) ≤ y.s.n * (10 : Nat) ∧
                                                                                                      y.s.n = y.s.n ∧
                                                                                                        ∀ (j : Nat),
                                                                                                          j < y.s.n →
                                                                                                            y.s.clk j = y.s.clk j ∧
                                                                                                              ((9 : Nat) = (9 : Nat) ∧
                                                                                                                  ∀ (j_1 : Nat), j_1 < (9 : Nat) → y.s.by_ j j_1 = y.s.by_ j j_1) ∧
                                                                                                                True) ∧
                                                                                                    True) ∧
                                                                                              ((0 : Int) ≤ (↑y.k : Int) ∧ (↑y.k : Int) < (↑(4 : Nat) : Int)) ∧
                                                                                                (↑y.k : Int).toNat < (4 : Nat) ∧
                                                                                                  ((y.s.clkOf (↑y.k : Int) != y.f (↑y.k : Int).toNat) = true →
                                                                                                      x.Ok ∧ c.Ok →
                                                                                                        False ∧
                                                                                                          True ∧
                                                                                                            ((0 : Nat) ≤ (0 : Nat) ∧
                                                                                                                x.len = x.len ∧
                                                                                                                  ∀ (j : Nat),
                                                                                                                    j < x.len →
                                                                                                                      x.core j = x.core j ∧
                                                                                                                        x.kind j = x.kind j ∧
                                                                                                                          x.times j = x.times j ∧ x.wait j = x.wait j ∧ True) ∧
                                                                                                              True) ∧
                                                                                                    ((y.s.clkOf (↑y.k : Int) != y.f (↑y.k : Int).toNat) = false →
                                                                                                      (((True ∧ True) ∧ (↑y.k : Int) = (↑y.k : Int) ∧ True) ∧
                                                                                                          ((2 : Nat) ≤ (2 : Nat) ∧
                                                                                                              (True ∧ True ∧ (0 : Nat) = (0 : Nat) ∧ y.s.n = y.s.n ∧ y.s.n = y.s.n) ∧
                                                                                                                y.s.st = y.s.st ∧ True) ∧
                                                                                                            (y.s.n * (10 : Nat) ≤ y.s.n * (10 : Nat) ∧
                                                                                                                y.s.n = y.s.n ∧
                                                                                                                  ∀ (j : Nat),
                                                                                                                    j < y.s.n →
                                                                                                                      y.s.clk j = y.s.clk j ∧
                                                                                                                        ((9 : Nat) = (9 : Nat) ∧
                                                                                                                            ∀ (j_1 : Nat),
                                                                                                                              j_1 < (9 : Nat) → y.s.by_ j j_1 = y.s.by_ j j_1) ∧
                                                                                                                          True) ∧
                                                                                                              True) ∧
                                                                                                        ((0 : Int) ≤ (↑y.k : Int) ∧ (↑y.k : Int) < (↑(4 : Nat) : Int)) ∧
                                                                                                          (↑y.k : Int).toNat < (4 : Nat) ∧
                                                                                                            ((y.s.idleOf (↑y.k : Int) != y.g (↑y.k : Int).toNat) = true →
                                                                                                                x.Ok ∧ c.Ok →
                                                                                                                  False ∧
                                                                                                                    True ∧
                                                                                                                      ((0 : Nat) ≤ (0 : Nat) ∧
                                                                                                                          x.len = x.len ∧
                                                                                                                            ∀ (j : Nat),
                                                                                                                              j < x.len →
                                                                                                                                x.core j = x.core j ∧
                                                                                                                                  x.kind j = x.kind j ∧
                                                                                                                                    x.times j = x.times j ∧
                                                                                                                                      x.wait j = x.wait j ∧ True) ∧
                                                                                                                        True) ∧
                                                                                                              ((y.s.idleOf (↑y.k : Int) != y.g (↑y.k : Int).toNat) = false →
                                                                                                                (((↑y.k : Int) == c.core) = true →
                                                                                                                    ((!c.wait) = true →
                                                                                                                        (((True ∧ True) ∧ (↑y.k : Int) = (↑y.k : Int) ∧ True) ∧
                                                                                                                            ((2 : Nat) ≤ (2 : Nat) ∧
                                                                                                                                (True ∧
                                                                                                                                    True ∧
                                                                                                                                      (0 : Nat) = (0 : Nat) ∧
                                                                                                                                        y.s.n = y.s.n ∧ y.s.n = y.s.n) ∧
                                                                                                                                  y.s.st = y.s.st ∧ True) ∧
                                                                                                                              (y.s.n * (10 : Nat) ≤ y.s.n * (10 : Nat) ∧
                                                                                                                                  y.s.n = y.s.n ∧
                                                                                                                                    ∀ (j : Nat),
                                                                                                                                      j < y.s.n →
                                                                                                                                        y.s.clk j = y.s.clk j ∧
                                                                                                                                          ((9 : Nat) = (9 : Nat) ∧
                                                                                                                                              ∀ (j_1 : Nat),
                                                                                                                                                j_1 < (9 : Nat) →
                                                                                                                                                  y.s.by_ j j_1 = y.s.by_ j j_1) ∧
                                                                                                                                            True) ∧
                                                                                                                                True) ∧
                                                                                                                          ((0 : Int) ≤ (↑y.k : Int) ∧
                                                                                                                              (↑y.k : Int) < (↑(4 : Nat) : Int)) ∧
                                                                                                                            (↑y.k : Int).toNat < (4 : Nat) ∧
                                                                                                                              ((y.s.idleOf (↑y.k : Int) != y.g (↑y.k : Int).toNat) =
                                                                                                                                    true →
                                                                                                                                  x.Ok ∧ c.Ok →
                                                                                                                                    False ∧
                                                                                                                                      True ∧
                                                                                                                                        ((0 : Nat) ≤ (0 : Nat) ∧
                                                                                                                                            x.len = x.len ∧
                                                                                                                                              ∀ (j : Nat),
                                                                                                                                                j < x.len →
                                                                                                                                                  x.core j = x.core j ∧
                                                                                                                                                    x.kind j = x.kind j ∧
                                                                                                                                                      x.times j = x.times j ∧
                                                                                                                                                        x.wait j = x.wait j ∧ True) ∧
                                                                                                                                          True) ∧
                                                                                                                                ((y.s.idleOf (↑y.k : Int) != y.g (↑y.k : Int).toNat) =
                                                                                                                                    false →
                                                                                                                                  ∀ (v : Int),
                                                                                                                                    v = IntKind.i64.wrap ((↑y.k : Int) + (1 : Int)) →
                                                                                                                                      ∃ (y_1 : A3),
                                                                                                                                        (y_1.k ≤ (4 : Nat) ∧
                                                                                                                                            (∀ (k : Nat),
                                                                                                                                                k < (4 : Nat) →
                                                                                                                                                  (↑k : Int) ≠ c.core →
                                                                                                                                                    y_1.s.clkOf (↑k : Int) = y_1.f k ∧
                                                                                                                                                      y_1.s.idleOf (↑k : Int) =
                                                                                                                                                        y_1.g k) ∧
                                                                                                                                              (c.wait = false →
                                                                                                                                                ∀ (k : Nat),
                                                                                                                                                  k < (4 : Nat) →
                                                                                                                                                    y_1.s.idleOf (↑k : Int) =
                                                                                                                                                      y_1.g k)) ∧
                                                                                                                                          (((True ∧ True) ∧
                                                                                                                                                (True ∧ True) ∧
                                                                                                                                                  (True ∧ True) ∧
                                                                                                                                                    (True ∧ True) ∧
                                                                                                                                                      v = (↑y_1.k : Int) ∧ True) ∧
                                                                                                                                              ((0 : Nat) ≤ (0 : Nat) ∧
                                                                                                                                                  x.len = x.len ∧
                                                                                                                                                    ∀ (j : Nat),
                                                                                                                                                      j < x.len →
                                                                                                                                                        x.core j = x.core j ∧
                                                                                                                                                          x.kind j = x.kind j ∧
                                                                                                                                                            x.times j = x.times j ∧
                                                                                                                                                              x.wait j = x.wait j ∧
                                                                                                                                                                True) ∧
                                                                                                                                                ((4 : Nat) ≤ (4 : Nat) ∧
                                                                                                                                                    c.core = c.core ∧
                                                                                                                                                      c.kind = c.kind ∧
                                                                                                                                                        c.times = c.times ∧
                                                                                                                                                          c.wait = c.wait ∧ True) ∧
                                                                                                                                                  ((2 : Nat) ≤ (2 : Nat) ∧
                                                                                                                                                      (True ∧
                                                                                                                                                          True ∧
                                                                                                                                                            (0 : Nat) = (0 : Nat) ∧
                                                                                                                                                              y.s.n = y_1.s.n ∧
                                                                                                                                                                y.s.n = y_1.s.n) ∧
                                                                                                                                                        y.s.st = y_1.s.st ∧ True) ∧
                                                                                                                                                    (y_1.s.n * (10 : Nat) ≤
                                                                                                                                                          y.s.n * (10 : Nat) ∧
                                                                                                                                                        y_1.s.n = y.s.n ∧
                                                                                                                                                          ∀ (j : Nat),
                                                                                                                                                            j < y.s.n →
                                                                                                                                                              y.s.clk j =
                                                                                                                                                                  y_1.s.clk j ∧
                                                                                                                                                                ((9 : Nat) =
                                                                                                                                                                      (9 : Nat) ∧
                                                                                                                                                                    ∀ (j_1 : Nat),
                                                                                                                                                                      j_1 <
                                                                                                                                                                          (9 : Nat) →
                                                                                                                                                                        y.s.by_ j
                                                                                                                                                                            j_1 =
                                                                                                                                                                          y_1.s.by_ j
                                                                                                                                                                            j_1) ∧
                                                                                                                                                                  True) ∧
                                                                                                                                                      ((4 : Nat) ≤ (4 : Nat) ∧
                                                                                                                                                          (4 : Nat) = (4 : Nat) ∧
                                                                                                                                                            ∀ (j : Nat),
                                                                                                                                                              j < (4 : Nat) →
                                                                                                                                                                y.f j = y_1.f j) ∧
                                                                                                                                                        ((4 : Nat) ≤ (4 : Nat) ∧
                                                                                                                                                            (4 : Nat) = (4 : Nat) ∧
                                                                                                                                                              ∀ (j : Nat),
                                                                                                                                                                j < (4 : Nat) →
                                                                                                                                                                  y.g j = y_1.g j) ∧
                                                                                                                                                          True) ∧
                                                                                                                                            (apartF2 x c g).μ y_1 <
                                                                                                                                              (apartF2 x c g).μ y)) ∧
                                                                                                                      ((!c.wait) = false →
                                                                                                                        ∀ (v : Int),
                                                                                                                          v = IntKind.i64.wrap ((↑y.k : Int) + (1 : Int)) →
                                                                                                                            ∃ (y_1 : A3),
                                                                                                                              (y_1.k ≤ (4 : Nat) ∧
                                                                                                                                  (∀ (k : Nat),
                                                                                                                                      k < (4 : Nat) →
                                                                                                                                        (↑k : Int) ≠ c.core →
                                                                                                                                          y_1.s.clkOf (↑k : Int) = y_1.f k ∧
                                                                                                                                            y_1.s.idleOf (↑k : Int) = y_1.g k) ∧
                                                                                                                                    (c.wait = false →
                                                                                                                                      ∀ (k : Nat),
                                                                                                                                        k < (4 : Nat) →
                                                                                                                                          y_1.s.idleOf (↑k : Int) = y_1.g k)) ∧
                                                                                                                                (((True ∧ True) ∧
                                                                                                                                      (True ∧ True) ∧
                                                                                                                                        (True ∧ True) ∧
                                                                                                                                          (True ∧ True) ∧ v = (↑y_1.k : Int) ∧ True) ∧
                                                                                                                                    ((0 : Nat) ≤ (0 : Nat) ∧
                                                                                                                                        x.len = x.len ∧
                                                                                                                                          ∀ (j : Nat),
                                                                                                                                            j < x.len →
                                                                                                                                              x.core j = x.core j ∧
                                                                                                                                                x.kind j = x.kind j ∧
                                                                                                                                                  x.times j = x.times j ∧
                                                                                                                                                    x.wait j = x.wait j ∧ True) ∧
                                                                                                                                      ((4 : Nat) ≤ (4 : Nat) ∧
                                                                                                                                          c.core = c.core ∧
                                                                                                                                            c.kind = c.kind ∧
                                                                                                                                              c.times = c.times ∧
                                                                                                                                                c.wait = c.wait ∧ True) ∧
                                                                                                                                        ((2 : Nat) ≤ (2 : Nat) ∧
                                                                                                                                            (True ∧
                                                                                                                                                True ∧
                                                                                                                                                  (0 : Nat) = (0 : Nat) ∧
                                                                                                                                                    y.s.n = y_1.s.n ∧
                                                                                                                                                      y.s.n = y_1.s.n) ∧
                                                                                                                                              y.s.st = y_1.s.st ∧ True) ∧
                                                                                                                                          (y_1.s.n * (10 : Nat) ≤ y.s.n * (10 : Nat) ∧
                                                                                                                                              y_1.s.n = y.s.n ∧
                                                                                                                                                ∀ (j : Nat),
                                                                                                                                                  j < y.s.n →
                                                                                                                                                    y.s.clk j = y_1.s.clk j ∧
                                                                                                                                                      ((9 : Nat) = (9 : Nat) ∧
                                                                                                                                                          ∀ (j_1 : Nat),
                                                                                                                                                            j_1 < (9 : Nat) →
                                                                                                                                                              y.s.by_ j j_1 =
                                                                                                                                                                y_1.s.by_ j j_1) ∧
                                                                                                                                                        True) ∧
                                                                                                                                            ((4 : Nat) ≤ (4 : Nat) ∧
                                                                                                                                                (4 : Nat) = (4 : Nat) ∧
                                                                                                                                                  ∀ (j : Nat),
                                                                                                                                                    j < (4 : Nat) → y.f j = y_1.f j) ∧
                                                                                                                                              ((4 : Nat) ≤ (4 : Nat) ∧
                                                                                                                                                  (4 : Nat) = (4 : Nat) ∧
                                                                                                                                                    ∀ (j : Nat),
                                                                                                                                                      j < (4 : Nat) →
                                                                                                                                                        y.g j = y_1.g j) ∧
                                                                                                                                                True) ∧
                                                                                                                                  (apartF2 x c g).μ y_1 < (apartF2 x c g).μ y)) ∧
                                                                                                                  (((↑y.k : Int) == c.core) = false →
                                                                                                                    ∀ (v : Int),
                                                                                                                      v = IntKind.i64.wrap ((↑y.k : Int) + (1 : Int)) →
                                                                                                                        ∃ (y_1 : A3),
                                                                                                                          (y_1.k ≤ (4 : Nat) ∧
                                                                                                                              (∀ (k : Nat),
                                                                                                                                  k < (4 : Nat) →
                                                                                                                                    (↑k : Int) ≠ c.core →
                                                                                                                                      y_1.s.clkOf (↑k : Int) = y_1.f k ∧
                                                                                                                                        y_1.s.idleOf (↑k : Int) = y_1.g k) ∧
                                                                                                                                (c.wait = false →
                                                                                                                                  ∀ (k : Nat),
                                                                                                                                    k < (4 : Nat) →
                                                                                                                                      y_1.s.idleOf (↑k : Int) = y_1.g k)) ∧
                                                                                                                            (((True ∧ True) ∧
                                                                                                                                  (True ∧ True) ∧
                                                                                                                                    (True ∧ True) ∧
                                                                                                                                      (True ∧ True) ∧ v = (↑y_1.k : Int) ∧ True) ∧
                                                                                                                                ((0 : Nat) ≤ (0 : Nat) ∧
                                                                                                                                    x.len = x.len ∧
                                                                                                                                      ∀ (j : Nat),
                                                                                                                                        j < x.len →
                                                                                                                                          x.core j = x.core j ∧
                                                                                                                                            x.kind j = x.kind j ∧
                                                                                                                                              x.times j = x.times j ∧
                                                                                                                                                x.wait j = x.wait j ∧ True) ∧
                                                                                                                                  ((4 : Nat) ≤ (4 : Nat) ∧
                                                                                                                                      c.core = c.core ∧
                                                                                                                                        c.kind = c.kind ∧
                                                                                                                                          c.times = c.times ∧
                                                                                                                                            c.wait = c.wait ∧ True) ∧
                                                                                                                                    ((2 : Nat) ≤ (2 : Nat) ∧
                                                                                                                                        (True ∧
                                                                                                                                            True ∧
                                                                                                                                              (0 : Nat) = (0 : Nat) ∧
                                                                                                                                                y.s.n = y_1.s.n ∧ y.s.n = y_1.s.n) ∧
                                                                                                                                          y.s.st = y_1.s.st ∧ True) ∧
                                                                                                                                      (y_1.s.n * (10 : Nat) ≤ y.s.n * (10 : Nat) ∧
                                                                                                                                          y_1.s.n = y.s.n ∧
                                                                                                                                            ∀ (j : Nat),
                                                                                                                                              j < y.s.n →
                                                                                                                                                y.s.clk j = y_1.s.clk j ∧
                                                                                                                                                  ((9 : Nat) = (9 : Nat) ∧
                                                                                                                                                      ∀ (j_1 : Nat),
                                                                                                                                                        j_1 < (9 : Nat) →
                                                                                                                                                          y.s.by_ j j_1 =
                                                                                                                                                            y_1.s.by_ j j_1) ∧
                                                                                                                                                    True) ∧
                                                                                                                                        ((4 : Nat) ≤ (4 : Nat) ∧
                                                                                                                                            (4 : Nat) = (4 : Nat) ∧
                                                                                                                                              ∀ (j : Nat),
                                                                                                                                                j < (4 : Nat) → y.f j = y_1.f j) ∧
                                                                                                                                          ((4 : Nat) ≤ (4 : Nat) ∧
                                                                                                                                              (4 : Nat) = (4 : Nat) ∧
                                                                                                                                                ∀ (j : Nat),
                                                                                                                                                  j < (4 : Nat) → y.g j = y_1.g j) ∧
                                                                                                                                            True) ∧
                                                                                                                              (apartF2 x c g).μ y_1 < (apartF2 x c g).μ y)))) ∧
                                                                                          (((↑y.k : Int) != c.core) = false →
                                                                                            (((↑y.k : Int) == c.core) = true →
                                                                                                ((!c.wait) = true →
                                                                                                    (((True ∧ True) ∧ (↑y.k : Int) = (↑y.k : Int) ∧ True) ∧
                                                                                                        ((2 : Nat) ≤ (2 : Nat) ∧
                                                                                                            (True ∧ True ∧ (0 : Nat) = (0 : Nat) ∧ y.s.n = y.s.n ∧ y.s.n = y.s.n) ∧
                                                                                                              y.s.st = y.s.st ∧ True) ∧
                                                                                                          (y.s.n * (10 : Nat) ≤ y.s.n * (10 : Nat) ∧
                                                                                                              y.s.n = y.s.n ∧
                                                                                                                ∀ (j : Nat),
                                                                                                                  j < y.s.n →
                                                                                                                    y.s.clk j = y.s.clk j ∧
                                                                                                                      ((9 : Nat) = (9 : Nat) ∧
                                                                                                                          ∀ (j_1 : Nat),
                                                                                                                            j_1 < (9 : Nat) → y.s.by_ j j_1 = y.s.by_ j j_1) ∧
                                                                                                                        True) ∧
                                                                                                            True) ∧
                                                                                                      ((0 : Int) ≤ (↑y.k : Int) ∧ (↑y.k : Int) < (↑(4 : Nat) : Int)) ∧
                                                                                                        (↑y.k : Int).toNat < (4 : Nat) ∧
                                                                                                          ((y.s.idleOf (↑y.k : Int) != y.g (↑y.k : Int).toNat) = true →
                                                                                                              x.Ok ∧ c.Ok →
                                                                                                                False ∧
                                                                                                                  True ∧
                                                                                                                    ((0 : Nat) ≤ (0 : Nat) ∧
                                                                                                                        x.len = x.len ∧
                                                                                                                          ∀ (j : Nat),
                                                                                                                            j < x.len →
                                                                                                                              x.core j = x.core j ∧
                                                                                                                                x.kind j = x.kind j ∧
                                                                                                                                  x.times j = x.times j ∧
                                                                                                                                    x.wait j = x.wait j ∧ True) ∧
                                                                                                                      True) ∧
                                                                                                            ((y.s.idleOf (↑y.k : Int) != y.g (↑y.k : Int).toNat) = false →
                                                                                                              ∀ (v : Int),
                                                                                                                v = IntKind.i64.wrap ((↑y.k : Int) + (1 : Int)) →
                                                                                                                  ∃ (y_1 : A3),
                                                                                                                    (y_1.k ≤ (4 : Nat) ∧
                                                                                                                        (∀ (k : Nat),
                                                                                                                            k < (4 : Nat) →
                                                                                                                              (↑k : Int) ≠ c.core →
                                                                                                                                y_1.s.clkOf (↑k : Int) = y_1.f k ∧
                                                                                                                                  y_1.s.idleOf (↑k : Int) = y_1.g k) ∧
                                                                                                                          (c.wait = false →
                                                                                                                            ∀ (k : Nat),
                                                                                                                              k < (4 : Nat) → y_1.s.idleOf (↑k : Int) = y_1.g k)) ∧
                                                                                                                      (((True ∧ True) ∧
                                                                                                                            (True ∧ True) ∧
                                                                                                                              (True ∧ True) ∧
                                                                                                                                (True ∧ True) ∧ v = (↑y_1.k : Int) ∧ True) ∧
                                                                                                                          ((0 : Nat) ≤ (0 : Nat) ∧
                                                                                                                              x.len = x.len ∧
                                                                                                                                ∀ (j : Nat),
                                                                                                                                  j < x.len →
                                                                                                                                    x.core j = x.core j ∧
                                                                                                                                      x.kind j = x.kind j ∧
                                                                                                                                        x.times j = x.times j ∧
                                                                                                                                          x.wait j = x.wait j ∧ True) ∧
                                                                                                                            ((4 : Nat) ≤ (4 : Nat) ∧
                                                                                                                                c.core = c.core ∧
                                                                                                                                  c.kind = c.kind ∧
                                                                                                                                    c.times = c.times ∧ c.wait = c.wait ∧ True) ∧
                                                                                                                              ((2 : Nat) ≤ (2 : Nat) ∧
                                                                                                                                  (True ∧
                                                                                                                                      True ∧
                                                                                                                                        (0 : Nat) = (0 : Nat) ∧
                                                                                                                                          y.s.n = y_1.s.n ∧ y.s.n = y_1.s.n) ∧
                                                                                                                                    y.s.st = y_1.s.st ∧ True) ∧
                                                                                                                                (y_1.s.n * (10 : Nat) ≤ y.s.n * (10 : Nat) ∧
                                                                                                                                    y_1.s.n = y.s.n ∧
                                                                                                                                      ∀ (j : Nat),
                                                                                                                                        j < y.s.n →
                                                                                                                                          y.s.clk j = y_1.s.clk j ∧
                                                                                                                                            ((9 : Nat) = (9 : Nat) ∧
                                                                                                                                                ∀ (j_1 : Nat),
                                                                                                                                                  j_1 < (9 : Nat) →
                                                                                                                                                    y.s.by_ j j_1 = y_1.s.by_ j j_1) ∧
                                                                                                                                              True) ∧
                                                                                                                                  ((4 : Nat) ≤ (4 : Nat) ∧
                                                                                                                                      (4 : Nat) = (4 : Nat) ∧
                                                                                                                                        ∀ (j : Nat),
                                                                                                                                          j < (4 : Nat) → y.f j = y_1.f j) ∧
                                                                                                                                    ((4 : Nat) ≤ (4 : Nat) ∧
                                                                                                                                        (4 : Nat) = (4 : Nat) ∧
                                                                                                                                          ∀ (j : Nat),
                                                                                                                                            j < (4 : Nat) → y.g j = y_1.g j) ∧
                                                                                                                                      True) ∧
                                                                                                                        (apartF2 x c g).μ y_1 < (apartF2 x c g).μ y)) ∧
                                                                                                  ((!c.wait) = false →
                                                                                                    ∀ (v : Int),
                                                                                                      v = IntKind.i64.wrap ((↑y.k : Int) + (1 : Int)) →
                                                                                                        ∃ (y_1 : A3),
                                                                                                          (y_1.k ≤ (4 : Nat) ∧
                                                                                                              (∀ (k : Nat),
                                                                                                                  k < (4 : Nat) →
                                                                                                                    (↑k : Int) ≠ c.core →
                                                                                                                      y_1.s.clkOf (↑k : Int) = y_1.f k ∧
                                                                                                                        y_1.s.idleOf (↑k : Int) = y_1.g k) ∧
                                                                                                                (c.wait = false →
                                                                                                                  ∀ (k : Nat), k < (4 : Nat) → y_1.s.idleOf (↑k : Int) = y_1.g k)) ∧
                                                                                                            (((True ∧ True) ∧
                                                                                                                  (True ∧ True) ∧
                                                                                                                    (True ∧ True) ∧ (True ∧ True) ∧ v = (↑y_1.k : Int) ∧ True) ∧
                                                                                                                ((0 : Nat) ≤ (0 : Nat) ∧
                                                                                                                    x.len = x.len ∧
                                                                                                                      ∀ (j : Nat),
                                                                                                                        j < x.len →
                                                                                                                          x.core j = x.core j ∧
                                                                                                                            x.kind j = x.kind j ∧
                                                                                                                              x.times j = x.times j ∧ x.wait j = x.wait j ∧ True) ∧
                                                                                                                  ((4 : Nat) ≤ (4 : Nat) ∧
                                                                                                                      c.core = c.core ∧
                                                                                                                        c.kind = c.kind ∧
                                                                                                                          c.times = c.times ∧ c.wait = c.wait ∧ True) ∧
                                                                                                                    ((2 : Nat) ≤ (2 : Nat) ∧
                                                                                                                        (True ∧
                                                                                                                            True ∧
                                                                                                                              (0 : Nat) = (0 : Nat) ∧
                                                                                                                                y.s.n = y_1.s.n ∧ y.s.n = y_1.s.n) ∧
                                                                                                                          y.s.st = y_1.s.st ∧ True) ∧
                                                                                                                      (y_1.s.n * (10 : Nat) ≤ y.s.n * (10 : Nat) ∧
                                                                                                                          y_1.s.n = y.s.n ∧
                                                                                                                            ∀ (j : Nat),
                                                                                                                              j < y.s.n →
                                                                                                                                y.s.clk j = y_1.s.clk j ∧
                                                                                                                                  ((9 : Nat) = (9 : Nat) ∧
                                                                                                                                      ∀ (j_1 : Nat),
                                                                                                                                        j_1 < (9 : Nat) →
                                                                                                                                          y.s.by_ j j_1 = y_1.s.by_ j j_1) ∧
                                                                                                                                    True) ∧
                                                                                                                        ((4 : Nat) ≤ (4 : Nat) ∧
                                                                                                                            (4 : Nat) = (4 : Nat) ∧
                                                                                                                              ∀ (j : Nat), j < (4 : Nat) → y.f j = y_1.f j) ∧
                                                                                                                          ((4 : Nat) ≤ (4 : Nat) ∧
                                                                                                                              (4 : Nat) = (4 : Nat) ∧
                                                                                                                                ∀ (j : Nat), j < (4 : Nat) → y.g j = y_1.g j) ∧
                                                                                                                            True) ∧
                                                                                                              (apartF2 x c g).μ y_1 < (apartF2 x c g).μ y)) ∧
                                                                                              (((↑y.k : Int) == c.core) = false →
                                                                                                ∀ (v : Int),
                                                                                                  v = IntKind.i64.wrap ((↑y.k : Int) + (1 : Int)) →
                                                                                                    ∃ (y_1 : A3),
                                                                                                      (y_1.k ≤ (4 : Nat) ∧
                                                                                                          (∀ (k : Nat),
                                                                                                              k < (4 : Nat) →
                                                                                                                (↑k : Int) ≠ c.core →
                                                                                                                  y_1.s.clkOf (↑k : Int) = y_1.f k ∧
                                                                                                                    y_1.s.idleOf (↑k : Int) = y_1.g k) ∧
                                                                                                            (c.wait = false →
                                                                                                              ∀ (k : Nat), k < (4 : Nat) → y_1.s.idleOf (↑k : Int) = y_1.g k)) ∧
                                                                                                        (((True ∧ True) ∧
                                                                                                              (True ∧ True) ∧
                                                                                                                (True ∧ True) ∧ (True ∧ True) ∧ v = (↑y_1.k : Int) ∧ True) ∧
                                                                                                            ((0 : Nat) ≤ (0 : Nat) ∧
                                                                                                                x.len = x.len ∧
                                                                                                                  ∀ (j : Nat),
                                                                                                                    j < x.len →
                                                                                                                      x.core j = x.core j ∧
                                                                                                                        x.kind j = x.kind j ∧
                                                                                                                          x.times j = x.times j ∧ x.wait j = x.wait j ∧ True) ∧
                                                                                                              ((4 : Nat) ≤ (4 : Nat) ∧
                                                                                                                  c.core = c.core ∧
                                                                                                                    c.kind = c.kind ∧ c.times = c.times ∧ c.wait = c.wait ∧ True) ∧
                                                                                                                ((2 : Nat) ≤ (2 : Nat) ∧
                                                                                                                    (True ∧
                                                                                                                        True ∧
                                                                                                                          (0 : Nat) = (0 : Nat) ∧ y.s.n = y_1.s.n ∧ y.s.n = y_1.s.n) ∧
                                                                                                                      y.s.st = y_1.s.st ∧ True) ∧
                                                                                                                  (y_1.s.n * (10 : Nat) ≤ y.s.n * (10 : Nat) ∧
                                                                                                                      y_1.s.n = y.s.n ∧
                                                                                                                        ∀ (j : Nat),
                                                                                                                          j < y.s.n →
                                                                                                                            y.s.clk j = y_1.s.clk j ∧
                                                                                                                              ((9 : Nat) = (9 : Nat) ∧
                                                                                                                                  ∀ (j_1 : Nat),
                                                                                                                                    j_1 < (9 : Nat) →
                                                                                                                                      y.s.by_ j j_1 = y_1.s.by_ j j_1) ∧
                                                                                                                                True) ∧
                                                                                                                    ((4 : Nat) ≤ (4 : Nat) ∧
                                                                                                                        (4 : Nat) = (4 : Nat) ∧
                                                                                                                          ∀ (j : Nat), j < (4 : Nat) → y.f j = y_1.f j) ∧
                                                                                                                      ((4 : Nat) ≤ (4 : Nat) ∧
                                                                                                                          (4 : Nat) = (4 : Nat) ∧
                                                                                                                            ∀ (j : Nat), j < (4 : Nat) → y.g j = y_1.g j) ∧
                                                                                                                        True) ∧
                                                                                                          (apartF2 x c g).μ y_1 < (apartF2 x c g).μ y))) ∧
                                                                                      (decide ((↑y.k : Int) < (4 : Int)) = false →
                                                                                        x.Ok ∧ c.Ok →
                                                                                          True ∧
                                                                                            True ∧
                                                                                              ((0 : Nat) ≤ (0 : Nat) ∧
                                                                                                  x.len = x.len ∧
                                                                                                    ∀ (j : Nat),
                                                                                                      j < x.len →
                                                                                                        x.core j = x.core j ∧
                                                                                                          x.kind j = x.kind j ∧ x.times j = x.times j ∧ x.wait j = x.wait j ∧ True) ∧
                                                                                                True)))) ∧
                  (¬((1 : Int) ≤ (4 : Int) ∧ (4 : Int) ≤ (4 : Int)) →
                    ∀ (v : Int),
                      v = (11 : Int) →
                        ((v != (0 : Int)) = true →
                            x.Ok ∧ c.Ok →
                              False ∧
                                True ∧
                                  ((0 : Nat) ≤ (0 : Nat) ∧
                                      x.len = x.len ∧ ∀ (j : Nat), j < x.len → x.core j = x.core j ∧ x.kind j = x.kind j ∧ x.times j = x.times j ∧ x.wait j = x.wait j ∧ True) ∧
                                    True) ∧
                          ((v != (0 : Int)) = false →
                            x.Ok ∧ c.Ok →
                              False ∧
                                True ∧
                                  ((0 : Nat) ≤ (0 : Nat) ∧
                                      x.len = x.len ∧ ∀ (j : Nat), j < x.len → x.core j = x.core j ∧ x.kind j = x.kind j ∧ x.times j = x.times j ∧ x.wait j = x.wait j ∧ True) ∧
                                    True))) := by
  simp only [true_and, and_true, eq_self, Nat.le_refl, decide_eq_true_eq, decide_eq_false_iff_not, beq_iff_eq, beq_eq_false_iff_ne, implies_true, and_self, bne_iff_ne, Int.not_lt, gt_iff_lt, ne_eq, Nat.zero_add, Int.toNat_natCast, cond_nbeq, IntKind.wrap_i64, bne_eq_false_iff_eq, Bool.not_eq_true', Bool.not_eq_false']
  rintro x c ⟨hx, hc⟩
  obtain ⟨xnil, xlen, xx⟩ := id hx
  have hM1 : ∀ a : A1, (apartF1 x c).μ a = x.len - a.i := fun _ => rfl
  have hM2 : ∀ (u : A1) (a : A3), (apartF2 x c u).μ a = 4 - a.k := fun _ _ => rfl
  simp only [hM1, hM2]
  refine ⟨xnil, fun h60 => ⟨fun _ s0 hs0 v0 hv0 => ⟨fun h => absurd hv0 h, fun _ v hv => ⟨⟨⟨0, s0⟩, ?_⟩, fun y hy => ⟨xnil, fun hlt => ⟨xnil, by omega, by omega, fun hw => ?_, fun hw => ?_⟩, fun hge => ?_⟩⟩⟩, ?_⟩⟩
  · subst hs0
    have := MS.Ok.new 4
    have h3 : (MS.new 4).n = 4 := rfl
    try dsimp only
    repeat' (with_reducible first | assumption | apply And.intro | intro _)
    all_goals (try simp only [] at *)
    all_goals (first | omega | ((repeat' (first | omega | split)) <;> (try dsimp only) <;> (try (first | omega | contradiction | (subst_vars; first | rfl | omega) | (simp_all; done) | (simp_all; omega)))))
  · obtain ⟨h1, h2, h3⟩ := hy
    have hj := xx y.i
    refine ⟨xnil, by omega, by omega, xnil, by omega, by omega, ⟨h2, hj.2.2⟩, fun r hr v hv => ⟨⟨y.i + 1, r.2⟩, ?_⟩⟩
    have f4 : (y.s.wait (x.core y.i) (x.times y.i)).2.Ok := h2.wait
    have f5 := MS.wait_n y.s (x.core y.i) (x.times y.i)
    rw [← hr] at f4 f5
    try dsimp only
    repeat' (with_reducible first | assumption | apply And.intro | intro _)
    all_goals (try simp only [] at *)
    all_goals (first | omega | ((repeat' (first | omega | split)) <;> (try dsimp only) <;> (try (first | omega | contradiction | (subst_vars; first | rfl | omega) | (simp_all; done) | (simp_all; omega)))))
  · obtain ⟨h1, h2, h3⟩ := hy
    have hj := xx y.i
    refine ⟨xnil, by omega, by omega, xnil, by omega, by omega, xnil, by omega, by omega, ⟨h2, hj.2.2⟩, fun r hr v hv => ⟨⟨y.i + 1, r.2⟩, ?_⟩⟩
    have f4 : (y.s.charge (x.core y.i) (x.kind y.i) (x.times y.i)).2.Ok := h2.charge hj.2.2.1
    have f5 := MS.charge_n y.s (x.core y.i) (x.kind y.i) (x.times y.i)
    rw [← hr] at f4 f5
    try dsimp only
    repeat' (with_reducible first | assumption | apply And.intro | intro _)
    all_goals (try simp only [] at *)
    all_goals (first | omega | ((repeat' (first | omega | split)) <;> (try dsimp only) <;> (try (first | omega | contradiction | (subst_vars; first | rfl | omega) | (simp_all; done) | (simp_all; omega)))))
  · obtain ⟨h1, h2, h3⟩ := hy
    refine ⟨y, ⟨fun hw => ⟨⟨h2, hc.2.2⟩, fun r hr => ⟨⟨r.2, tab4 y.s.clkOf, tab4 y.s.idleOf, 0⟩, ?_⟩⟩, fun hw => ⟨⟨h2, hc.2.2⟩, fun r hr => ⟨⟨r.2, tab4 y.s.clkOf, tab4 y.s.idleOf, 0⟩, ?_⟩⟩⟩, fun z hz v hv => ⟨y, ⟨⟨z.s, z.f, z.g, 0⟩, ?_⟩, fun q hq hk => ?_⟩⟩
    · have hap := wait_apart y.s c.core c.times
      have f5 := MS.wait_n y.s c.core c.times
      rw [← hr] at f5 hap
      refine ⟨⟨rfl, fun k hk hkc => ?_, fun h => by rw [hw] at h; cases h⟩, ?_⟩
      · dsimp only
        rw [tab4_at _ k hk, tab4_at _ k hk]; exact hap k hkc
      · try dsimp only
        repeat' (with_reducible first | assumption | apply And.intro | intro _)
        all_goals (try simp only [tab4] at *)
        all_goals (first | omega | ((repeat' (first | omega | split)) <;> (try dsimp only) <;> (try (first | omega | contradiction | (subst_vars; first | rfl | omega) | (simp_all; done) | (simp_all; omega)))))
    · have hap := charge_apart y.s c.core c.kind c.times
      have f5 := MS.charge_n y.s c.core c.kind c.times
      rw [← hr] at f5 hap
      refine ⟨⟨rfl, fun k hk hkc => ?_, fun h k hk => ?_⟩, ?_⟩
      · dsimp only
        rw [tab4_at _ k hk, tab4_at _ k hk]; exact ⟨(hap k).1 hkc, (hap k).2⟩
      · dsimp only
        rw [tab4_at _ k hk]; exact (hap k).2
      · try dsimp only
        repeat' (with_reducible first | assumption | apply And.intro | intro _)
        all_goals (try simp only [tab4] at *)
        all_goals (first | omega | ((repeat' (first | omega | split)) <;> (try dsimp only) <;> (try (first | omega | contradiction | (subst_vars; first | rfl | omega) | (simp_all; done) | (simp_all; omega)))))
    · obtain ⟨z1, z2, z3⟩ := hz
      try dsimp only
      repeat' (with_reducible first | assumption | apply And.intro | intro _)
      all_goals (try simp only [] at *)
      all_goals (first | omega | ((repeat' (first | omega | split)) <;> (try dsimp only) <;> (try (first | omega | contradiction | (subst_vars; first | rfl | omega) | (simp_all; done) | (simp_all; omega)))))
    · obtain ⟨q1, q2, q3⟩ := hq
      have a1 := q2 q.k (by omega)
      have a2 := fun h => q3 h q.k (by omega)
      have hs : ∀ v : Int, v = (q.k + 1 + 9223372036854775808) % 18446744073709551616 - 9223372036854775808 → v = ((q.k + 1 : Nat) : Int) := fun v hv => by omega
      try dsimp only
      repeat' (with_reducible first | assumption | apply And.intro | intro _ | refine Exists.intro ((⟨q.s, q.f, q.g, q.k + 1⟩ : A3)) ?_)
      all_goals (try simp only [] at *)
      all_goals (first | omega | ((repeat' (first | omega | split)) <;> (try dsimp only) <;> (try (first | omega | contradiction | (subst_vars; first | rfl | omega) | (simp_all; done) | (simp_all; omega)))))
  · try dsimp only
    repeat' (with_reducible first | assumption | apply And.intro | intro _)
    all_goals (try simp only [cond_dec, decide_eq_decide] at *)
    all_goals (first | omega | ((repeat' (first | omega | split)) <;> (try dsimp only) <;> (try (first | omega | contradiction | (subst_vars; first | rfl | omega) | (simp_all; done) | (simp_all; omega)))))

def apart_C (x : (CS × CD)) : Cfg := { Γ := Go.Sx.look tTop, names := true, loops := apartL (x.1) (x.2), cuts := apartK (x.1) (x.2), mode := callMode }
theorem apart_al (x : (CS × CD)) : Shown (apartP.vc Try.prog (apart_C x) Try.f6 x) := ⟨@Eq.mp _ _ (by kernel_rfl) (apart_vc (x.1) (x.2))⟩
theorem apart_ok : SpOk Try.prog 6 apartP.sp := @Pat.okS _ apartP Try.prog apart_C 6 Try.f6 (fun x => cfg_tab rfl tTop_ok) (by kernel_rfl) Try.func6 (fun _ => rfl) apart_al
