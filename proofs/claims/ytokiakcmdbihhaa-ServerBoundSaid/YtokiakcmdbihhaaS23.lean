import Derived.Test.YtokiakcmdbihhaaS16
open Go Go.Sx Go.Proofs
set_option maxRecDepth 100000
namespace Go.Proofs.Ytokiakcmdbihhaa

def psm (f : Nat → Int) : Nat → Int
  | 0 => 0
  | n + 1 => psm f n + f n
/-- What the two rows hold. -/
structure BP (q t : Int) (T K : Nat → Int) (l : Nat) : Prop where
  ln : l ≤ 60
  mono : ∀ i k, i ≤ k → k < l → T i ≤ T k
  tr : ∀ i, i < l → 0 ≤ T i ∧ T i ≤ 4611686018427387904
  kr : ∀ i, i < l → 0 ≤ K i ∧ K i ≤ q
  bd : ∀ i k, i ≤ k → k < l → psm K (k + 1) - psm K i ≤ ((T k - T i) / t + 2) * q
/-- A row of numbers of one's own. -/
structure NR where
  len : Nat
  cap : Nat
  f : Nat → Int
def NR.reg (x : NR) : Reg := rowReg 22 x.len 1 x.cap (fun j => .int .u64 (x.f j))
def NR.v (x : NR) (r : Nat) : T := .slice r 0 [] 0 1 x.len x.cap
/-- How often it may have been taken, since a time. -/
def Rt (t s a : Int) : Int := if a ≤ s then 0 else (a - s - 1) / t + 1
def Ph (t s : Int) : Chs → Int
  | [] => 0
  | (a, b) :: l => b * Rt t s a + Ph t s l
structure BS (q t n : Int) (l : Chs) (m : Int) (T K : Nat → Int) (c : Nat) : Prop where
  bp : BP q t T K c
  ti : ∀ i, i < c → n ≤ T i ∧ T i ≤ m
  ab : ∀ p ∈ l, p.1 ≤ m + t
  ph : ∀ i, i < c → psm K c - psm K i ≤ Ph t (T i) l
structure BD (q t n p g m : Int) (T K : Nat → Int) (c : Nat) : Prop where
  bp : BP q t T K c
  ti : ∀ i, i < c → n ≤ T i ∧ T i ≤ m
  pm : p ≤ (m - n) / t
  pi : ∀ i, i < c → (T i - n) / t ≤ p
  ph : ∀ i, i < c → psm K c - psm K i ≤ (p - (T i - n) / t) * q + g
structure BI where
  i : Nat
  m : Int
  y : CR
  p : Int
  g : Int
  T : NR
  K : NR
def bsF2 (q t n : Int) (x : CS) : Fam where
  α := BI
  I w := At n x w.i w.m ∧ (w.y.Ok ∧ QL q w.y.L) ∧ (w.T.len = w.K.len ∧ w.T.len ≤ w.T.cap ∧ w.K.len ≤ w.K.cap ∧ w.T.len ≤ w.i) ∧ (q ≤ 1073741824 ∧ t ≤ 1073741824) ∧ BS q t n w.y.L w.m w.T.f w.K.f w.T.len
  st w := { sl := mkSl 131 [(1, .int .u64 q), (2, .int .u64 t), (3, .int .u64 w.m), (4, x.v 0), (11, p0 1), (13, w.T.v 4), (14, w.K.v 5), (15, .int .i64 w.i)], H := [x.reg] ++ (⟨q, t, n, w.y⟩ : SS).Vr 1 ++ [w.T.reg, w.K.reg] }
  μ w := x.len - w.i
def bdF2 (q t n : Int) (x : CS) : Fam where
  α := BI
  I w := At n x w.i w.m ∧ (⟨q, t, n, w.p, w.g⟩ : DS).Ok ∧ (w.T.len = w.K.len ∧ w.T.len ≤ w.T.cap ∧ w.K.len ≤ w.K.cap ∧ w.T.len ≤ w.i) ∧ (q ≤ 1073741824 ∧ t ≤ 1073741824) ∧ BD q t n w.p w.g w.m w.T.f w.K.f w.T.len
  st w := { sl := mkSl 131 [(1, .int .u64 q), (2, .int .u64 t), (3, .int .u64 w.m), (4, x.v 0), (11, p0 1), (13, w.T.v 3), (14, w.K.v 4), (15, .int .i64 w.i)], H := [x.reg] ++ (⟨q, t, n, w.p, w.g⟩ : DS).Vr 1 ++ [w.T.reg, w.K.reg] }
  μ w := x.len - w.i
structure BO where
  a : Nat
  T : NR
  K : NR
  k : Nat
def boF (q t : Int) (x : CS) : Fam where
  α := BO
  I w := (w.T.len = w.K.len ∧ w.a ≤ w.T.len) ∧ BP q t w.T.f w.K.f w.T.len
  st w := { sl := mkSl 131 [(1, .int .u64 q), (2, .int .u64 t), (13, w.T.v 1), (14, w.K.v 2), (17, .int .i64 w.a)], H := [x.reg, w.T.reg, w.K.reg] }
  μ w := w.T.len - w.a
def biF (q t : Int) (x : CS) (u : Nat × Nat) : Fam where
  α := BO
  I w := w.a = u.1 ∧ w.T.len = u.2 ∧ w.a < w.T.len ∧ (w.T.len = w.K.len ∧ w.a ≤ w.k ∧ w.k ≤ w.T.len) ∧ BP q t w.T.f w.K.f w.T.len
  st w := { sl := mkSl 131 [(1, .int .u64 q), (2, .int .u64 t), (13, w.T.v 1), (14, w.K.v 2), (17, .int .i64 w.a), (18, .int .u64 (psm w.K.f w.k - psm w.K.f w.a)), (19, .int .i64 w.k)], H := [x.reg, w.T.reg, w.K.reg] }
  μ w := w.T.len - w.k
def bsLp (q t n : Int) (x : CS) : Nat → Gam
  | 9 => .l [bsF2 q t n x]
  | 20 => .l [boF q t x]
  | 24 => .g fun u => [biF q t x u]
  | _ => .l []
def bdLp (q t n : Int) (x : CS) : Nat → Gam
  | 9 => .l [bdF2 q t n x]
  | 20 => .l [boF q t x]
  | 24 => .g fun u => [biF q t x u]
  | _ => .l []
end Go.Proofs.Ytokiakcmdbihhaa
