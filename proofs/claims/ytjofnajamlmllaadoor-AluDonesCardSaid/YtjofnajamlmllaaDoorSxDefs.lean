import Derived.WalkKit
import Derived.KernelRfl
import Derived.StillTail
namespace Go.Sx

/-- A step of a path: a field's cells begin at 'o'; element 'j' of a row of elements of 'sz' cells. -/
inductive St where
  | f (o : Nat)
  | x (j sz : Nat)

/-- A value, or a part of memory, as the walk knows it. -/
inductive T where
  | top
  | int (k : IntKind) (n : Int)
  | bool (b : Bool)
  | tt
  | ff
  | str (s : ByteArray)
  | ptr (r i : Nat) (p : List St)
  | nilp
  | slice (r i : Nat) (p : List St) (lo sz len cap : Nat)
  | nils
  | fn (f : FuncId) (caps : T)
  | nilf
  | iface (t : TypeId) (v : T)
  | nili
  | nil
  | cons (h t : T)
  | arr (n sz : Nat) (f : Nat → T)
  | tup (ts : T)
  | raw (v : Value)
  | ite (b : Bool) (x y : T)

structure Reg where
  own : Bool
  pl : Bool
  fam : Nat
  el : TypeId
  tot : Nat → Nat
  c : Nat → T
  log : List (Nat × T) := []

/-! the slots: a tree by the number's bits, and how many there are -/
inductive Tr where
  | nil
  | leaf (t : T)
  | two (l r : Tr)

structure Sl where
  n : Nat
  d : Nat
  t : Tr

def Tr.get : Tr → Nat → Nat → T
  | .nil, _, _ => .top
  | .leaf v, d, k => match d with
    | 0 => match k with
      | 0 => v
      | _ + 1 => .top
    | _ + 1 => .top
  | .two l r, d, k => match d with
    | 0 => .top
    | d + 1 => match Nat.ble (Nat.pow 2 d) k with
      | true => r.get d (Nat.sub k (Nat.pow 2 d))
      | false => l.get d k

def Tr.set (v : T) : Nat → Nat → Tr → Tr
  | 0, k, t => match k with
    | 0 => match t with
      | .two l r => .two l r
      | _ => .leaf v
    | _ + 1 => t
  | d + 1, k, t => match t with
    | .two l r => match Nat.ble (Nat.pow 2 d) k with
      | true => .two l (Tr.set v d (Nat.sub k (Nat.pow 2 d)) r)
      | false => .two (Tr.set v d k l) r
    | .nil => match Nat.ble (Nat.pow 2 d) k with
      | true => .two .nil (Tr.set v d (Nat.sub k (Nat.pow 2 d)) .nil)
      | false => .two (Tr.set v d k .nil) .nil
    | .leaf w => .leaf w

def Sl.get (s : Sl) (k : Nat) : T := match s with
  | ⟨_, d, t⟩ => t.get d k
def Sl.set (s : Sl) (k : Nat) (v : T) : Sl := match s with
  | ⟨n, d, t⟩ => match Nat.ble n k with
    | true => ⟨n, d, t⟩
    | false => ⟨n, d, t.set v d k⟩
def slNew (n : Nat) : Sl := ⟨n, Nat.succ (Nat.log2 n), .nil⟩
def slFill : List T → Nat → Sl → Sl
  | [], _, s => s
  | t :: l, k, s => slFill l (Nat.succ k) (s.set k t)
def slPut : List (Nat × T) → Sl → Sl
  | [], s => s
  | x :: l, s => slPut l (s.set x.1 x.2)
def sl0 : Sl := ⟨0, 0, .nil⟩
def sl1 (v : T) : Sl := ⟨1, 0, .leaf v⟩

structure S where
  sl : Sl
  H : List Reg

def T.isAgg : T → Bool
  | .nil | .cons .. | .arr .. => true
  | .ite _ x _ => x.isAgg
  | _ => false

def T.size : T → Nat
  | .nil => 0
  | .cons h t => h.size + t.size
  | .arr n sz _ => n * sz
  | .ite _ x _ => x.size
  | _ => 1

/-! navigation -/
def T.getF : T → Nat → Option T
  | .cons h t, o => match o with
    | 0 => some h
    | o' + 1 => if h.size ≤ o' + 1 then t.getF (o' + 1 - h.size) else none
  | _, _ => none

def getK (K : T → Prop) : List St → T → Prop
  | [], t => K t
  | .f o :: p, t => match t.getF o with
    | some t' => getK K p t'
    | none => False
  | .x j sz :: p, t => match t with
    | .arr n sz' f => match Nat.beq sz sz' with
      | true => j < n ∧ getK K p (f j)
      | false => False
    | _ => False

def kEq : IntKind → IntKind → Bool
  | .i8, .i8 | .i16, .i16 | .i32, .i32 | .i64, .i64 | .u8, .u8 | .u16, .u16 | .u32, .u32 | .u64, .u64 => true
  | _, _ => false

def T.sel (c : Bool) : T → T → T
  | .int k a, t => match t with
    | .int k' b => match kEq k k' with
      | true => .int k (bif c then a else b)
      | false => .ite c (.int k a) (.int k' b)
    | t => .ite c (.int k a) t
  | .bool a, t => match t with
    | .bool b => .bool (bif c then a else b)
    | .tt => .bool (bif c then a else true)
    | .ff => .bool (bif c then a else false)
    | t => .ite c (.bool a) t
  | .tt, t => match t with
    | .bool b => .bool (bif c then true else b)
    | .tt => .tt
    | .ff => .bool c
    | t => .ite c .tt t
  | .ff, t => match t with
    | .bool b => .bool (bif c then false else b)
    | .tt => .bool (!c)
    | .ff => .ff
    | t => .ite c .ff t
  | .nil, t => match t with
    | .nil => .nil
    | t => .ite c .nil t
  | .nilp, t => match t with
    | .nilp => .nilp
    | t => .ite c .nilp t
  | .str a, t => match t with
    | .str b => .str (bif c then a else b)
    | t => .ite c (.str a) t
  | .cons h t, u => match u with
    | .cons h' t' => match Nat.beq h.size h'.size with
      | true => .cons (h.sel c h') (t.sel c t')
      | false => .ite c (.cons h t) (.cons h' t')
    | u => .ite c (.cons h t) u
  | .arr n sz f, t => match t with
    | .arr n' sz' f' => match Nat.beq n n' && Nat.beq sz sz' with
      | true => .arr n sz (fun j => (f j).sel c (f' j))
      | false => .ite c (.arr n sz f) (.arr n' sz' f')
    | t => .ite c (.arr n sz f) t
  | x, y => .ite c x y

def T.setF : T → Nat → (T → T) → T
  | .cons h t, o, g => match o with
    | 0 => .cons (g h) t
    | o' + 1 => .cons h (t.setF (o' + 1 - h.size) g)
  | t, _, _ => t

def upd (v : T) : List St → T → T
  | [], _ => v
  | .f o :: p, t => t.setF o (upd v p)
  | .x j _ :: p, t => match t with
    | .arr n sz f => .arr n sz (fun j' => T.sel (Nat.beq j' j) (upd v p (f j)) (f j'))
    | t => t

def getReg : List Reg → Nat → Option Reg
  | [], _ => none
  | g :: l, n => match n with
    | 0 => some g
    | n + 1 => getReg l n
def setReg : List Reg → Nat → Reg → List Reg
  | [], _, _ => []
  | g :: l, n, g' => match n with
    | 0 => g' :: l
    | n + 1 => g :: setReg l n g'
def getSl : List T → Nat → T
  | [], _ => .top
  | t :: l, n => match n with
    | 0 => t
    | n + 1 => getSl l n
def setSl : List T → Nat → T → List T
  | [], _, _ => []
  | t :: l, n, v => match n with
    | 0 => v :: l
    | n + 1 => t :: setSl l n v

def T.ofV : Value → T
  | .bool true => .tt
  | .bool false => .ff
  | .int k n => .int k n
  | .string s => .str s
  | .pointer none => .nilp
  | .slice none 0 0 => .nils
  | .nilFunc => .nilf
  | .nilIface => .nili
  | v => .raw v

def S.read (s : S) : Operand → T
  | .tmp t => s.sl.get t
  | .const v => .ofV v
  | .global g => .raw (.pointer (some ⟨g, 0, none⟩))
  | .func f => .fn f .nil

/-- A strict operand. -/
def force (K : T → Prop) : T → Prop
  | .ite b x y => (b = true → force K x) ∧ (b = false → force K y)
  | t => K t

/-- A slice that may be nil. -/
def isNs : T → T → Bool
  | .nils, .slice .. => true
  | _, _ => false

/-- An operand; a slice that may be nil is handed on as it is. -/
def forceP (K : T → Prop) : T → Prop
  | .ite b x y => match isNs x y with
    | true => K (.ite b x y)
    | false => (b = true → forceP K x) ∧ (b = false → forceP K y)
  | t => K t

/-- A strict operand that is asked as if it weren't nil: then it is empty where it is. -/
def forceN (K : T → Prop) : T → Prop
  | .ite b x y => match x, y with
    | .nils, .slice r i p lo sz n c => (b = true → n = 0) ∧ K (.slice r i p lo sz n c)
    | x, y => force K (.ite b x y)
  | t => K t

/-! zero values -/
def zeroT (P : Program) : Nat → TypeId → Option T
  | 0, _ => none
  | d + 1, t => match P.underlying t with
    | some .bool => some .ff
    | some (.int k) => some (.int k 0)
    | some .string => some (.str ByteArray.empty)
    | some (.pointer _) => some .nilp
    | some (.slice _) => some .nils
    | some (.func ..) => some .nilf
    | some (.interface _) => some .nili
    | some (.struct fs) => fs.toList.foldr (fun f acc => acc.bind fun l => (zeroT P d f.type).map fun z => .cons z l) (some .nil)
    | some (.array n e) => (zeroT P d e).map fun z => .arr n (P.cellsOf e) (fun _ => z)
    | _ => none

def fieldOff (P : Program) (s : TypeId) (k : Nat) : Option (Nat × TypeId) :=
  match P.underlying s with
  | some (.struct fs) => match fs.toList[k]? with
    | some f => some (f.offset, f.type)
    | none => none
  | _ => none

/-- The content of a family's member. -/
def regK (K : T → Prop) (c : Nat → T) (i : Nat) : List (Nat × T) → Prop
  | [] => K (c i)
  | (i0, t) :: l => (i = i0 → K t) ∧ (i ≠ i0 → regK K c i l)

def getPtr (H : List Reg) (K : Reg → T → T → Prop) : T → Prop
  | .ptr r i p => match getReg H r with
    | some g => match g.pl with
      | true => match i with
        | 0 => getK (K g (g.c 0)) p (g.c 0)
        | _ => False
      | false => i < g.fam ∧ regK (fun t => getK (K g t) p t) g.c i g.log
    | none => False
  | _ => False

def regSet (g : Reg) (i : Nat) (t : T) : Reg :=
  match g.pl with
  | true => { g with c := fun _ => t }
  | false => { g with log := (i, t) :: g.log }

def storeK (H : List Reg) (v : T) (K : List Reg → Prop) : T → Prop
  | .ptr r i p => getPtr H (fun g t old => match g.own && Nat.beq old.size v.size && !(Nat.beq v.size 0) with
    | true => K (setReg H r (regSet g i (upd v p t)))
    | false => False) (.ptr r i p)
  | _ => False

def newReg (el : TypeId) (t : T) : Reg := { own := true, pl := true, fam := 1, el, tot := fun _ => t.size, c := fun _ => t }

/-! what a call of a Go function comes to -/
inductive R where
  | ret (v : T)
  | pan (v : T)

inductive Out : Type 1 where
  | fail
  | need (p : Prop) (o : Out)
  | br (p : Prop) (a b : Out)
  | retq (v : T)
  | ret (v : T) (H : List Reg)
  | pan (v : T) (H : List Reg)
  | any {α : Type} (p : α → Prop) (o : α → Out)

def Out.wp (q : Bool) (H : List Reg) (K : R → List Reg → Prop) : Out → Prop
  | .fail => False
  | .need p o => p ∧ o.wp q H K
  | .br p a b => match q with
    | true => False
    | false => (p → a.wp q H K) ∧ (¬ p → b.wp q H K)
  | .retq v => K (.ret v) H
  | .ret v H' => match q with
    | true => False
    | false => K (.ret v) H'
  | .pan v H' => match q with
    | true => False
    | false => K (.pan v) H'
  | .any p o => match q with
    | true => False
    | false => ∀ x, p x → (o x).wp q H K

abbrev Sp := List T → List Reg → Out

/-- A family of states: a loop's relation, a cut. -/
structure Fam : Type 1 where
  {α : Type}
  I : α → Prop
  st : α → S
  μ : α → Nat

/-- Families; with what has been, where they need it. -/
inductive Gam : Type 1 where
  | l (f : List Fam)
  | g {γ : Type} (f : γ → List Fam)
  | h (f : List Reg → Gam)

structure Cfg : Type 1 where
  Γ : FuncId → Option Sp
  loops : Nat → Gam := fun _ => .l []
  cuts : Nat → Gam := fun _ => .l []
  hint : Nat → Nat := fun _ => 0
  tails : Nat → Option Nat := fun _ => none
  names : Bool := false
  mode : Nat → Nat := fun _ => 0
  locks : Nat → List Nat := fun _ => []
  louds : Nat → List Nat := fun _ => []
  lows : Bool := false
  left : Bool := false

/-! one state out of another -/
inductive Src where
  | none
  | pl (r : Nat)
  | fam (r : Nat)
  | mem (r i : Nat)
  | gone (r : Nat)

def getSrc : List Src → Nat → Src
  | [], _ => .none
  | x :: l, n => match n with
    | 0 => x
    | n + 1 => getSrc l n
def setSrc : List Src → Nat → Src → List Src
  | [], _, _ => []
  | x :: l, n, y => match n with
    | 0 => y :: l
    | n + 1 => x :: setSrc l n y

def leRef (σ : List Src) (r i r' i' : Nat) : Prop :=
  match getSrc σ r' with
  | .none => False
  | .gone _ => False
  | .pl r0 => match Nat.beq r r0, i, i' with
    | true, 0, 0 => True
    | _, _, _ => False
  | .fam r0 => match Nat.beq r r0 with
    | true => i = i'
    | false => False
  | .mem r0 i0 => match Nat.beq r r0 with
    | true => i = i0
    | false => False

def leP : List St → List St → Prop
  | [], [] => True
  | .f o :: p, .f o' :: p' => match Nat.beq o o' with
    | true => leP p p'
    | false => False
  | .x j sz :: p, .x j' sz' :: p' => match Nat.beq sz sz' with
    | true => j = j' ∧ leP p p'
    | false => False
  | _, _ => False

/-- 't' (what is known) gives 't'' (what is wanted); the wanted one's regions are the known one's by 'σ'. -/
def le (σ : List Src) : T → T → Prop
  | .int k a, t => match t with
    | .int k' b => match kEq k k' with
      | true => a = b
      | false => False
    | _ => False
  | .bool a, t => match t with
    | .bool b => a = b
    | .tt => a = true
    | .ff => a = false
    | _ => False
  | .tt, t => match t with
    | .bool b => b = true
    | .tt => True
    | _ => False
  | .ff, t => match t with
    | .bool b => b = false
    | .ff => True
    | _ => False
  | .str a, t => match t with
    | .str b => a = b
    | _ => False
  | .ptr r i p, t => match t with
    | .ptr r' i' p' => leRef σ r i r' i' ∧ leP p p'
    | _ => False
  | .nilp, t => match t with
    | .nilp => True
    | _ => False
  | .slice r i p lo sz len cap, t => match t with
    | .slice r' i' p' lo' sz' len' cap' => match Nat.beq sz sz' with
      | true => leRef σ r i r' i' ∧ leP p p' ∧ lo = lo' ∧ len = len' ∧ cap = cap'
      | false => False
    | .ite b' .nils (.slice r' i' p' lo' sz' len' cap') => match Nat.beq sz sz' with
      | true => b' = false ∧ leRef σ r i r' i' ∧ leP p p' ∧ lo = lo' ∧ len = len' ∧ cap = cap'
      | false => False
    | _ => False
  | .nils, t => match t with
    | .nils => True
    | .ite b' .nils (.slice ..) => b' = true
    | _ => False
  | .fn f c, t => match t with
    | .fn f' c' => match Nat.beq f f' with
      | true => le σ c c'
      | false => False
    | _ => False
  | .nilf, t => match t with
    | .nilf => True
    | _ => False
  | .iface ty v, t => match t with
    | .iface ty' v' => match Nat.beq ty ty' with
      | true => le σ v v'
      | false => False
    | _ => False
  | .nili, t => match t with
    | .nili => True
    | _ => False
  | .nil, t => match t with
    | .nil => True
    | _ => False
  | .cons h t, u => match u with
    | .cons h' t' => le σ h h' ∧ le σ t t'
    | _ => False
  | .arr n sz f, t => match t with
    | .arr n' sz' f' => match Nat.beq sz sz' with
      | true => n' = n ∧ ∀ j, j < n → le σ (f j) (f' j)
      | false => False
    | _ => False
  | .tup ts, t => match t with
    | .tup ts' => le σ ts ts'
    | _ => False
  | .raw v, t => match t with
    | .raw v' => v = v'
    | _ => False
  | .ite b x y, t => match t with
    | .ite b' u y' => match isNs u y' with
      | false => match Nat.beq u.size y'.size with
        | true => b = b' ∧ (b = true → le σ x u) ∧ (b = false → le σ y y')
        | false => False
      | true => (b = true → le σ x (.ite b' u y')) ∧ (b = false → le σ y (.ite b' u y'))
    | t => (b = true → le σ x t) ∧ (b = false → le σ y t)
  | .top, _ => False

def leSl (σ : List Src) : List T → List T → Prop
  | [], [] => True
  | t :: l, t' :: l' => match t' with
    | .top => leSl σ l l'
    | t' => le σ t t' ∧ leSl σ l l'
  | _, _ => False

def leTr (σ : List Src) (s : Sl) : Tr → Nat → Nat → Prop → Prop
  | .nil, _, _, K => K
  | .leaf v, _, o, K => match v with
    | .top => K
    | v => le σ (s.get o) v ∧ K
  | .two l r, d, o, K => leTr σ s l (Nat.pred d) o (leTr σ s r (Nat.pred d) (Nat.add o (Nat.pow 2 (Nat.pred d))) K)
def leSls (σ : List Src) (s s' : Sl) : Prop := match Nat.beq s'.n s.n with
  | true => leTr σ s s'.t s'.d 0 True
  | false => False

def leReg (σ : List Src) (H : List Reg) (x : Src) (g' : Reg) : Prop :=
  match x with
  | .none => False
  | .gone _ => match g'.pl, g'.own with
    | false, false => g'.fam = 0
    | _, _ => False
  | .pl r => match getReg H r with
    | some g => match g'.pl, g.pl, (!g'.own || g.own), Nat.beq g.el g'.el with
      | true, true, true, true => g'.tot 0 ≤ g.tot 0 ∧ le σ (g.c 0) (g'.c 0)
      | _, _, _, _ => False
    | none => False
  | .fam r => match getReg H r with
    | some g => match g'.pl, g.pl, (!g'.own || g.own), Nat.beq g.el g'.el with
      | false, false, true, true => match g'.log with
        | [] => g'.fam ≤ g.fam ∧ ∀ i, i < g'.fam → g'.tot i ≤ g.tot i ∧ regK (fun t => le σ t (g'.c i)) g.c i g.log
        | _ => False
      | _, _, _, _ => False
    | none => False
  | .mem r i => match getReg H r with
    | some g => match g'.pl, g.pl, (!g'.own || g.own), Nat.beq g.el g'.el with
      | true, false, true, true => i < g.fam ∧ g'.tot 0 ≤ g.tot i ∧ regK (fun t => le σ t (g'.c 0)) g.c i g.log
      | _, _, _, _ => False
    | none => False

def leHs (σ : List Src) (H : List Reg) : List Src → List Reg → Prop
  | [], [] => True
  | x :: l, g :: l' => leReg σ H x g ∧ leHs σ H l l'
  | _, _ => False

/-- What a region holds; of a row that is so marked a part will do. -/
def leC (σ : List Src) (k : Nat) (t t' : T) : Prop :=
  match k with
  | 2 => match t with
    | .arr n sz f => match t' with
      | .arr n' sz' f' => match Nat.beq sz sz' with
        | true => n' ≤ n ∧ ∀ j, j < n' → le σ (f j) (f' j)
        | false => False
      | t' => le σ (.arr n sz f) t'
    | t => le σ t t'
  | _ => le σ t t'
def leRegR (σ : List Src) (H : List Reg) (x : Src) (g' : Reg) : Prop :=
  match x with
  | .pl r => match getReg H r with
    | some g => match g'.pl, g.pl, (!g'.own || g.own), Nat.beq g.el g'.el with
      | true, true, true, true => g'.tot 0 ≤ g.tot 0 ∧ leC σ g'.fam (g.c 0) (g'.c 0)
      | _, _, _, _ => False
    | none => False
  | .none => leReg σ H .none g'
  | .gone r => leReg σ H (.gone r) g'
  | .fam r => leReg σ H (.fam r) g'
  | .mem r i => leReg σ H (.mem r i) g'
def leHsR (σ : List Src) (H : List Reg) : List Src → List Reg → Prop
  | [], [] => True
  | x :: l, g :: l' => leRegR σ H x g ∧ leHsR σ H l l'
  | _, _ => False

/-- No region is named twice. -/
def srcKey : Src → Option Nat
  | .none => none
  | .gone _ => none
  | .pl r | .fam r | .mem r _ => some r
def srcNew (r : Nat) : List Src → Bool
  | [] => true
  | x :: l => match srcKey x with
    | some r' => !(Nat.beq r r') && srcNew r l
    | none => srcNew r l
def srcOk : List Src → Bool
  | [] => true
  | x :: l => match srcKey x with
    | some r => srcNew r l && srcOk l
    | none => false
/-- The same; a dead one comes from nothing. -/
def srcOkG : List Src → Bool
  | [] => true
  | x :: l => match x with
    | .gone _ => srcOkG l
    | x => match srcKey x with
      | some r => srcNew r l && srcOkG l
      | none => false
def ownAt (H : List Reg) (r : Nat) : Bool := match getReg H r with
  | some g => g.own
  | none => false
/-- The first n regions are themselves; what comes behind them is new, or was one's own. -/
def srcHi (H : List Reg) (n0 : Nat) : List Src → Bool
  | [] => true
  | x :: l => (match x with
    | .gone _ => true
    | x => match srcKey x with
      | some r => Nat.ble n0 r || ownAt H r
      | none => false) && srcHi H n0 l
def srcId (H : List Reg) (n0 : Nat) : Nat → Nat → List Src → Bool
  | 0, _, l => srcHi H n0 l
  | n + 1, k, x :: l => (match x, getReg H k with
    | .pl r, some g => Nat.beq r k && g.pl
    | .fam r, some g => Nat.beq r k && !g.pl
    | .gone r, some _ => Nat.beq r k
    | _, _ => false) && srcId H n0 n (k + 1) l
  | _ + 1, _, [] => false

def leS (σ : List Src) (n0 : Nat) (s s' : S) : Prop :=
  match srcOkG σ && srcId s.H n0 n0 0 σ with
  | true => leSls σ s.sl s'.sl ∧ leHsR σ s.H σ s'.H
  | false => False

/-! the renaming, found by looking -/
def isNone : Src → Bool
  | .none => true
  | _ => false
def uniRef (H : List Reg) (r r' : Nat) (σ : List Src) : List Src :=
  match isNone (getSrc σ r') with
  | false => σ
  | true => match getReg H r with
    | some g => setSrc σ r' (match g.pl with
      | true => .pl r
      | false => .fam r)
    | none => σ
def uni (H : List Reg) : T → T → List Src → List Src
  | .ptr r _ _, t, σ => match t with
    | .ptr r' _ _ => uniRef H r r' σ
    | _ => σ
  | .slice r _ _ _ _ _ _, t, σ => match t with
    | .slice r' _ _ _ _ _ _ => uniRef H r r' σ
    | .ite _ _ (.slice r' _ _ _ _ _ _) => uniRef H r r' σ
    | _ => σ
  | .fn _ c, t, σ => match t with
    | .fn _ c' => uni H c c' σ
    | _ => σ
  | .iface _ v, t, σ => match t with
    | .iface _ v' => uni H v v' σ
    | _ => σ
  | .cons h t, u, σ => match u with
    | .cons h' t' => uni H t t' (uni H h h' σ)
    | _ => σ
  | .arr _ _ f, t, σ => match t with
    | .arr _ _ f' => uni H (f 0) (f' 0) σ
    | _ => σ
  | .tup a, t, σ => match t with
    | .tup b => uni H a b σ
    | _ => σ
  | .ite _ x y, t, σ => match t with
    | .ite b' u y' => match isNs u y' with
      | false => uni H y y' (uni H x u σ)
      | true => uni H y (.ite b' u y') (uni H x (.ite b' u y') σ)
    | t => uni H y t (uni H x t σ)
  | _, _, σ => σ
def uniSl (H : List Reg) : List T → List T → List Src → List Src
  | t :: l, t' :: l', σ => uniSl H l l' (uni H t t' σ)
  | _, _, σ => σ
def uniTr (H : List Reg) (s : Sl) : Tr → Nat → Nat → List Src → List Src
  | .nil, _, _, σ => σ
  | .leaf v, _, o, σ => uni H (s.get o) v σ
  | .two l r, d, o, σ => uniTr H s r (Nat.pred d) (Nat.add o (Nat.pow 2 (Nat.pred d))) (uniTr H s l (Nat.pred d) o σ)
def uniH (H : List Reg) : Nat → List Reg → List Src → List Src
  | k, g' :: l, σ => uniH H (k + 1) l (match getSrc σ k with
    | .pl r | .fam r => match getReg H r with
      | some g => uni H (g.c 0) (g'.c 0) σ
      | none => σ
    | _ => σ)
  | _, [], σ => σ
def src0 (H : List Reg) : Nat → Nat → List Reg → List Src
  | _, _, [] => []
  | n, k, g' :: l => (match Nat.beq g'.el 1000003 with
    | true => .gone k
    | false => match Nat.blt k n with
      | true => match getReg H k with
        | some g => (match g.pl with
          | true => .pl k
          | false => .fam k)
        | none => .none
      | false => .none) :: src0 H n (k + 1) l
def uniS (n0 : Nat) (s s' : S) : List Src :=
  let σ := uniTr s.H s.sl s'.sl.t s'.sl.d 0 (src0 s.H n0 0 s'.H)
  uniH s.H 0 s'.H (uniH s.H 0 s'.H σ)
def uniA (n0 : Nat) (args : List T) (H : List Reg) (args' : List T) (H' : List Reg) : List Src :=
  let σ := uniSl H args args' (src0 H n0 0 H')
  uniH H 0 H' (uniH H 0 H' σ)

/-- Out of 's' one of the families' states comes, at a number below 'm'. -/
def famsK (n0 : Nat) (s : S) (m : Option Nat) : List Fam → Prop
  | [] => False
  | f :: l =>
    let here : Prop := ∃ y, f.I y ∧ leS (uniS n0 s (f.st y)) n0 s (f.st y) ∧ (match m with
      | some m => f.μ y < m
      | none => True)
    match l with
    | [] => here
    | l => here ∨ famsK n0 s m l

def famsAll (K : (s : S) → Nat → Prop) : List Fam → Prop
  | [] => True
  | f :: l =>
    let here : Prop := ∀ y, f.I y → K (f.st y) (f.μ y)
    match l with
    | [] => here
    | l => here ∧ famsAll K l

/-! the operations -/
def intBin (op : BinOp) (k : IntKind) (a b : Int) (K : T → Prop) : Prop :=
  match op with
  | .add => K (.int k (k.wrap (a + b)))
  | .sub => K (.int k (k.wrap (a - b)))
  | .mul => K (.int k (k.wrap (a * b)))
  | .quo => b ≠ 0 ∧ K (.int k (k.wrap (a.tdiv b)))
  | .rem => b ≠ 0 ∧ K (.int k (a.tmod b))
  | .and => K (.int k (bits .and k a b))
  | .or => K (.int k (bits .or k a b))
  | .xor => K (.int k (bits .xor k a b))
  | .andNot => K (.int k (bits .andNot k a b))
  | .shl => 0 ≤ b ∧ K (.int k (k.wrap (a * 2 ^ (min b.toNat k.bits))))
  | .shr => 0 ≤ b ∧ K (.int k (a.fdiv (2 ^ (min b.toNat k.bits))))
  | .eql => K (.bool (a == b))
  | .neq => K (.bool (a != b))
  | .lss => K (.bool (decide (a < b)))
  | .leq => K (.bool (decide (a ≤ b)))
  | .gtr => K (.bool (decide (a > b)))
  | .geq => K (.bool (decide (a ≥ b)))

def T.notb : T → Option T
  | .tt => some .ff
  | .ff => some .tt
  | .bool b => some (.bool (!b))
  | _ => none

def isShift : BinOp → Bool
  | .shl | .shr => true
  | _ => false

def binT (ty : Option TypeDesc) (op : BinOp) (K : T → Prop) : T → T → Prop
  | .int k a, .int k' b => match isShift op || kEq k k' with
    | true => intBin op k a b K
    | false => False
  | .nilp, .nilp => match op, ty with
    | .eql, some (.pointer _) => K .tt
    | .neq, some (.pointer _) => K .ff
    | _, _ => False
  | .ptr _ _ _, .nilp => match op, ty with
    | .eql, some (.pointer _) => K .ff
    | .neq, some (.pointer _) => K .tt
    | _, _ => False
  | .nils, .nils => match op, ty with
    | .eql, some (.slice _) => K .tt
    | .neq, some (.slice _) => K .ff
    | _, _ => False
  | .slice .., .nils => match op, ty with
    | .eql, some (.slice _) => K .ff
    | .neq, some (.slice _) => K .tt
    | _, _ => False
  | .str a, .str b => match op with
    | .add => a.size + b.size ≤ 9223372036854775807 ∧ K (.str (a ++ b))
    | .eql => K (.bool (decide (a = b)))
    | .neq => K (.bool (!(decide (a = b))))
    | _ => False
  | _, _ => False

def argsT (s : S) (xs : Array Operand) : List T := xs.toList.map s.read

def noTop : List T → Bool
  | [] => true
  | .top :: _ => false
  | .raw _ :: _ => false
  | .tup _ :: _ => false
  | _ :: l => noTop l

def callK (q : Bool) (Γ : FuncId → Option Sp) (f : FuncId) (args : List T) (H : List Reg) (K : R → List Reg → Prop) : Prop :=
  match noTop args with
  | true => match Γ f with
    | some sp => (sp args H).wp q H K
    | none => False
  | false => False

def intOf : T → Option Int
  | .int _ n => some n
  | _ => none

def tupGet : T → Nat → Option T
  | .cons h t, n => match n with
    | 0 => some h
    | n + 1 => tupGet t n
  | _, _ => none

def capsL : T → List T
  | .cons h t => h :: capsL t
  | _ => []

def isL : T → Bool
  | .nil => true
  | .cons _ t => isL t
  | _ => false

/-- May it be laid into memory? -/
def storable : T → Bool
  | .top => false
  | .tup _ => false
  | .raw _ => false
  | .cons h t => storable h && storable t
  | .ite _ x y => storable x && storable y && Nat.beq x.size y.size
  | _ => true

/-- The value of 'zeroT' is the table's. -/
def matchCells : T → List Value → Option (List Value)
  | .int k n, l => match l with
    | .int k' n' :: r => match kEq k k' && decide (n = n') with
      | true => some r
      | false => none
    | _ => none
  | .ff, l => match l with
    | .bool false :: r => some r
    | _ => none
  | .str s, l => match l with
    | .string s' :: r => match decide (s.size = 0) && decide (s'.size = 0) with
      | true => some r
      | false => none
    | _ => none
  | .nilp, l => match l with
    | .pointer none :: r => some r
    | _ => none
  | .nils, l => match l with
    | .slice none 0 0 :: r => some r
    | _ => none
  | .nilf, l => match l with
    | .nilFunc :: r => some r
    | _ => none
  | .nili, l => match l with
    | .nilIface :: r => some r
    | _ => none
  | .nil, l => some l
  | .cons h t, l => (matchCells h l).bind (matchCells t)
  | .arr n sz f, l => (List.range n).foldl (fun acc j => acc.bind fun l => match Nat.beq (f j).size sz with
    | true => matchCells (f j) l
    | false => none) (some l)
  | _, _ => none

def zeroOf (P : Program) (t : TypeId) : Option T :=
  match zeroT P 20 t, P.info? t with
  | some z, some i => match i.zero with
    | some v => match matchCells z v.cells.toList with
      | some [] => match Nat.beq z.size i.size with
        | true => some z
        | false => none
      | _ => none
    | none => none
  | _, _ => none

def setParts (s : S) (off : Nat → Option (Nat × Nat)) : List (Nat × Operand) → T → Option T
  | [], acc => some acc
  | (i, x) :: l, acc => match off i with
    | some (o, sz) => match acc.getF o with
      | some old => match Nat.beq old.size sz && Nat.beq (s.read x).size sz && storable (s.read x) with
        | true => setParts s off l (acc.setF o (fun _ => s.read x))
        | false => none
      | none => none
    | none => none

/-- Elements written out, as a row: the last one stands for all behind it. -/
def rowOf : Nat → List T → Nat → T
  | _, [], _ => .top
  | k, t :: l, j => match l with
    | [] => t
    | l => T.sel (Nat.beq j k) t (rowOf (k + 1) l j)

/-- The same; of no elements a row of noughts. -/
def rowZ (z : T) : List T → Nat → T
  | [] => fun _ => z
  | t :: l => rowOf 0 (t :: l)
def setElems (s : S) (n sz : Nat) : List (Nat × Operand) → List T → Option (List T)
  | [], l => some l
  | (i, x) :: ps, l => match Nat.blt i n && Nat.beq (s.read x).size sz && storable (s.read x) with
    | true => setElems s n sz ps (setSl l i (s.read x))
    | false => none

def repT (z : T) : Nat → List T
  | 0 => []
  | n + 1 => z :: repT z n

def infoAll (P : Program) : List Field → Bool
  | [] => true
  | f :: l => (P.info? f.type).isSome && infoAll P l

def aggFits (P : Program) (t : TypeId) (x : Bool) : Bool :=
  match P.underlying t with
  | some (.struct _) | some (.array _ _) => x
  | some _ => !x
  | none => false

/-- What is found fits a variable of the type. -/
def fitsT (P : Program) (ty : TypeId) (t : T) : Bool := (match t with
  | .top => false
  | .tup _ => false
  | .raw _ => false
  | .ite _ x y => isNs x y
  | _ => true) && aggFits P ty t.isAgg && Nat.beq t.size (P.cellsOf ty)

def boolOf : T → Option Bool
  | .tt => some true
  | .ff => some false
  | .bool b => some b
  | _ => none
def eqFs (P : Program) (eq : TypeId → T → T → Option Bool) (x y : T) : List Field → Option Bool
  | [] => some true
  | f :: l => match decide (f.name = "_") with
    | true => eqFs P eq x y l
    | false => match x.getF f.offset, y.getF f.offset with
      | some u, some v => match fitsT P f.type u && fitsT P f.type v with
        | true => match eq f.type u v, eqFs P eq x y l with
          | some a, some b => some (a && b)
          | _, _ => none
        | false => none
      | _, _ => none
/-- The same, of two arrays. -/
def eqAr (P : Program) (eq : TypeId → T → T → Option Bool) (e : TypeId) (f g : Nat → T) : List Nat → Option Bool
  | [] => some true
  | i :: l => match fitsT P e (f i) && fitsT P e (g i) with
    | true => match eq e (f i) (g i), eqAr P eq e f g l with
      | some a, some b => some (a && b)
      | _, _ => none
    | false => none
/-- Are they equal? -/
def eqT (P : Program) : Nat → TypeId → T → T → Option Bool
  | 0, _, _, _ => none
  | d + 1, ty, x, y => match P.underlying ty with
    | some (.int _) => match x, y with
      | .int k a, .int k' b => match kEq k k' with
        | true => some (a == b)
        | false => none
      | _, _ => none
    | some .bool => match boolOf x, boolOf y with
      | some a, some b => some (a == b)
      | _, _ => none
    | some (.struct fs) => match P.stoodInHeld ty with
      | false => match x, y with
        | .cons _ _, .cons _ _ => eqFs P (eqT P d) x y fs.toList
        | _, _ => none
      | true => none
    | some (.array n e) => match x, y with
      | .arr n1 sz1 f, .arr n2 sz2 g => match Nat.beq n n1 && Nat.beq n n2 && Nat.beq sz1 (P.cellsOf e) && Nat.beq sz2 (P.cellsOf e) && (P.info? e).isSome with
        | true => eqAr P (eqT P d) e f g (List.range n)
        | false => none
      | _, _ => none
    | _ => none
def eqKind : T → Bool
  | .cons _ _ | .tt | .ff | .bool _ => true
  | _ => false
def binQ (P : Program) (ty : TypeId) (op : BinOp) (K : T → Prop) (a b : T) : Prop := match eqKind a, op with
  | true, .eql => match P.eqGuardType P.depth ty, eqT P 12 ty a b with
    | false, some r => K (.bool r)
    | _, _ => False
  | true, .neq => match P.eqGuardType P.depth ty, eqT P 12 ty a b with
    | false, some r => K (.bool (!r))
    | _, _ => False
  | true, _ => False
  | false, _ => binT (P.underlying ty) op K a b

def loadK (P : Program) (H : List Reg) (ty : TypeId) (K : T → Prop) : T → Prop :=
  force (getPtr H (fun _ _ t => forceP (fun t => match fitsT P ty t with
    | true => K t
    | false => False) t))

def boundOf : Option T → Option (Option Int)
  | none => some none
  | some t => match intOf t with
    | some j => some (some j)
    | none => none

def sliceOp (P : Program) (t : TypeId) (K : T → Prop) (x : T) (lo hi mx : Option T) : Prop :=
  match boundOf lo, boundOf hi, boundOf mx with
  | some l, some h, some m => match x, P.underlying t with
    | .slice r i p lo0 sz n cap, some (.slice e) => match Nat.beq sz (P.cellsOf e) && !(Nat.beq sz 0) with
      | true => match l, h, m with
        | none, none, none => K (.slice r i p lo0 sz n cap)
        | none, some h, none => (0 ≤ h ∧ h ≤ (cap : Int)) ∧ K (.slice r i p lo0 sz h.toNat cap)
        | some l, none, none => (0 ≤ l ∧ l ≤ (n : Int)) ∧ K (.slice r i p (if cap = l.toNat then lo0 else lo0 + l.toNat) sz (n - l.toNat) (cap - l.toNat))
        | some l, some h, none => ((0 ≤ h ∧ h ≤ (cap : Int)) ∧ (0 ≤ l ∧ l ≤ h)) ∧ K (.slice r i p (if cap = l.toNat then lo0 else lo0 + l.toNat) sz (h.toNat - l.toNat) (cap - l.toNat))
        | none, some h, some m => ((0 ≤ m ∧ m ≤ (cap : Int)) ∧ (0 ≤ h ∧ h ≤ m)) ∧ K (.slice r i p lo0 sz h.toNat m.toNat)
        | _, _, _ => False
      | false => False
    | .nils, some (.slice e) => match Nat.beq (P.cellsOf e) 0 with
      | false => match l, h, m with
        | none, none, none => K .nils
        | none, some h, none => h = 0 ∧ K .nils
        | some l, none, none => l = 0 ∧ K .nils
        | some l, some h, none => (h = 0 ∧ l = 0) ∧ K .nils
        | none, some h, some m => (m = 0 ∧ h = 0) ∧ K .nils
        | _, _, _ => False
      | true => False
    | .ptr r i p, some (.array n e) => match Nat.beq (P.cellsOf e) 0 with
      | false => match l, h, m with
        | none, none, none => K (.slice r i p 0 (P.cellsOf e) n n)
        | _, _, _ => False
      | true => False
    | .str s, some .string => match l, h, m with
      | none, none, none => K (.str (s.extract 0 s.size))
      | none, some h, none => (0 ≤ h ∧ h ≤ (s.size : Int)) ∧ K (.str (s.extract 0 h.toNat))
      | some l, none, none => (0 ≤ l ∧ l ≤ (s.size : Int)) ∧ K (.str (s.extract l.toNat s.size))
      | some l, some h, none => ((0 ≤ h ∧ h ≤ (s.size : Int)) ∧ (0 ≤ l ∧ l ≤ h)) ∧ K (.str (s.extract l.toNat h.toNat))
      | _, _, _ => False
    | _, _ => False
  | _, _, _ => False

def zb : Option (Option Int) → Prop
  | some (some j) => j = 0
  | _ => True
/-- A piece of a slice that may be nil. -/
def sliceOpN (P : Program) (t : TypeId) (K : T → Prop) (x : T) (lo hi mx : Option T) : Prop :=
  match x with
  | .ite b .nils (.slice r i p lo0 sz n cap) => (b = true → zb (boundOf lo) ∧ zb (boundOf hi) ∧ zb (boundOf mx)) ∧
      sliceOp P t (fun u => match u with
        | .slice r i p lo0 sz n cap => K (.ite b .nils (.slice r i p lo0 sz n cap))
        | _ => False) (.slice r i p lo0 sz n cap) lo hi mx
  | x => force (fun x => sliceOp P t K x lo hi mx) x

/-- The function behind a method of a type. -/
def methOf (P : Program) (t : TypeId) (name : String) : Option FuncId :=
  match P.info? t with
  | some i => match i.methods.find? (·.name == name) with
    | some m => match m.path.toList, m.func, P.underlying t with
      | [], some (f, true), some (.pointer _) => some f
      | [], some (_, false), some (.pointer _) => none
      | [], some (f, false), some _ => some f
      | _, _, _ => none
    | none => none
  | none => none

def byteAt (s : ByteArray) (j : Nat) : Int := ((s.data.getD j 0).toNat : Int)

/-! append: the old row dies, a new one comes -/
def dead : Reg := { own := false, pl := false, fam := 0, el := 1000003, tot := fun _ => 0, c := fun _ => .top }
def rowLike : TypeDesc → Bool
  | .slice _ | .string => true
  | _ => false
/-- A row that is read: how long it is, its elements. -/
def srcRow (H : List Reg) (sz : Nat) (K : Nat → (Nat → T) → Prop) : T → Prop
  | .nils => K 0 (fun _ => .arr sz 1 (fun _ => .top))
  | .slice r i p lo sz' m _ => match Nat.beq sz sz' with
    | true => getPtr H (fun _ _ t => match t with
      | .arr N sz2 f => match Nat.beq sz sz2 with
        | true => lo + m ≤ N ∧ K m (fun j => f (lo + j))
        | false => False
      | _ => False) (.ptr r i p)
    | false => False
  | .str b => match Nat.beq sz 1 with
    | true => K b.size (fun j => .int .u8 (byteAt b j))
    | false => False
  | .ite b .nils (.slice r i p lo sz' m _) => match Nat.beq sz sz' with
    | true => (b = true → m = 0) ∧ getPtr H (fun _ _ t => match t with
      | .arr N sz2 f => match Nat.beq sz sz2 with
        | true => lo + m ≤ N ∧ K m (fun j => f (lo + j))
        | false => False
      | _ => False) (.ptr r i p)
    | false => False
  | _ => False
def rowReg (e n sz cap : Nat) (f : Nat → T) : Reg := { own := true, pl := true, fam := 1, el := e, tot := fun _ => cap * sz, c := fun _ => .arr n sz f }
def appK (P : Program) (H : List Reg) (e sz m : Nat) (src : Nat → T) (K : R → List Reg → Prop) : T → Prop
  | .nils => (m = 0 → K (.ret .nils) H) ∧ (m ≠ 0 → m * P.bytesOf e ≤ 140737488355328 ∧ m ≤ 9223372036854775807 ∧
      ∀ cap : Nat, m ≤ cap → K (.ret (.slice H.length 0 [] 0 sz m cap)) (H ++ [rowReg e m sz cap src]))
  | .slice r i [] lo sz' n cap => match i, getReg H r with
    | 0, some g => match g.pl && g.own && Nat.beq g.el e && Nat.beq sz sz', g.c 0 with
      | true, .arr N sz2 f => match Nat.beq sz sz2 with
        | true => (lo = 0 ∧ n ≤ N ∧ n ≤ cap ∧ cap * sz ≤ g.tot 0 ∧ (n + m) * P.bytesOf e ≤ 140737488355328 ∧ n + m ≤ 9223372036854775807 ∧ (∀ j, (f j).size = sz) ∧ ∀ j, (src j).size = sz) ∧
          ∀ cap' : Nat, n + m ≤ cap' → K (.ret (.slice H.length 0 [] 0 sz (n + m) cap')) (setReg H r dead ++ [rowReg e (n + m) sz cap' (fun j => .ite (Nat.blt j n) (f j) (src (j - n)))])
        | false => False
      | _, _ => False
    | _, _ => False
  | _ => False

/-- What is appended: a row, or so many noughts. -/
def srcAny (d : TypeDesc) (H : List Reg) (z : T) (K : Nat → (Nat → T) → Prop) (y : T) : Prop :=
  match d with
  | .int _ => match intOf y with
    | some j => (0 ≤ j ∧ j ≤ 9223372036854775807) ∧ K j.toNat (fun _ => z)
    | none => False
  | d => match rowLike d with
    | true => srcRow H z.size K y
    | false => False
/-- Some elements of an owned row are written anew. -/
def putRow (H : List Reg) (sz r lo k : Nat) (src : Nat → T) (K : List Reg → Prop) : Prop :=
  match getReg H r with
  | some g => match g.pl && g.own, g.c 0 with
    | true, .arr N sz2 f => match Nat.beq sz sz2 with
      | true => (lo ≤ N ∧ (lo + k) * sz ≤ g.tot 0 ∧ (∀ j, (f j).size = sz) ∧ ∀ j, (src j).size = sz) ∧
          K (setReg H r (regSet g 0 (.arr (if N ≤ lo + k then lo + k else N) sz (fun j => .ite (Nat.blt j lo) (f j) (.ite (Nat.blt j (lo + k)) (src (j - lo)) (f j))))))
      | false => False
    | _, _ => False
  | none => False
/-- append, to a slice that begins anywhere in its row: in its place, or to a new row. -/
def appL (P : Program) (H : List Reg) (e sz m : Nat) (src : Nat → T) (K : R → List Reg → Prop) : T → Prop
  | .nils => (m = 0 → K (.ret .nils) H) ∧ (m ≠ 0 → m * P.bytesOf e ≤ 140737488355328 ∧ m ≤ 9223372036854775807 ∧
      ∀ cap : Nat, m ≤ cap → K (.ret (.slice H.length 0 [] 0 sz m cap)) (H ++ [rowReg e m sz cap src]))
  | .slice r i [] lo sz' n cap => match i, getReg H r with
    | 0, some g => match g.pl && g.own && Nat.beq sz sz', g.c 0 with
      | true, .arr N sz2 f => match Nat.beq sz sz2 with
        | true => (n + m ≤ cap → m * P.bytesOf e ≤ 281474976710656 ∧ putRow H sz r (lo + n) m src (fun H => K (.ret (.slice r 0 [] lo sz (n + m) cap)) H)) ∧
          (cap < n + m → (lo + n ≤ N ∧ (n + m) * P.bytesOf e ≤ 140737488355328 ∧ n + m ≤ 9223372036854775807 ∧ (∀ j, (f j).size = sz) ∧ ∀ j, (src j).size = sz) ∧
          ∀ cap' : Nat, n + m ≤ cap' → K (.ret (.slice H.length 0 [] 0 sz (n + m) cap')) (H ++ [rowReg e (n + m) sz cap' (fun j => .ite (Nat.blt j n) (f (lo + j)) (src (j - n)))]))
        | false => False
      | _, _ => False
    | _, _ => False
  | _ => False
def srcPart (H : List Reg) (sz k : Nat) (K : (Nat → T) → Prop) : T → Prop
  | .slice r i p lo sz' _ _ => match Nat.beq sz sz' with
    | true => getPtr H (fun _ _ t => match t with
      | .arr N sz2 f => match Nat.beq sz sz2 with
        | true => lo + k ≤ N ∧ K (fun j => f (lo + j))
        | false => False
      | _ => False) (.ptr r i p)
    | false => False
  | _ => False
/-- copy -/
def cpyK (H : List Reg) (cs : Nat) (K : R → List Reg → Prop) : T → T → Prop
  | .slice r i p lo sz n _, .slice r' i' p' lo' sz' m cap' => match i, p, Nat.beq sz cs && !(Nat.beq sz 0) with
    | 0, [], true => srcPart H sz (if m < n then m else n) (fun src => putRow H sz r lo (if m < n then m else n) src
        (fun H => K (.ret (.int .i64 ((if m < n then m else n : Nat) : Int))) H)) (.slice r' i' p' lo' sz' m cap')
    | _, _, _ => False
  | _, _ => False
/-- clear -/
def clrK (H : List Reg) (z : T) (K : R → List Reg → Prop) : T → Prop
  | .slice r i p lo sz n _ => match i, p, Nat.beq sz z.size && !(Nat.beq sz 0) with
    | 0, [], true => putRow H sz r lo n (fun _ => z) (fun H => K (.ret (.tup .nil)) H)
    | _, _, _ => False
  | _ => False

/-- A number gets a name. -/
def nameK (b : Bool) (K : T → Prop) : T → Prop
  | .int k n => match b with
    | true => ∀ v, v = n → K (.int k v)
    | false => K (.int k n)
  | t => K t

def opK (P : Program) (C : Cfg) (q : Bool) (s : S) (K : R → List Reg → Prop) (o : Oper) : Prop :=
  let ok (t : T) : Prop := K (.ret t) s.H
  match o.op with
  | .move x => ok (s.read x)
  | .assign x => nameK C.names ok (s.read x)
  | .pick c a b => force (fun c => match c with
    | .tt => ok (s.read a)
    | .ff => ok (s.read b)
    | .bool x => (x = true → ok (s.read a)) ∧ (x = false → ok (s.read b))
    | _ => False) (s.read c)
  | .alloc t => match q, zeroOf P t with
    | false, some z => K (.ret (.ptr s.H.length 0 [])) (s.H ++ [newReg t z])
    | _, _ => False
  | .box t x => match q, storable (s.read x) with
    | false, true => K (.ret (.ptr s.H.length 0 [])) (s.H ++ [newReg t (s.read x)])
    | _, _ => False
  | .build t parts => match zeroOf P t, P.underlying t with
    | some z, some (.struct fs) => match infoAll P fs.toList with
      | true => match setParts s (fun i => fs.toList[i]?.map fun f => (f.offset, P.cellsOf f.type)) parts.toList z with
        | some v => match v with
          | .cons h t => ok (.cons h t)
          | .nil => ok .nil
          | _ => False
        | none => False
      | false => False
    | some z, some (.array n e) => match z with
      | .arr n' sz f => match Nat.beq n n' && Nat.beq sz (P.cellsOf e) && !(Nat.beq sz 0) with
        | true => match setElems s n sz parts.toList ((List.range n).map f) with
          | some l => ok (.arr n sz (rowOf 0 l))
          | none => False
        | false => False
      | _ => False
    | _, _ => False
  | .buildSlice t n parts => match q, P.underlying t with
    | false, some (.slice e) => match zeroOf P e with
      | some z => match !(Nat.beq z.size 0) && Nat.ble (n * z.size) 16777216, setElems s n z.size parts.toList (repT z n) with
        | true, some l => K (.ret (.slice s.H.length 0 [] 0 z.size n n))
            (s.H ++ [{ own := true, pl := true, fam := 1, el := e, tot := fun _ => n * z.size, c := fun _ => .arr n z.size (rowZ z l) }])
        | _, _ => False
      | none => False
    | _, _ => False
  | .load t a => loadK P s.H t ok (s.read a)
  | .store t a v => match q, storable (s.read v) && Nat.beq (s.read v).size (P.cellsOf t) with
    | false, true => force (fun a => storeK s.H (s.read v) (fun H => K (.ret (.tup .nil)) H) a) (s.read a)
    | _, _ => False
  | .nilCheck x => force (fun t => match t with
    | .ptr r i p => ok (.ptr r i p)
    | .fn f c => ok (.fn f c)
    | .iface t v => ok (.iface t v)
    | _ => False) (s.read x)
  | .binOp op t x y _ => force (fun a => force (fun b => binQ P t op ok a b) (s.read y)) (s.read x)
  | .unOp op _ x => force (fun t => match op with
    | .not => match t.notb with
      | some t' => ok t'
      | none => False
    | .neg => match t with
      | .int k n => ok (.int k (k.wrap (0 - n)))
      | _ => False
    | .xor => match t with
      | .int k n => ok (.int k (bits .xor k (if k.signed then -1 else k.max) n))
      | _ => False
    | .plus => False) (s.read x)
  | .convert src d x => force (fun t => match P.underlying src, P.underlying d, t with
    | some (.int _), some (.int k), .int _ n => ok (.int k (k.wrap n))
    | _, _, _ => False) (s.read x)
  | .makeInterface t x => match P.underlying t with
    | some (.interface _) => False
    | some _ => match noTop [s.read x] with
      | true => ok (.iface t (s.read x))
      | false => False
    | none => False
  | .makeFunc fn first caps => match fn, first.toList, noTop (argsT s caps) with
    | .func f, [], true => ok (.fn f ((argsT s caps).foldr .cons .nil))
    | _, _, _ => False
  | .fieldAddr st x k => force (fun t => match t, fieldOff P st k with
    | .ptr r i p, some (o, ty) => match Nat.beq (P.cellsOf ty) 0 with
      | false => ok (.ptr r i (p ++ [.f o]))
      | true => False
    | _, _ => False) (s.read x)
  | .indexAddr t x ix => forceN (fun v => force (fun j => match intOf j with
    | some j => match v, P.underlying t with
      | .slice r i p lo sz n _, some (.slice e) => match Nat.beq sz (P.cellsOf e) && !(Nat.beq sz 0) with
        | true => (0 ≤ j ∧ j < (n : Int)) ∧ ok (.ptr r i (p ++ [.x (lo + j.toNat) sz]))
        | false => False
      | .ptr r i p, some (.array n e) => match Nat.beq (P.cellsOf e) 0 with
        | false => (0 ≤ j ∧ j < (n : Int)) ∧ ok (.ptr r i (p ++ [.x j.toNat (P.cellsOf e)]))
        | true => False
      | _, _ => False
    | none => False) (s.read ix)) (s.read x)
  | .field st x k => force (fun t => match fieldOff P st k with
    | some (o, ty) => match t.getF o with
      | some u => forceP (fun u => match fitsT P ty u with
        | true => ok u
        | false => False) u
      | none => False
    | none => False) (s.read x)
  | .index t x ix => force (fun v => force (fun j => match intOf j with
    | some j => match v, P.underlying t with
      | .arr n sz f, some (.array n' e) => match Nat.beq n n' && Nat.beq sz (P.cellsOf e) with
        | true => (0 ≤ j ∧ j < (n : Int)) ∧ forceP (fun u => match fitsT P e u with
          | true => ok u
          | false => False) (f j.toNat)
        | false => False
      | .str s, some .string => (0 ≤ j ∧ j < (s.size : Int)) ∧ ok (.int .u8 (byteAt s j.toNat))
      | _, _ => False
    | none => False) (s.read ix)) (s.read x)
  | .extract x k => force (fun t => match t with
    | .tup ts => match tupGet ts k with
      | some u => ok u
      | none => False
    | _ => False) (s.read x)
  | .slice t x lo hi mx => sliceOpN P t ok (s.read x) (lo.map s.read) (hi.map s.read) (mx.map s.read)
  | .makeSlice t l c => force (fun l => force (fun c => match intOf l, intOf c, P.underlying t, q with
    | some l, some c, some (.slice e), false => match zeroOf P e with
      | some z => match Nat.beq z.size 0 with
       | true => False
       | false => (0 ≤ l ∧ l ≤ c ∧ c ≤ 9223372036854775807 ∧ P.bytesOf e * c ≤ 281474976710656) ∧
        K (.ret (.slice s.H.length 0 [] 0 z.size l.toNat c.toNat))
          (s.H ++ [{ own := true, pl := true, fam := 1, el := e, tot := fun _ => c.toNat * z.size, c := fun _ => .arr c.toNat z.size (fun _ => z) }])
      | none => False
    | _, _, _, _ => False) (s.read c)) (s.read l)
  | .call c => match c.callee with
    | .builtin b => match b, c.args.toList with
      | .len, [x] => forceN (fun t => match t, (c.argTypes.toList[0]?).bind P.underlying with
        | .slice _ _ _ _ _ n _, some (.slice _) => ok (.int .i64 n)
        | .nils, some (.slice _) => ok (.int .i64 0)
        | .str b, some .string => ok (.int .i64 b.size)
        | _, some (.array n _) => ok (.int .i64 n)
        | _, _ => False) (s.read x)
      | .cap, [x] => force (fun t => match t, (c.argTypes.toList[0]?).bind P.underlying with
        | .slice _ _ _ _ _ _ n, some (.slice _) => ok (.int .i64 n)
        | .nils, some (.slice _) => ok (.int .i64 0)
        | _, _ => False) (s.read x)
      | .append, [x, y] => match q, c.argTypes.toList with
        | false, [t1, t2] => match P.underlying t1, P.underlying t2 with
          | some (.slice e), some d => match C.lows with
            | false => match rowLike d, zeroOf P e with
              | true, some z => match Nat.beq z.size 0 with
                | true => False
                | false => force (fun x => forceP (fun y => srcRow s.H z.size (fun m src => appK P s.H e z.size m src K x) y) (s.read y)) (s.read x)
              | _, _ => False
            | true => match zeroOf P e with
              | some z => match Nat.beq z.size 0 with
                | true => False
                | false => force (fun x => forceP (fun y => srcAny d s.H z (fun m src => appL P s.H e z.size m src K x) y) (s.read y)) (s.read x)
              | none => False
          | _, _ => False
        | _, _ => False
      | .copy, [x, y] => match q, (c.argTypes.toList[0]?).bind P.underlying with
        | false, some (.slice e) => force (fun x => force (fun y => cpyK s.H (P.cellsOf e) K x y) (s.read y)) (s.read x)
        | _, _ => False
      | .clear, [x] => match q, (c.argTypes.toList[0]?).bind P.underlying with
        | false, some (.slice e) => match zeroOf P e with
          | some z => force (fun x => clrK s.H z K x) (s.read x)
          | none => False
        | _, _ => False
      | .min, [x, y] => force (fun a => force (fun b => match a, b with
        | .int k a, .int _ b => ok (.int k (if b < a then b else a))
        | _, _ => False) (s.read y)) (s.read x)
      | .max, [x, y] => force (fun a => force (fun b => match a, b with
        | .int k a, .int _ b => ok (.int k (if a < b then b else a))
        | _, _ => False) (s.read y)) (s.read x)
      | _, _ => False
    | .value f => force (fun t => match t with
      | .fn f caps => match isL caps && noTop (argsT s c.args) with
        | true => callK q C.Γ f (argsT s c.args ++ capsL caps) s.H K
        | false => False
      | _ => False) (s.read f)
    | .invoke x name => force (fun t => match t with
      | .iface ty v => match methOf P ty name, noTop (argsT s c.args) with
        | some f, true => callK q C.Γ f (v :: argsT s c.args) s.H K
        | _, _ => False
      | _ => False) (s.read x)
  | _ => False

def S.put (s : S) (d : Option Tmp) (v : T) (H : List Reg) : S :=
  match d with
  | some d => { sl := s.sl.set d v, H }
  | none => { s with H }

/-- How a piece of code ends. -/
inductive X where
  | normal
  | exit (i : Nat)
  | ret
  | pan (v : T)

def opsK (P : Program) (C : Cfg) (q : Bool) (all : List Oper) (K : X → S → Prop) : List Oper → S → Prop
  | [], s => K .normal s
  | o :: rest, s =>
    let go (s : S) : Prop := opK P C q s (fun r H => match r with
      | .ret v => opsK P C q all K rest (s.put o.dst v H)
      | .pan v => K (.pan v) { s with H }) o
    let skip (s : S) : Prop := opsK P C q all K rest (s.put o.dst (.tup .nil) s.H)
    match o.guard with
    | none => go s
    | some (j, w) => match all[j]? with
      | some oj => match oj.dst with
        | some d => match s.sl.get d, w with
          | .tt, true | .ff, false => go s
          | .tt, false | .ff, true => skip s
          | .bool b, true => (b = true → go { s with sl := s.sl.set d .tt }) ∧ (b = false → skip { s with sl := s.sl.set d .ff })
          | .bool b, false => (b = true → skip { s with sl := s.sl.set d .tt }) ∧ (b = false → go { s with sl := s.sl.set d .ff })
          | .tup _, _ => skip s
          | _, _ => False
        | none => False
      | none => False

/-- It leaves the world alone, and calls nothing. -/
def isStill : Op → Bool
  | .move _ | .assign _ | .pick .. | .build .. | .load .. | .nilCheck _ | .binOp .. | .unOp .. | .convert .. | .makeInterface .. | .makeFunc .. | .slice .. | .fieldAddr .. | .field .. | .indexAddr .. | .index .. | .extract .. => true
  | .call c => match c.callee with
    | .builtin .len | .builtin .cap | .builtin .min | .builtin .max => true
    | _ => false
  | _ => false

def memN (k : Nat) : List Nat → Bool
  | [] => false
  | n :: l => Nat.beq n k || memN k l
/-- The same, but for those that are to be taken as loud ones. -/
def stl (L : List Nat) (i : Nat) (o : Oper) : Bool := isStill o.op && !(memN i L)
def stillAt (L : List Nat) (ops : Array Oper) (i : Nat) : Bool := match ops[i]? with
  | some o => stl L i o
  | none => false

/-- The orders: what leaves the world alone comes as early as it may; of the others each that is ready may come. -/
inductive MT where
  | done
  | one (i : Nat) (t : MT)
  | both (a b : MT)
def mtAll : List (Option MT) → Option MT
  | [] => some .done
  | x :: l => match l with
    | [] => x
    | l => match x, mtAll l with
      | some a, some b => some (.both a b)
      | _, _ => none
def mixOrder (L : List Nat) (ops : Array Oper) : Nat → Array Bool → Option MT
  | 0, listed => match Region.ready .any ops listed with
    | [] => some .done
    | _ => none
  | f + 1, listed =>
    let r := Region.ready .any ops listed
    match r.find? (stillAt L ops) with
    | some i => match Region.free .any ops listed i with
      | true => (mixOrder L ops f (listed.setIfInBounds i true)).map (.one i)
      | false => none
    | none => mtAll (r.map fun i => (mixOrder L ops f (listed.setIfInBounds i true)).map (.one i))

/-! a region in whatever order: some regions of the heap are locked while it runs -/
def lockH (l : List Nat) : Nat → List Reg → List Reg
  | _, [] => []
  | k, g :: H => (match memN k l with
    | true => { g with own := false }
    | false => g) :: lockH l (k + 1) H
def unlockH (l : List Nat) : Nat → List Reg → List Reg → List Reg
  | _, [], H => H
  | _, _ :: _, [] => []
  | k, g0 :: H0, g :: H => (match memN k l with
    | true => { g with own := g0.own, el := g0.el, tot := g0.tot }
    | false => g) :: unlockH l (k + 1) H0 H
/-- What stays while the region runs: what is not owned where it begins. -/
def stH : List Reg → List Reg → List Reg
  | _, [] => []
  | [], _ :: H => dead :: stH [] H
  | g0 :: H0, g :: H => (match g0.own with
    | true => dead
    | false => g) :: stH H0 H

def opsMK (P : Program) (C : Cfg) (L : List Nat) (H0 : List Reg) (all : List Oper) (K : X → S → Prop) : MT → S → Prop
  | .done, s => K .normal s
  | .both a b, s => opsMK P C L H0 all K a s ∧ opsMK P C L H0 all K b s
  | .one i rest, s => match all[i]? with
    | none => False
    | some o =>
      let go (s : S) : Prop := match stl L i o with
        | true => opK P C true { s with H := stH H0 s.H } (fun r _ => match r with
          | .ret v => opsMK P C L H0 all K rest (s.put o.dst v s.H)
          | .pan _ => False) o
        | false => opK P C false s (fun r H => match r with
          | .ret v => opsMK P C L H0 all K rest (s.put o.dst v H)
          | .pan _ => False) o
      let skip (s : S) : Prop := opsMK P C L H0 all K rest (s.put o.dst (.tup .nil) s.H)
      match o.guard with
      | none => go s
      | some (j, w) => match all[j]? with
        | some oj => match oj.dst with
          | some d => match s.sl.get d, w with
            | .tt, true | .ff, false => go s
            | .tt, false | .ff, true => skip s
            | .bool b, true => (b = true → go { s with sl := s.sl.set d .tt }) ∧ (b = false → skip { s with sl := s.sl.set d .ff })
            | .bool b, false => (b = true → skip { s with sl := s.sl.set d .tt }) ∧ (b = false → go { s with sl := s.sl.set d .ff })
            | .tup _, _ => skip s
            | _, _ => False
          | none => False
        | none => False

/-- A number from 1000 on counts from the heap's end. -/
def lockL (l : List Nat) (n : Nat) : List Nat := l.map fun i => match Nat.ble 1000 i with
  | true => n - 1 - (i - 1000)
  | false => i
def firstId : Code → Option Nat
  | .region id _ _ => some id
  | .seq a b => (firstId a).orElse fun _ => firstId b
  | .block _ b | .loop b | .scope b => firstId b
  | .cond _ x y => (firstId x).orElse fun _ => firstId y
  | _ => none

def tabOf (t : Nat → Gam) : Option Nat → Gam
  | some n => t n
  | none => .l []
/-- Families that are told by the heap where the piece begins. -/
def Gam.at (g : Gam) (H : List Reg) : Gam := match g with
  | .h f => f H
  | .l f => .l f
  | .g f => .g f
/-- The same code, its pieces put together from the left: a cut's continuation is then reckoned once. -/
def app1 : Option Code → Code → Code
  | none, c => c
  | some a, c => .seq a c
def la : Code → Option Code → Code
  | .seq x y, acc => la y (some (la x acc))
  | .block id b, acc => app1 acc (.block id (la b none))
  | .loop b, acc => app1 acc (.loop (la b none))
  | .scope b, acc => app1 acc (.scope (la b none))
  | .cond c x y, acc => app1 acc (.cond c (la x none) (la y none))
  | c, acc => app1 acc c
def laB (b : Bool) (c : Code) : Code := match b with
  | true => la c none
  | false => c

def isLoud : Op → Bool
  | .store .. | .alloc .. | .box .. | .buildSlice .. | .makeSlice .. => true
  | _ => false
def firstLoud : List Oper → Nat
  | [] => 0
  | o :: l => match isLoud o.op with
    | true => 0
    | false => firstLoud l + 1
/-- Where the forced end of a region begins. -/
def tailAt (C : Cfg) (id : Nat) (ops : Array Oper) : Nat := match C.tails id with
  | some n => n
  | none => firstLoud ops.toList

/-- How a region in whatever order is walked: 0: it is quiet; 1: quiet operations anywhere, the others in one order; 2: a quiet head, then one order. -/
def modeAt (C : Cfg) (id : Nat) (ops : Array Oper) : Nat := match C.mode id with
  | 0 => match Nat.beq (firstLoud ops.toList) ops.size with
    | true => 0
    | false => 2
  | n => n

def codeK (P : Program) (C : Cfg) (n0 : Nat) : Code → (X → S → Prop) → S → Prop
  | .skip, K, s => K .normal s
  | .region _ ops false, K, s => opsK P C false ops.toList K ops.toList s
  | .region id ops true, K, s => match P.follows .mixedOrders, modeAt C id ops with
    | true, 0 => match Region.lexB .any ops with
      | true => opsK P C true ops.toList K ops.toList s
      | false => False
    | true, 1 => match Region.noSelect ops, mixOrder (C.louds id) ops ops.size (Array.replicate ops.size false) with
      | true, some l => opsMK P C (C.louds id) (lockH (lockL (C.locks id) s.H.length) 0 s.H) ops.toList (fun x s' => K x { s' with H := unlockH (lockL (C.locks id) s.H.length) 0 s.H s'.H }) l { s with H := lockH (lockL (C.locks id) s.H.length) 0 s.H }
      | _, _ => False
    | true, 2 => match Region.lexTailB .any ops (tailAt C id ops) with
      | true => opsK P C true ops.toList (fun x s => match x with
        | .normal => opsK P C false ops.toList K (ops.toList.drop (tailAt C id ops)) s
        | _ => False) (ops.toList.take (tailAt C id ops)) s
      | false => False
    | _, _ => False
  | .seq a b, K, s => match (tabOf C.cuts (firstId b)).at s.H with
    | .l [] => codeK P C n0 a (fun e s => match e with
      | .normal => codeK P C n0 b K s
      | e => K e s) s
    | .l fams => codeK P C n0 a (fun e s => match e with
      | .normal => famsK n0 s none fams
      | e => K e s) s ∧ famsAll (fun s _ => codeK P C n0 b K s) fams
    | .g f => ∃ g, codeK P C n0 a (fun e s => match e with
      | .normal => famsK n0 s none (f g)
      | e => K e s) s ∧ famsAll (fun s _ => codeK P C n0 b K s) (f g)
    | .h _ => False
  | .cond c x y, K, s => force (fun t => match t with
    | .tt => codeK P C n0 x K s
    | .ff => codeK P C n0 y K s
    | .bool b => (b = true → codeK P C n0 x K s) ∧ (b = false → codeK P C n0 y K s)
    | _ => False) (s.read c)
  | .block id b, K, s => codeK P C n0 b (fun e s => match e with
    | .exit i => match Nat.beq i id with
      | true => K .normal s
      | false => K (.exit i) s
    | e => K e s) s
  | .loop b, K, s => match (tabOf C.loops (firstId b)).at s.H with
    | .l fams => famsK n0 s none fams ∧
      famsAll (fun s m => codeK P C n0 b (fun e s => match e with
        | .normal => famsK n0 s (some m) fams
        | e => K e s) s) fams
    | .g f => ∃ g, famsK n0 s none (f g) ∧
      famsAll (fun s m => codeK P C n0 b (fun e s => match e with
        | .normal => famsK n0 s (some m) (f g)
        | e => K e s) s) (f g)
    | .h _ => False
  | .exit id, K, s => K (.exit id) s
  | .scope b, K, s => codeK P C n0 b K s
  | .label _, K, s => K .normal s
  | .ret, K, s => K .ret s
  | _, _, _ => False

def resOne (P : Program) (s : S) (K : T → Prop) : ResultVar → Prop
  | .tmp t => match noTop [s.sl.get t] with
    | true => K ((s.sl.get t))
    | false => False
  | .cell a t => loadK P s.H t K (s.sl.get a)

def resL (P : Program) (s : S) : List ResultVar → (T → Prop) → Prop
  | [], K => K .nil
  | v :: l, K => resOne P s (fun t => resL P s l (fun ts => K (.cons t ts))) v

def resT (P : Program) (s : S) (l : List ResultVar) (K : T → Prop) : Prop :=
  match l with
  | [v] => resOne P s K v
  | l => resL P s l (fun ts => K (.tup ts))

def fnK (P : Program) (C : Cfg) (fn : Func) (args : List T) (H : List Reg) (K : R → List Reg → Prop) : Prop :=
  match fn.body, Nat.ble args.length fn.ntmps with
  | some c, true => codeK P C H.length (laB C.left c) (fun e s => match e with
    | .ret | .normal => resT P s fn.results.toList (fun t => K (.ret t) s.H)
    | .pan v => K (.pan v) s.H
    | _ => False) { sl := slFill args 0 (slNew fn.ntmps), H }
  | _, _ => False

/-- The end: what is known gives what is told. -/
def fin (n0 : Nat) (r : R) (H : List Reg) (r' : R) (H' : List Reg) : Prop :=
  match r, r' with
  | .ret v, .ret v' => le (uniS n0 ⟨sl1 v, H⟩ ⟨sl1 v', H'⟩) v v' ∧ leS (uniS n0 ⟨sl1 v, H⟩ ⟨sl1 v', H'⟩) n0 ⟨sl0, H⟩ ⟨sl0, H'⟩
  | .pan v, .pan v' => le (uniS n0 ⟨sl1 v, H⟩ ⟨sl1 v', H'⟩) v v' ∧ leS (uniS n0 ⟨sl1 v, H⟩ ⟨sl1 v', H'⟩) n0 ⟨sl0, H⟩ ⟨sl0, H'⟩
  | _, _ => False

end Go.Sx
