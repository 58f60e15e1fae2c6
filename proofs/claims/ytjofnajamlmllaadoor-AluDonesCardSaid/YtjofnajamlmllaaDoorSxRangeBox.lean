import Derived.RangeFuncNested
import Derived.RangeFuncBound
import Derived.RangeFuncCalls
import Derived.RangeFuncLeaves
import Derived.Shelf.RegionOpen
import Derived.WalkKit
import Derived.OwnWalkIn
namespace Go.Sx
open Go.RowKit

/-- All blocks but some lie as they lay. -/
structure Skip (X : Nat → Prop) (W W' : World) : Prop where
  os : W'.os = W.os
  tape : W'.tape = W.tape
  output : W'.output = W.output
  size : W.heap.size ≤ W'.heap.size
  block : ∀ j, j < W.heap.size → ¬ X j → W'.heap[j]? = W.heap[j]?
theorem Skip.refl (X : Nat → Prop) (W : World) : Skip X W W := ⟨rfl, rfl, rfl, Nat.le_refl _, fun _ _ _ => rfl⟩
theorem Skip.trans {B : Nat → Prop} {X Y Z : World} (h : Skip B X Y) (k : Skip B Y Z) : Skip B X Z :=
  ⟨k.os.trans h.os, k.tape.trans h.tape, k.output.trans h.output, Nat.le_trans h.size k.size, fun j hj hn => (k.block j (Nat.lt_of_lt_of_le hj h.size) hn).trans (h.block j hj hn)⟩
theorem Skip.mono {B C : Nat → Prop} {X Y : World} (h : Skip B X Y) (hs : ∀ j, B j → C j) : Skip C X Y := ⟨h.os, h.tape, h.output, h.size, fun j hj hn => h.block j hj fun hb => hn (hs j hb)⟩
theorem skip_set (W : World) (B : Nat) (v : Value) : Skip (· = B) W (W.setCell ⟨B, 0, none⟩ v) :=
  have h := grownBy_setCell' W B v
  ⟨h.os, h.tape, h.output, h.size, fun j hj hn => h.block j hj (fun e => hn (Option.some.inj e))⟩
theorem skip_put (X : Nat → Prop) (W : World) (r : Nat) (o : Obj) (hx : X r) : Skip X W (W.putObj r o) :=
  ⟨rfl, rfl, rfl, by simp, fun j _ hn => World.putObj_heap_other fun e => hn (e ▸ hx)⟩
theorem skip_alloc (X : Nat → Prop) (W : World) (o : Obj) : Skip X W (W.alloc o) :=
  ⟨rfl, rfl, rfl, by simp, fun j hj _ => Below.heap_alloc _ _ _ hj⟩
theorem skip_below (X : Nat → Prop) {W W' : World} (h : Below W.heap.size W W') : Skip X W W' := ⟨h.os, h.tape, h.output, h.size, fun j hj _ => h.block j hj⟩

/-- How the body of a round may be left. -/
def boxPost {α : Type} (Fx : Nat → Prop) (I : List α → World → Prop) (Ix : Code → List α → World → Prop) (xs : List α) (W : World) : Exit → Act → World → Prop
  | .normal, _, W' => (∀ j, Fx j → W'.heap[j]? = W.heap[j]?) ∧ I xs W'
  | .ret, _, W' => (∀ j, Fx j → W'.heap[j]? = W.heap[j]?) ∧ Ix .ret xs W'
  | .exit id, _, W' => (∀ j, Fx j → W'.heap[j]? = W.heap[j]?) ∧ Ix (.exit id) xs W'
  | .goto t, _, W' => (∀ j, Fx j → W'.heap[j]? = W.heap[j]?) ∧ Ix (.goto t) xs W'
  | .panic _, _, _ => False
  | .outgrown, _, _ => False

/-- What is asked of an iterator that writes its own box B and reads the blocks Fx. -/
def SeqBox {α : Type} (P : Program) (m gf : Nat) (lb : Array Value) (encs : α → Array Value) (xs : List α) (Fx : Nat → Prop) (B : Nat) (w : World) : Prop :=
  ∀ (l : Nat) (J Jx : List α → World → Prop), (∀ pre A A', J pre A → Skip (· = B) A A' → J pre A') → (∀ pre A A', Jx pre A → Skip (· = B) A A' → Jx pre A') →
    (∀ pre x W, (∃ tl, pre ++ x :: tl = xs) → J pre W → YieldAt Fence.wide m P l (encs x) W fun e W' =>
      (e = .returned (.bool true) ∧ J (pre ++ [x]) W' ∧ ∀ j, Fx j → W'.heap[j]? = W.heap[j]?) ∨ (e = .returned (.bool false) ∧ Jx (pre ++ [x]) W')) →
    ∀ W, (∀ j, Fx j → W.heap[j]? = w.heap[j]?) → J [] W →
    CallsIn Fence.wide (m + 1) P gf (#[.func (.yield l) #[] #[]] ++ lb) W fun e W' => (∃ v, e = .returned v) ∧ (J xs W' ∨ ∃ pre tl, pre ++ tl = xs ∧ Jx pre W')

/-- A range over an iterator that writes its own box. -/
theorem rangeFunc_box {α : Type} {P : Program} {m : Nat} {g : Operand} {ps : Array Tmp} {assign body : Code} {Q : Exit → Act → World → Prop} {a : Act} {w : World}
    {gf : Nat} {lb : Array Value} (hg : a.eval g = .func (.func gf) #[] lb) (eg : ∀ args w, (callFunc gf args).run P w = .ok (.enter gf args) w)
    {encs : α → Array Value} {xs : List α} {Fx : Nat → Prop} {B : Nat} (hB : B < w.heap.size) (hFx : ∀ j, Fx j → j < w.heap.size) (hseq : SeqBox P m gf lb encs xs Fx B w)
    (hps : ∀ x, (encs x).size = ps.size)
    (I : List α → World → Prop) (Ix : Code → List α → World → Prop)
    (hI : ∀ pre A A', I pre A → Skip (fun j => j = B ∨ j = w.heap.size ∨ j = w.heap.size + 1) A A' → I pre A') (hIx : ∀ c pre A A', Ix c pre A → Skip (fun j => j = B ∨ j = w.heap.size ∨ j = w.heap.size + 1) A A' → Ix c pre A')
    (h0 : I [] w) (a₁ : α → Act)
    (hassign : ∀ (l : Nat) (x : α) (W : World) (K : Act → World → Prop), K (a₁ x) W →
      assign.wpIn (Fence.wide.inRound l) m P (Exit.then K (fun _ _ _ => False)) { tmps := (ps.zip (encs x)).foldl (fun t (p, v) => t.setIfInBounds p v) a.tmps, defers := [] } W)
    (hbody : ∀ (l : Nat) (pre : List α) (x : α) (W : World), I pre W → w.heap.size + 1 < W.heap.size → (∃ tl, pre ++ x :: tl = xs) →
      body.wpIn (Fence.wide.inRound l) m P (boxPost (fun j => Fx j ∨ j = w.heap.size ∨ j = w.heap.size + 1) I Ix (pre ++ [x]) W) (a₁ x) W)
    (hdone : ∀ (W : World), I xs W → W.heap[w.heap.size]? = some (.deferred (some [])) → Q .normal { a with defers := { target := .collected w.heap.size, args := #[] } :: a.defers } W)
    (hstop : ∀ (c : Code) (pre tl : List α) (W : World), pre ++ tl = xs → Ix c pre W → W.heap[w.heap.size]? = some (.deferred (some [])) →
      c.wpIn Fence.wide (m + 2) P Q { a with defers := { target := .collected w.heap.size, args := #[] } :: a.defers } W) :
    (Code.rangeFunc g ps assign body).wpIn Fence.wide (m + 2) P Q a w := by
  refine wpIn_rangeFunc ?_
  intro fn hfn
  obtain ⟨rec, hrec⟩ : ∃ rec : LoopState → Option Code → Loop, rec = fun st pe => { state := st, pending := pe, fn, tmps := a.tmps, params := ps, assign, body, defers := w.heap.size } := ⟨_, rfl⟩
  obtain ⟨W1, hW1⟩ : ∃ W1, (w.alloc (.deferred (some []))).alloc (.loop (rec .ready none)) = W1 := ⟨_, rfl⟩
  have hL1 : W1.heap[w.heap.size + 1]? = some (.loop (rec .ready none)) := by
    rw [← hW1]; have := World.alloc_heap_new (w.alloc (.deferred (some []))) (.loop (rec .ready none)); rwa [World.size_alloc] at this
  have hK1 : W1.heap[w.heap.size]? = some (.deferred (some [])) := by
    rw [← hW1]; exact (Below.heap_alloc _ _ _ (by simp)).trans (World.alloc_heap_new w _)
  have hs1 : ∀ X, Skip X w W1 := fun X => by rw [← hW1]; exact (skip_alloc X w _).trans (skip_alloc X _ _)
  have hI1 : I [] W1 := hI _ _ _ h0 (hs1 _)
  refine ⟨w.heap.size + 1, [{ target := .collected w.heap.size, args := #[] }], W1, { target := .fn (.func gf) lb, args := #[.func (.yield (w.heap.size + 1)) #[] #[]] }, W1, gf,
    #[.func (.yield (w.heap.size + 1)) #[] #[]] ++ lb, W1, ?_, ?_, ?_, ?_, fun _ => by omega, ?_⟩
  · rw [← hW1, hrec]; exact run_enterLoop_outer _ _ _ _ _
  · simp only [resolve, hg]
    simp [go_sem]
  · intro f' hf'; trivial
  · simp [invoke, go_sem, eg]
  · refine (hseq (w.heap.size + 1)
      (fun pre W => I pre W ∧ W.heap[w.heap.size + 1]? = some (.loop (rec .ready none)) ∧ W.heap[w.heap.size]? = some (.deferred (some [])))
      (fun pre W => ∃ c, Ix c pre W ∧ W.heap[w.heap.size + 1]? = some (.loop (rec .done (some c))) ∧ W.heap[w.heap.size]? = some (.deferred (some [])))
      (fun pre A A' hs hk => ⟨hI _ _ _ hs.1 (hk.mono fun j hj => .inl hj), (hk.block _ (Array.getElem?_eq_some_iff.1 hs.2.1).1 (by omega)).trans hs.2.1, (hk.block _ (Array.getElem?_eq_some_iff.1 hs.2.2).1 (by omega)).trans hs.2.2⟩)
      (fun pre A A' hs hk => by
        obtain ⟨c, hc, h1, h2⟩ := hs
        exact ⟨c, hIx _ _ _ _ hc (hk.mono fun j hj => .inl hj), (hk.block _ (Array.getElem?_eq_some_iff.1 h1).1 (by omega)).trans h1, (hk.block _ (Array.getElem?_eq_some_iff.1 h2).1 (by omega)).trans h2⟩)
      ?_ W1 (fun j hj => (hs1 (fun _ => False)).block j (hFx j hj) id) ⟨hI1, hL1, hK1⟩).mono ?_
    · rintro pre x W htl ⟨hi, hl, hk⟩
      have hlt : w.heap.size + 1 < W.heap.size := (Array.getElem?_eq_some_iff.1 hl).1
      have hy := run_yield (P := P) (args := encs x) hl (by rw [hrec]; exact hps x)
      rw [hrec] at hy
      refine ⟨fn, _, assign, body, hy, roundIn_of_wpIn hfn (hassign _ x W _ ⟨_, run_beginRound hl (by rw [hrec]), ?_⟩)⟩
      have hl2 : (W.putObj (w.heap.size + 1) (.loop { rec .ready none with state := .busy })).heap[w.heap.size + 1]? = some (.loop { rec .ready none with state := .busy }) := World.putObj_heap_same hlt
      have hk2 : (W.putObj (w.heap.size + 1) (.loop { rec .ready none with state := .busy })).heap[w.heap.size]? = some (.deferred (some [])) := (World.putObj_heap_other (by omega)).trans hk
      refine wpIn_mono (hbody _ pre x _ (hI _ _ _ hi (skip_put _ _ _ _ (.inr (.inr rfl)))) (by simpa using hlt) htl) ?_
      have fin : ∀ (jump : Option Code) (W3 : World), (∀ j, (Fx j ∨ j = w.heap.size ∨ j = w.heap.size + 1) → W3.heap[j]? = (W.putObj (w.heap.size + 1) (.loop { rec .ready none with state := .busy })).heap[j]?) →
          (Instr.endRound (w.heap.size + 1) jump).run P W3 = .ok (.bool jump.isNone) (W3.putObj (w.heap.size + 1) (.loop (rec (if jump.isNone then .ready else .done) jump))) ∧
          (W3.putObj (w.heap.size + 1) (.loop (rec (if jump.isNone then .ready else .done) jump))).heap[w.heap.size + 1]? = some (.loop (rec (if jump.isNone then .ready else .done) jump)) ∧
          (W3.putObj (w.heap.size + 1) (.loop (rec (if jump.isNone then .ready else .done) jump))).heap[w.heap.size]? = some (.deferred (some [])) ∧
          ∀ j, Fx j → (W3.putObj (w.heap.size + 1) (.loop (rec (if jump.isNone then .ready else .done) jump))).heap[j]? = W.heap[j]? := fun jump W3 hk3 => by
        have hl3 := (hk3 _ (.inr (.inr rfl))).trans hl2
        have := run_endRound (P := P) jump hl3
        rw [hrec] at this ⊢
        refine ⟨this, World.putObj_heap_same (Array.getElem?_eq_some_iff.1 hl3).1, (World.putObj_heap_other (by omega)).trans ((hk3 _ (.inr (.inl rfl))).trans hk2), fun j hj => ?_⟩
        have h1 := hFx j hj
        exact (World.putObj_heap_other (by omega)).trans ((hk3 j (.inl hj)).trans (World.putObj_heap_other (by omega)))
      rintro e a3 W3 hp
      cases e with
      | normal =>
        obtain ⟨hk3, hi3⟩ := hp
        obtain ⟨hr, hl4, hk4, hf4⟩ := fin none W3 hk3
        exact ⟨_, _, hr, .inl ⟨rfl, ⟨hI _ _ _ hi3 (skip_put _ _ _ _ (.inr (.inr rfl))), hl4, hk4⟩, hf4⟩⟩
      | ret =>
        obtain ⟨hk3, hi3⟩ := hp
        obtain ⟨hr, hl4, hk4, hf4⟩ := fin (some .ret) W3 hk3
        exact ⟨_, _, hr, .inr ⟨rfl, .ret, hIx _ _ _ _ hi3 (skip_put _ _ _ _ (.inr (.inr rfl))), hl4, hk4⟩⟩
      | exit id =>
        obtain ⟨hk3, hi3⟩ := hp
        obtain ⟨hr, hl4, hk4, hf4⟩ := fin (some (.exit id)) W3 hk3
        exact ⟨_, _, hr, .inr ⟨rfl, .exit id, hIx _ _ _ _ hi3 (skip_put _ _ _ _ (.inr (.inr rfl))), hl4, hk4⟩⟩
      | goto t =>
        obtain ⟨hk3, hi3⟩ := hp
        obtain ⟨hr, hl4, hk4, hf4⟩ := fin (some (.goto t)) W3 hk3
        exact ⟨_, _, hr, .inr ⟨rfl, .goto t, hIx _ _ _ _ hi3 (skip_put _ _ _ _ (.inr (.inr rfl))), hl4, hk4⟩⟩
      | panic ch => exact hp.elim
      | outgrown => exact hp.elim
    · rintro e W2 ⟨⟨v, rfl⟩, (⟨hi, hl, hk⟩ | ⟨pre, tl, hpt, c, hi, hl, hk⟩)⟩
      · exact ⟨none, _, by have := run_endLoop (P := P) hl (by rw [hrec]; simp); rw [hrec] at this; exact this, hdone _ (hI _ _ _ hi (skip_put _ _ _ _ (.inr (.inr rfl)))) ((World.putObj_heap_other (by omega)).trans hk)⟩
      · exact ⟨some c, _, by have := run_endLoop (P := P) hl (by rw [hrec]; simp); rw [hrec] at this; exact this, hstop c pre tl _ hpt (hIx _ _ _ _ hi (skip_put _ _ _ _ (.inr (.inr rfl)))) ((World.putObj_heap_other (by omega)).trans hk)⟩

/-- An append to a row of one's own, as an operation. -/
theorem wpIn_append_own {F : Fence} {n : Nat} {P : Program} (w : World) {o : Oper} {a : Act} {K : Act → World → Prop} {Q : Exit → Act → World → Prop}
    (s x : Operand) (t : TypeId) (hop : o.op = Op.call { callee := Callee.builtin Builtin.append, args := #[s, x], argTypes := #[t, t] })
    (base : Nat) (e : TypeId) (i : TypeInfo) (z : Value) (size bytes : Nat) (h1 : P.underlying t = some (.slice e)) (h2 : P.info? e = some i) (h3 : i.zero = some z) (h4 : i.size = size) (h5 : i.bytes = bytes) (h6 : z.cells.size = size) (h7 : 0 < size)
    (v : Value) (k : Nat) (xs : List Value) (hs : a.eval s = v) (hown : w.ownsRow base e size v k xs) (ad : Addr) (m c : Nat) (news : List Value) (hx : a.eval x = .slice (some ad) m c) (hn : news.length = m * size)
    (hc : ∀ j u, news[j]? = some u → w.cell? (ad.add j) = some u) (h1c : ∀ u ∈ news, u.oneCell' = true) (b1 : k + m ≤ maxLen) (b2 : (k + m) * bytes ≤ 140737488355328) (b3 : base ≤ w.heap.size)
    (hK : ∀ v' w', w'.ownsRow base e size v' (k + m) (xs ++ news) → w.grownBy w' v.ownBlock → (v' = .slice none 0 0 ↔ v = .slice none 0 0 ∧ m = 0) → K (a.put o.dst v') w') : o.wpIn F n P a w K Q := by
  obtain ⟨v', w', hrun, r1, r2, r3⟩ := run_append_own (P := P) w base t o.type e i z size bytes h1 h2 h3 h4 h5 h6 h7 v k xs hown ad m c news hn hc h1c b1 b2 b3
  unfold Oper.wpIn
  refine ⟨?_, ?_⟩
  · simp [Oper.about, hop, resolve, Target.leads, Sem.run_pure]
  · rw [Oper.semAt_plain F _ _ (by rw [hop]; intro c hc'; cases hc')]
    simp [execOp, hop, resolve, invoke, builtin, hs, hx, hrun, Result.andThen]
    exact hK v' w' r1 r2 r3
end Go.Sx
