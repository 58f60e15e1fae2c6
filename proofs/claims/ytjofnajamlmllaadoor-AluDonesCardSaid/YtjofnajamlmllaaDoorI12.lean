import Derived.Test.YtjofnajamlmllaaDoorI11
open Go Go.Sx Go.Proofs
set_option maxRecDepth 100000
namespace Go.Proofs.YtjofnajamlmllaaDoor
open Go.RowKit Go.Shelf Go.Isa
attribute [local go_sem] Oper.semAt_some

/-- A line that says nothing. -/
def skipL (l : List UInt8) : Bool := l == [] || l.head? == some 35
noncomputable def okL (l : List UInt8) : Bool := skipL l || readB l
def bytes4 (v : Int) : List Int := (List.range 4).map (byteF fun _ => v)
/-- The bytes of lines. -/
noncomputable def asmL : List (List UInt8) → List Int
  | [] => []
  | l :: r => (if skipL l then [] else bytes4 (encV (readX l))) ++ asmL r
theorem asmL_snoc (r : List (List UInt8)) (l : List UInt8) : asmL (r ++ [l]) = asmL r ++ (if skipL l then [] else bytes4 (encV (readX l))) := by
  induction r with
  | nil => simp [asmL]
  | cons a r ih => rw [List.cons_append, asmL, ih, asmL, List.append_assoc]
theorem asmL_len : ∀ r : List (List UInt8), (asmL r).length ≤ 4 * r.length
  | [] => by simp [asmL]
  | l :: r => by
    have := asmL_len r
    rw [asmL, List.length_append, List.length_cons]
    split
    · simp only [List.length_nil]; omega
    · have : (bytes4 (encV (readX l))).length = 4 := by simp [bytes4]
      omega
def u8s (l : List Int) : List Value := l.map fun n => .int .u8 n
noncomputable def AsmI (w0 : World) (pre : List (List UInt8)) (W : World) : Prop :=
  (∃ v, Boxed W (w0.heap.size + 3) 36 v ∧ W.ownsRow (w0.heap.size + 10) 5 1 v (asmL pre).length (u8s (asmL pre)) ∧ (v = .slice none 0 0 ↔ asmL pre = [])) ∧
  Boxed W (w0.heap.size + 4) 3 (.int .i64 pre.length) ∧ Boxed W w0.heap.size 36 (.slice none 0 0) ∧ Boxed W (w0.heap.size + 1) 3 (.int .i64 0) ∧ Boxed W (w0.heap.size + 2) 50 (.int .i64 0) ∧
  Below w0.heap.size w0 W ∧ ∀ l ∈ pre, okL l = true
noncomputable def AsmX (w0 : World) (c : Code) (pre : List (List UInt8)) (W : World) : Prop :=
  c = .ret ∧ Boxed W w0.heap.size 36 (.slice none 0 0) ∧ Boxed W (w0.heap.size + 1) 3 (.int .i64 pre.length) ∧ Boxed W (w0.heap.size + 2) 50 (.int .i64 10) ∧
  Below w0.heap.size w0 W ∧ ∃ p x, pre = p ++ [x] ∧ (∀ l ∈ p, okL l = true) ∧ okL x = false
theorem skip_boxed {X : Nat → Prop} {W W' : World} {B : Nat} {t : TypeId} {v : Value} (h : Boxed W B t v) (hs : Skip X W W') (hx : ¬ X B) : Boxed W' B t v := (hs.block B h.lt hx).trans h
theorem skip_row {X : Nat → Prop} {W W' : World} {base n size : Nat} {e : TypeId} {v : Value} {xs : List Value} (h : W.ownsRow base e size v n xs) (hs : Skip X W W') (hx : ∀ j, base ≤ j → ¬ X j) : W'.ownsRow base e size v n xs := by
  refine ⟨h.1, ?_⟩
  rcases h.2 with h2 | ⟨g, cap, cur, e1, hb, hg, rest⟩
  · exact .inl h2
  · exact .inr ⟨g, cap, cur, e1, hb, (hs.block g (Array.getElem?_eq_some_iff.1 hg).1 (hx g hb)).trans hg, rest⟩
theorem skip_belowN {X : Nat → Prop} {n : Nat} {w W W' : World} (h : Below n w W) (hn : n ≤ W.heap.size) (hs : Skip X W W') (hx : ∀ j, j < n → ¬ X j) : Below n w W' :=
  ⟨hs.os.trans h.os, hs.tape.trans h.tape, hs.output.trans h.output, Nat.le_trans h.size hs.size, fun b hb => (hs.block b (by omega) (hx b hb)).trans (h.block b hb)⟩
theorem row_mono {W : World} {b b' n size : Nat} {e : TypeId} {v : Value} {xs : List Value} (h : W.ownsRow b e size v n xs) (hb : b' ≤ b) : W.ownsRow b' e size v n xs := by
  refine ⟨h.1, ?_⟩
  rcases h.2 with h2 | ⟨g, cap, cur, e1, hb2, rest⟩
  · exact .inl h2
  · exact .inr ⟨g, cap, cur, e1, Nat.le_trans hb hb2, rest⟩
theorem row_slice {W : World} {b n size : Nat} {e : TypeId} {v : Value} {xs : List Value} (h : W.ownsRow b e size v n xs) : ∃ p n c, v = .slice p n c := by
  rcases h.2 with ⟨e, _⟩ | ⟨g, cap, cur, e, _⟩
  · exact ⟨_, _, _, e⟩
  · exact ⟨_, _, _, e⟩
theorem AsmI.skip {w0 W W' : World} {pre : List (List UInt8)} (h : AsmI w0 pre W) (hs : Skip (fun j => j = w0.heap.size + 5 ∨ j = w0.heap.size + 8 ∨ j = w0.heap.size + 9) W W') : AsmI w0 pre W' := by
  obtain ⟨⟨v, h1, h2, h3⟩, h4, h5, h6, h7, h8, h9⟩ := h
  exact ⟨⟨v, skip_boxed h1 hs (by omega), skip_row h2 hs (fun j hj => by omega), h3⟩, skip_boxed h4 hs (by omega), skip_boxed h5 hs (by omega), skip_boxed h6 hs (by omega), skip_boxed h7 hs (by omega), skip_belowN h8 (by have := h8.size; omega) hs (fun j hj => by omega), h9⟩
theorem AsmX.skip {w0 W W' : World} {c : Code} {pre : List (List UInt8)} (h : AsmX w0 c pre W) (hs : Skip (fun j => j = w0.heap.size + 5 ∨ j = w0.heap.size + 8 ∨ j = w0.heap.size + 9) W W') : AsmX w0 c pre W' := by
  obtain ⟨h0, h5, h6, h7, h8, h9⟩ := h
  exact ⟨h0, skip_boxed h5 hs (by omega), skip_boxed h6 hs (by omega), skip_boxed h7 hs (by omega), skip_belowN h8 (by have := h8.size; omega) hs (fun j hj => by omega), h9⟩

theorem bs_isE0 : (bs []).toList.isEmpty = true := by
  decide +kernel
theorem bs_isE (b : UInt8) (t : List UInt8) : (bs (b :: t)).toList.isEmpty = false := by
  have h : (bs (b :: t)).toList = b :: t := by
    rw [Lib.toList_data]
    rfl
  rw [h]; rfl
theorem bs_tl0 : ((bs []).toList = []) = True := by
  rw [Lib.toList_data]
  simp [bs]
theorem bs_tl (b : UInt8) (t : List UInt8) : ((bs (b :: t)).toList = []) = False := by
  rw [Lib.toList_data]
  simp [bs]
theorem bs_get0 (b : UInt8) (t : List UInt8) (h : 0 < (bs (b :: t)).size) : (bs (b :: t))[0]'h = b := rfl
theorem app_at (a b : Array Obj) (k : Nat) : (a ++ b)[a.size + k]? = b[k]? := by
  rw [Array.getElem?_append_right (by omega), Nat.add_sub_cancel_left]
theorem asm_res (W : World) (B : Nat) (tmps : Array Value) (v : Value) {a b : Value} (_ : v.cells.size = 1) (h0 : Boxed W B 36 v) (h1 : Boxed W (B + 1) 3 a) (h2 : Boxed W (B + 2) 50 b)
    (e0 : tmps.getD 2 undef = .pointer (some ⟨B, 0, none⟩)) (e1 : tmps.getD 3 undef = .pointer (some ⟨B + 1, 0, none⟩)) (e2 : tmps.getD 4 undef = .pointer (some ⟨B + 2, 0, none⟩)) :
    (results Tryd.f17 tmps).run Tryd.prog W = .ok (.tuple #[v, a, b]) W := by
  refine results_runL (vs := [v, a, b]) ?_ (by simp)
  have c0 := h0.cell
  have c1 := h1.cell
  have c2 := h2.cell
  show (List.mapM (resSem tmps) [.cell 2 36, .cell 3 3, .cell 4 50]).run Tryd.prog W = _
  simp only [List.mapM_cons, List.mapM_nil, resSem, e0, e1, e2]
  go_simp
theorem Tryd.info_u8 : (Tryd.prog.info? 5).map (fun i => (i.zero, i.size, i.bytes)) = some (some (.int .u8 0), 1, 1) := by kernel_rfl
theorem new4 {W : World} {bb : Nat} {e : Int} (h : ∀ j, j < 4 → W.cell? ⟨bb, j, none⟩ = some (.int .u8 (byteF (fun _ => e) j))) : ∀ j u, (u8s (bytes4 e))[j]? = some u → W.cell? ((⟨bb, 0, none⟩ : Addr).add j) = some u := by
  intro j u hj
  have hl : j < 4 := by
    have := (List.getElem?_eq_some_iff.1 hj).1
    simpa [u8s, bytes4] using this
  have e1 : (⟨bb, 0, none⟩ : Addr).add j = ⟨bb, j, none⟩ := by
    simp [Addr.add]
    exact fun h => h.symm
  rw [e1, h j hl, ← hj]
  simp only [u8s, bytes4, List.map_map, List.getElem?_map, List.getElem?_range hl, Option.map_some, Function.comp]
set_option maxHeartbeats 8000000 in
theorem asm_calls (s : ByteArray) (hs : s.size ≤ 1048576) (hpre : ∀ l ∈ pieces 10 s.data.toList, skipL l = true ∨ PreRead l) (w0 : World) (hG : GW w0) :
    CallsIn Fence.wide 9 Tryd.prog 17 #[.string s] w0 fun e w' => ∃ v n c, e = .returned (.tuple #[v, .int .i64 n, .int .i64 c]) ∧ Below w0.heap.size w0 w' ∧
      ((c = 0 ∧ n = 0 ∧ (∀ l ∈ pieces 10 s.data.toList, okL l = true) ∧ w'.ownsRow w0.heap.size 5 1 v (asmL (pieces 10 s.data.toList)).length (u8s (asmL (pieces 10 s.data.toList))) ∧ (v = .slice none 0 0 ↔ asmL (pieces 10 s.data.toList) = [])) ∨
       (c = 10 ∧ v = .slice none 0 0 ∧ ∃ p x tl, pieces 10 s.data.toList = p ++ x :: tl ∧ n = p.length + 1 ∧ (∀ l ∈ p, okL l = true) ∧ okL x = false)) := by
  have hglt := hG.lt
  refine callsIn_of_wp_marks Tryd.func17 rfl trivial ?_ rfl
  simp only [Tryd.ntmps17, List.size_toArray, List.length_cons, List.length_nil, Nat.reduceAdd, Nat.reduceSub, Array.replicate_succ, Array.replicate_zero, List.push_toArray, List.append_toArray, List.nil_append, List.cons_append]
  gi_wp2_with (refine ⟨trivial, ?_⟩; gi_at_call 23; refine (callsIn_wide.2 (splitSeq_calls s ⟨#[10]⟩ _)).mono ?_; rintro e w' ⟨rfl, rfl⟩)
  simp only [Nat.add_assoc, Nat.reduceAdd]
  obtain ⟨W, hW⟩ : ∃ W, ((((((((w0.alloc (Obj.cells #[Value.slice none 0 0] 36)).alloc (Obj.cells #[Value.int IntKind.i64 0] 3)).alloc (Obj.cells #[Value.int IntKind.i64 0] 50)).alloc (Obj.cells #[Value.slice none 0 0] 36)).alloc (Obj.cells #[Value.int IntKind.i64 0] 3)).alloc (Obj.cells #[Value.string s] 9)).alloc (Obj.cells #[Value.string { data := #[10] }] 9)).alloc (Obj.cells #[Value.int IntKind.i64 0] 3)) = W := ⟨_, rfl⟩
  have hh : W.heap = ((((((((w0.heap.push (.cells #[.slice none 0 0] 36 (0, 0))).push (.cells #[.int .i64 0] 3 (0, 0))).push (.cells #[.int .i64 0] 50 (0, 0))).push (.cells #[.slice none 0 0] 36 (0, 0))).push (.cells #[.int .i64 0] 3 (0, 0))).push (.cells #[.string s] 9 (0, 0))).push (.cells #[.string ⟨#[10]⟩] 9 (0, 0))).push (.cells #[.int .i64 0] 3 (0, 0))) := by rw [← hW]; rfl
  have ha : W.heap = w0.heap ++ (#[Obj.cells #[.slice none 0 0] 36 (0, 0), Obj.cells #[.int .i64 0] 3 (0, 0), Obj.cells #[.int .i64 0] 50 (0, 0), Obj.cells #[.slice none 0 0] 36 (0, 0), Obj.cells #[.int .i64 0] 3 (0, 0), Obj.cells #[.string s] 9 (0, 0), Obj.cells #[.string ⟨#[10]⟩] 9 (0, 0), Obj.cells #[.int .i64 0] 3 (0, 0)] : Array Obj) := by rw [hh]; apply Array.ext'; simp
  have hsz : W.heap.size = w0.heap.size + 8 := by rw [hh]; simp only [Array.size_push]
  have b0 : Boxed W w0.heap.size 36 (.slice none 0 0) := by unfold Boxed; rw [ha, ← Nat.add_zero w0.heap.size, app_at]; rfl
  have b1 : Boxed W (w0.heap.size + 1) 3 (.int .i64 0) := by unfold Boxed; rw [ha, app_at]; rfl
  have b2 : Boxed W (w0.heap.size + 2) 50 (.int .i64 0) := by unfold Boxed; rw [ha, app_at]; rfl
  have b3 : Boxed W (w0.heap.size + 3) 36 (.slice none 0 0) := by unfold Boxed; rw [ha, app_at]; rfl
  have b4 : Boxed W (w0.heap.size + 4) 3 (.int .i64 0) := by unfold Boxed; rw [ha, app_at]; rfl
  have b5 : Boxed W (w0.heap.size + 5) 9 (.string s) := by unfold Boxed; rw [ha, app_at]; rfl
  have b6 : Boxed W (w0.heap.size + 6) 9 (.string ⟨#[10]⟩) := by unfold Boxed; rw [ha, app_at]; rfl
  have b7 : Boxed W (w0.heap.size + 7) 3 (.int .i64 0) := by unfold Boxed; rw [ha, app_at]; rfl
  have hB : Below w0.heap.size w0 W := by
    rw [← hW]
    have q : ∀ {X : World} (o : Obj), Below w0.heap.size w0 X → Below w0.heap.size w0 (X.alloc o) := fun {X} o h => h.alloc h.size o
    exact q _ (q _ (q _ (q _ (q _ (q _ (q _ (q _ (Below.refl _ w0))))))))
  rw [hW]
  clear hW hh ha
  refine rangeFunc_box (m := 7) (gf := 38) (lb := #[.pointer (some ⟨w0.heap.size + 6, 0, none⟩), .pointer (some ⟨w0.heap.size + 5, 0, none⟩), .pointer (some ⟨w0.heap.size + 7, 0, none⟩)]) (xs := pieces 10 s.data.toList)
    (Fx := fun j => j = w0.heap.size + 5 ∨ j = w0.heap.size + 6 ∨ j = w0.heap.size + 7) (B := w0.heap.size + 5) rfl (enters_of Tryd.func38 (by kernel_rfl) rfl) (by omega) (fun j hj => by omega)
    (splitSeq1_box 7 (w0.heap.size + 6) (w0.heap.size + 5) (w0.heap.size + 7) s (by omega) (by omega) (by omega) W b5 b6 b7) (fun _ => rfl) (AsmI w0) (AsmX w0)
    (fun pre A A' h hk => h.skip (hk.mono fun j hj => by omega)) (fun c pre A A' h hk => h.skip (hk.mono fun j hj => by omega))
    ⟨⟨_, b3, World.ownsRow_nil _ _ _ _, by simp [asmL]⟩, b4, b0, b1, b2, hB, fun _ h => nomatch h⟩
    (fun x => { tmps := #[.string s, undef, .pointer (some ⟨w0.heap.size, 0, none⟩), .pointer (some ⟨w0.heap.size + 1, 0, none⟩), .pointer (some ⟨w0.heap.size + 2, 0, none⟩), .pointer (some ⟨w0.heap.size + 3, 0, none⟩), .pointer (some ⟨w0.heap.size + 4, 0, none⟩), .string (bs x), undef, undef, undef, undef, .string s, .int .i64 s.size, .bool (decide (1048576 < (s.size : Int))), .string s, .func (.func 38) #[] #[.pointer (some ⟨w0.heap.size + 6, 0, none⟩), .pointer (some ⟨w0.heap.size + 5, 0, none⟩), .pointer (some ⟨w0.heap.size + 7, 0, none⟩)], .string (bs x), undef, undef, undef, undef, undef, undef, undef, undef, undef, undef, undef, undef, undef, undef, undef, undef, undef, undef, undef, undef, undef, undef, undef, undef, undef, undef, undef, undef], defers := [] })
    ?assign ?body ?done ?stop
  case assign =>
    rintro l x W K hK
    gi_wp2
    exact hK
  case done =>
    rintro W2 ⟨⟨v, hv, hrow, hnil⟩, h4, h5, h6, h7, h8, h9⟩ hK
    rw [hsz] at hK ⊢
    obtain ⟨sp, sn, sc, rfl⟩ : ∃ p n c, v = .slice p n c := by
      rcases hrow.2 with ⟨e, _⟩ | ⟨g, cap, cur, e, _⟩
      · exact ⟨_, _, _, e⟩
      · exact ⟨_, _, _, e⟩
    have cv := hv.cell
    have c5 := h5.cell
    have f5 := h5.frozen
    have h6' := h6.other (show w0.heap.size + 1 ≠ w0.heap.size by omega) (.slice sp sn sc)
    have c6 := h6'.cell
    have f6 := h6'.frozen
    have h7' := (h7.other (show w0.heap.size + 2 ≠ w0.heap.size by omega) (.slice sp sn sc)).other (show w0.heap.size + 2 ≠ w0.heap.size + 1 by omega) (.int .i64 0)
    have c7 := h7'.cell
    have f7 := h7'.frozen
    gi_wp2
    obtain ⟨W3, hW3⟩ : ∃ W3, ((W2.setCell ⟨w0.heap.size, 0, none⟩ (.slice sp sn sc)).setCell ⟨w0.heap.size + 1, 0, none⟩ (.int .i64 0)).setCell ⟨w0.heap.size + 2, 0, none⟩ (.int .i64 0) = W3 := ⟨_, rfl⟩
    have hk : Skip (fun j => w0.heap.size ≤ j ∧ j < w0.heap.size + 3) W2 W3 := by
      rw [← hW3]
      exact (((skip_set W2 w0.heap.size (.slice sp sn sc)).mono fun j hj => by omega).trans ((skip_set _ (w0.heap.size + 1) (.int .i64 0)).mono fun j hj => by omega)).trans ((skip_set _ (w0.heap.size + 2) (.int .i64 0)).mono fun j hj => by omega)
    have g0 : Boxed W3 w0.heap.size 36 (.slice sp sn sc) := by
      rw [← hW3]
      exact ((h5.set _).other (by omega) _).other (by omega) _
    have g1 : Boxed W3 (w0.heap.size + 1) 3 (.int .i64 0) := by
      rw [← hW3]
      exact (h6'.set _).other (by omega) _
    have g2 : Boxed W3 (w0.heap.size + 2) 50 (.int .i64 0) := by
      rw [← hW3]
      exact h7'.set _
    rw [hW3]
    have hK3 : W3.heap[w0.heap.size + 8]? = some (.deferred (some [])) := (hk.block _ (Array.getElem?_eq_some_iff.1 hK).1 (by omega)).trans hK
    have hk2 : Skip (fun j => j = w0.heap.size + 8) W3 (W3.putObj (w0.heap.size + 8) (.deferred none)) := skip_put _ _ _ _ rfl
    refine ⟨by simp, .inl ⟨_, _, rfl, run_takeDeferred hK3, ?_⟩⟩
    refine ⟨_, asm_res _ _ _ _ rfl (skip_boxed g0 hk2 (by omega)) (skip_boxed g1 hk2 (by omega)) (skip_boxed g2 hk2 (by omega)) rfl rfl rfl, ?_⟩
    have hb2 := skip_belowN (skip_belowN h8 h8.size hk (fun j hj => by omega)) (Nat.le_trans h8.size hk.size) hk2 (fun j hj => by omega)
    refine ⟨_, 0, 0, rfl, hb2, .inl ⟨rfl, rfl, h9, row_mono (skip_row (skip_row hrow hk (fun j hj => by omega)) hk2 (fun j hj => by omega)) (by omega), hnil⟩⟩
  case stop =>
    rintro c pre tl W2 hpt ⟨rfl, h5, h6, h7, h8, p, x, rfl, hp, hx⟩ hK
    rw [hsz] at hK ⊢
    gi_wp2
    have hk2 : Skip (fun j => j = w0.heap.size + 8) W2 (W2.putObj (w0.heap.size + 8) (.deferred none)) := skip_put _ _ _ _ rfl
    refine ⟨by simp, .inl ⟨_, _, rfl, run_takeDeferred hK, ?_⟩⟩
    refine ⟨_, asm_res _ _ _ _ rfl (skip_boxed h5 hk2 (by omega)) (skip_boxed h6 hk2 (by omega)) (skip_boxed h7 hk2 (by omega)) rfl rfl rfl, ?_⟩
    have hb2 := skip_belowN h8 h8.size hk2 (fun j hj => by omega)
    refine ⟨_, _, 10, rfl, hb2, .inr ⟨rfl, rfl, p, x, tl, ?_, by simp, hp, hx⟩⟩
    rw [← hpt, List.append_assoc]
    rfl
  case body =>
    rintro l pre x W2 ⟨⟨v, hv, hrow, hnil⟩, h4, h5, h6, h7, h8, h9⟩ hsz2 ⟨tl, htl⟩
    have c4 := h4.cell
    have f4 := h4.frozen
    obtain ⟨pl1, pl2⟩ := pieces_le 10 s.data.toList
    have hlen : pre.length < 1048577 := by
      rw [← htl] at pl2
      have hss : s.data.toList.length = s.size := rfl
      simp only [List.length_append, List.length_cons] at pl2
      omega
    have hw : wrap64 ((pre.length : Int) + 1) = (pre.length : Int) + 1 := by unfold wrap64; omega
    have fin0 : ∀ (a : Act) (y : List UInt8), skipL y = true → boxPost (fun j => (j = w0.heap.size + 5 ∨ j = w0.heap.size + 6 ∨ j = w0.heap.size + 7) ∨ j = W.heap.size ∨ j = W.heap.size + 1)
        (AsmI w0) (AsmX w0) (pre ++ [y]) W2 Exit.normal a (W2.setCell ⟨w0.heap.size + 4, 0, none⟩ (.int .i64 ((pre.length : Int) + 1))) := fun a y hy => by
      have hk := skip_set W2 (w0.heap.size + 4) (.int .i64 ((pre.length : Int) + 1))
      refine ⟨fun j hj => hk.block j (by omega) (by omega), ⟨v, skip_boxed hv hk (by omega), ?_, ?_⟩, ?_, skip_boxed h5 hk (by omega), skip_boxed h6 hk (by omega), skip_boxed h7 hk (by omega), skip_belowN h8 h8.size hk (fun j hj => by omega), ?_⟩
      · rw [asmL_snoc, if_pos hy, List.append_nil]
        exact skip_row hrow hk (fun j hj => by omega)
      · rw [asmL_snoc, if_pos hy, List.append_nil]
        exact hnil
      · rw [show (((pre ++ [y]).length : Nat) : Int) = (pre.length : Int) + 1 by simp]
        exact h4.set _
      · intro z hz
        rcases List.mem_append.1 hz with h | h
        · exact h9 z h
        · rw [List.mem_singleton.1 h, okL, hy]; rfl
    rcases x with _ | ⟨b, t⟩
    · gi_wp2_with (first | simp only [bs_isE0, bs_tl0])
      exact fin0 _ _ rfl
    have hbz : (bs (b :: t)).size = t.length + 1 := rfl
    by_cases hb : b = 35
    · subst hb
      gi_wp2_with (first | simp only [bs_isE, bs_tl, bs_get0])
      exact fin0 _ _ rfl
    have hb' : ((b.toNat : Int) == 35) = false := by
      rw [beq_eq_false_iff_ne]
      intro h
      exact hb (UInt8.toNat.inj (by show b.toNat = 35; omega))
    have hns : skipL (b :: t) = false := by
      unfold skipL
      simp [hb]
    have hmem : (b :: t) ∈ pieces 10 s.data.toList := by rw [← htl]; simp
    have hpr : PreRead (b :: t) := (hpre _ hmem).resolve_left (by rw [hns]; decide)
    have hsl : (b :: t).length ≤ s.data.toList.length := pl1 _ hmem
    have hss : s.data.toList.length = s.size := rfl
    have hk3 := skip_set W2 (w0.heap.size + 4) (.int .i64 ((pre.length : Int) + 1))
    have hv3 := hv.other (show w0.heap.size + 3 ≠ w0.heap.size + 4 by omega) (.int .i64 ((pre.length : Int) + 1))
    have hrow3 := skip_row hrow hk3 (fun j hj => by omega)
    have h43 := h4.set (.int .i64 ((pre.length : Int) + 1))
    have h53 := h5.other (show w0.heap.size ≠ w0.heap.size + 4 by omega) (.int .i64 ((pre.length : Int) + 1))
    have h63 := h6.other (show w0.heap.size + 1 ≠ w0.heap.size + 4 by omega) (.int .i64 ((pre.length : Int) + 1))
    have h73 := h7.other (show w0.heap.size + 2 ≠ w0.heap.size + 4 by omega) (.int .i64 ((pre.length : Int) + 1))
    have h83 := skip_belowN h8 h8.size hk3 (fun j hj => by omega)
    have hsz3 := hk3.size
    have hk3 := hk3.mono (C := fun j => j < w0.heap.size + 5 ∨ w0.heap.size + 10 ≤ j) (fun j hj => by omega)
    have c5 := h53.cell
    have f5 := h53.frozen
    obtain ⟨W3, hW3⟩ : ∃ W3, W2.setCell ⟨w0.heap.size + 4, 0, none⟩ (.int .i64 ((pre.length : Int) + 1)) = W3 := ⟨_, rfl⟩
    rw [hW3] at hk3 hv3 hrow3 h43 h53 h63 h73 h83 hsz3
    have hR := read_calls (b :: t) (by omega) hpr W3 (hG.kept hglt h83.block)
    cases hrd : readB (b :: t) with
    | false =>
      rw [hrd] at hR
      gi_wp2_with (first | simp only [bs_isE, bs_tl, bs_get0] | (refine ⟨trivial, ?_⟩; gi_at_call 24; refine CallsIn.mono (callsIn_wide.2 hR) ?_; rintro e W4 ⟨rfl, hB4⟩))
      obtain ⟨W5, hW5⟩ : ∃ W5, W4.alloc (Obj.cells #[.int .i64 (readX (b :: t)).op, .int .i64 (readX (b :: t)).a, .int .i64 (readX (b :: t)).b, .int .i64 (readX (b :: t)).imm] 40) = W5 := ⟨_, rfl⟩
      rw [hW5]
      have hk5 : Skip (fun j => j < w0.heap.size + 5 ∨ w0.heap.size + 10 ≤ j) W3 W5 := by
        rw [← hW5]
        exact (skip_below _ hB4).trans (skip_alloc _ _ _)
      have hn5 : Skip (fun _ => False) W3 W5 := by
        rw [← hW5]
        exact (skip_below _ hB4).trans (skip_alloc _ _ _)
      refine wpIn_region_any (by kernel_rfl) ?_
      change wpAnyIn _ _ _ _ _ _ _ _ _ (World.drew _)
      obtain ⟨W6, hW6⟩ : ∃ W6, World.drew W5 = W6 := ⟨_, rfl⟩
      rw [hW6]
      have hn6 : Skip (fun _ => False) W3 W6 := by
        rw [← hW6]
        exact hn5.trans ⟨rfl, rfl, rfl, Nat.le_refl _, fun _ _ _ => rfl⟩
      have h46 := skip_boxed h43 hn6 id
      have h56 := skip_boxed h53 hn6 id
      have h66 := skip_boxed h63 hn6 id
      have h76 := skip_boxed h73 hn6 id
      have d4 := h46.cell
      have d5 := h56.cell
      have e5 := h56.frozen
      have h66' := h66.other (show w0.heap.size + 1 ≠ w0.heap.size by omega) (.slice none 0 0)
      have d6 := h66'.cell
      have e6 := h66'.frozen
      have h76' := (h76.other (show w0.heap.size + 2 ≠ w0.heap.size by omega) (.slice none 0 0)).other (show w0.heap.size + 2 ≠ w0.heap.size + 1 by omega) (.int .i64 ((pre.length : Int) + 1))
      have d7 := h76'.cell
      have e7 := h76'.frozen
      have h46' := h46.other (show w0.heap.size + 4 ≠ w0.heap.size by omega) (.slice none 0 0)
      have d4' := h46'.cell
      have finR : ∀ a : Act, boxPost (fun j => (j = w0.heap.size + 5 ∨ j = w0.heap.size + 6 ∨ j = w0.heap.size + 7) ∨ j = W.heap.size ∨ j = W.heap.size + 1)
          (AsmI w0) (AsmX w0) (pre ++ [b :: t]) W2 Exit.ret a (((W6.setCell ⟨w0.heap.size, 0, none⟩ (.slice none 0 0)).setCell ⟨w0.heap.size + 1, 0, none⟩ (.int .i64 ((pre.length : Int) + 1))).setCell ⟨w0.heap.size + 2, 0, none⟩ (.int .i64 10)) := fun a => by
        have hk7 : Skip (fun j => w0.heap.size ≤ j ∧ j < w0.heap.size + 3) W6 (((W6.setCell ⟨w0.heap.size, 0, none⟩ (.slice none 0 0)).setCell ⟨w0.heap.size + 1, 0, none⟩ (.int .i64 ((pre.length : Int) + 1))).setCell ⟨w0.heap.size + 2, 0, none⟩ (.int .i64 10)) :=
          (((skip_set W6 w0.heap.size (.slice none 0 0)).mono fun j hj => by omega).trans ((skip_set _ (w0.heap.size + 1) _).mono fun j hj => by omega)).trans ((skip_set _ (w0.heap.size + 2) _).mono fun j hj => by omega)
        have hk26 := (hk3.trans (hn6.mono (C := fun j => j < w0.heap.size + 5 ∨ w0.heap.size + 10 ≤ j) fun j hj => hj.elim)).trans (hk7.mono (C := fun j => j < w0.heap.size + 5 ∨ w0.heap.size + 10 ≤ j) fun j hj => by omega)
        refine ⟨fun j hj => hk26.block j (by omega) (by omega), rfl, ((h56.set _).other (by omega) _).other (by omega) _, ?_, h76'.set _, ?_, pre, b :: t, rfl, h9, ?_⟩
        · rw [show (((pre ++ [b :: t]).length : Nat) : Int) = (pre.length : Int) + 1 by simp]
          exact (h66'.set _).other (by omega) _
        · exact skip_belowN (skip_belowN h83 (Nat.le_trans h8.size hsz3) hn6 (fun j hj => id)) (Nat.le_trans h8.size (Nat.le_trans hsz3 hn6.size)) hk7 (fun j hj => by omega)
        · rw [okL, hns, hrd]; rfl
      refine wpAnyIn_ready (rs := [0, 1]) (by kernel_rfl) (by simp) ?_
      refine AllReadyIn.cons rfl (fun K hK => ?_) (AllReadyIn.cons rfl (fun K hK => ?_) AllReadyIn.nil)
      · go_simp
        refine hK _ _ ?_
        clear hK K
        refine wpAnyIn_ready (rs := [1]) (by kernel_rfl) (by simp) ?_
        refine AllReadyIn.cons rfl (fun K hK => ?_) AllReadyIn.nil
        go_simp
        refine hK _ _ ?_
        clear hK K
        refine wpAnyIn_ready (rs := [2]) (by kernel_rfl) (by simp) ?_
        refine AllReadyIn.cons rfl (fun K hK => ?_) AllReadyIn.nil
        go_simp
        refine hK _ _ ?_
        clear hK K
        refine wpAnyIn_ready (rs := [3]) (by kernel_rfl) (by simp) ?_
        refine AllReadyIn.cons rfl (fun K hK => ?_) AllReadyIn.nil
        go_simp
        refine hK _ _ ?_
        clear hK K
        refine wpAnyIn_done (by kernel_rfl) ?_ _
        gi_wp2
        exact finR _
      · go_simp
        refine hK _ _ ?_
        clear hK K
        refine wpAnyIn_ready (rs := [0]) (by kernel_rfl) (by simp) ?_
        refine AllReadyIn.cons rfl (fun K hK => ?_) AllReadyIn.nil
        go_simp
        refine hK _ _ ?_
        clear hK K
        refine wpAnyIn_ready (rs := [2]) (by kernel_rfl) (by simp) ?_
        refine AllReadyIn.cons rfl (fun K hK => ?_) AllReadyIn.nil
        go_simp
        refine hK _ _ ?_
        clear hK K
        refine wpAnyIn_ready (rs := [3]) (by kernel_rfl) (by simp) ?_
        refine AllReadyIn.cons rfl (fun K hK => ?_) AllReadyIn.nil
        go_simp
        refine hK _ _ ?_
        clear hK K
        refine wpAnyIn_done (by kernel_rfl) ?_ _
        gi_wp2
        exact finR _
    | true =>
      rw [hrd] at hR
      have hRx : Right (readX (b :: t)) := by
        rcases read_spec (b :: t) with ⟨_, h, _⟩ | ⟨h, _⟩
        · exact h
        · rw [hrd] at h; cases h
      have hE := fun W5 (h : GW W5) => enc_calls (readX (b :: t)) hRx W5 h
      gi_wp2_with (first | simp only [bs_isE, bs_tl, bs_get0] | (refine ⟨trivial, ?_⟩; gi_at_call 24; refine CallsIn.mono (callsIn_wide.2 hR) ?_; rintro e W4 ⟨rfl, hB4⟩) | (refine ⟨trivial, ?_⟩; gi_at_call 15; refine CallsIn.mono (callsIn_wide.2 (hE _ ?_)) ?_; rotate_left; rintro e W6 ⟨rfl, hB6⟩))
      rotate_left
      · exact hG.kept hglt (skip_belowN h83 (Nat.le_trans h8.size hsz3) ((skip_below (fun _ => False) hB4).trans (skip_alloc _ _ _)) (fun j hj => id)).block
      have hn6 : Skip (fun _ => False) W3 (World.drew W6) := (((skip_below _ hB4).trans (skip_alloc _ _ _)).trans (skip_below _ hB6)).trans ⟨rfl, rfl, rfl, Nat.le_refl _, fun _ _ _ => rfl⟩
      refine wpIn_region_any (by kernel_rfl) ?_
      change wpAnyIn _ _ _ _ _ _ _ _ _ (World.drew _)
      obtain ⟨W7, hW7⟩ : ∃ W7, World.drew W6 = W7 := ⟨_, rfl⟩
      rw [hW7]
      rw [hW7] at hn6
      have h87 := skip_belowN h83 (Nat.le_trans h8.size hsz3) hn6 (fun j hj => id)
      obtain ⟨W8, hW8⟩ : ∃ W8, W7.alloc (Obj.cells #[.int .u32 (encV (readX (b :: t)))] 22) = W8 := ⟨_, rfl⟩
      have hn8 : Skip (fun _ => False) W7 W8 := by
        rw [← hW8]
        exact skip_alloc _ _ _
      have h88 := skip_belowN h87 h87.size hn8 (fun j hj => id)
      have hv7 := skip_boxed hv3 hn6 id
      have hv8 := skip_boxed hv7 hn8 id
      have hrow8 := skip_row (skip_row hrow3 hn6 (fun j hj => id)) hn8 (fun j hj => id)
      have c7 := hv7.cell
      have c8 := hv8.cell
      have c8b : W8.cell? ⟨W7.heap.size, 0, none⟩ = some (.int .u32 (encV (readX (b :: t)))) := by
        rw [← hW8]
        simp
      have hBy := bytes1_calls (encV (readX (b :: t))) (enc_u32 hRx) W7.heap.size W8 c8b (hG.kept hglt h88.block)
      have hAL := asmL_len pre
      have hs78 := hn8.size
      have hs67 := hn6.size
      obtain ⟨i0, hi, hz0, hz1, hz2⟩ := info_parts Tryd.info_u8
      have fin4 : ∀ (W9 W10 : World) (bb : Nat) (v' : Value), Below W8.heap.size W8 W9 → W10.ownsRow (w0.heap.size + 10) 5 1 v' ((asmL pre).length + 4) (u8s (asmL pre) ++ u8s (bytes4 (encV (readX (b :: t))))) → W9.grownBy W10 v.ownBlock →
          Boxed W10 (w0.heap.size + 3) 36 v ∧ ∀ a : Act, boxPost (fun j => (j = w0.heap.size + 5 ∨ j = w0.heap.size + 6 ∨ j = w0.heap.size + 7) ∨ j = W.heap.size ∨ j = W.heap.size + 1)
            (AsmI w0) (AsmX w0) (pre ++ [b :: t]) W2 Exit.normal a (W10.setCell ⟨w0.heap.size + 3, 0, none⟩ v') := fun W9 W10 bb v' hB9 hown' hgrow => by
        have hv9 := skip_boxed hv8 (skip_below (fun _ => False) hB9) id
        have hrow9 := skip_row hrow8 (skip_below (fun _ => False) hB9) (fun j hj => id)
        have hv10 : Boxed W10 (w0.heap.size + 3) 36 v := hv9.kept hgrow (hv9.not_row (by decide) hrow9)
        have hY9 : Skip (fun j => j = w0.heap.size + 3 ∨ w0.heap.size + 10 ≤ j) W9 W10 := ⟨hgrow.os, hgrow.tape, hgrow.output, hgrow.size, fun j hj hn => hgrow.block j hj fun e => hn (.inr (by
          rcases hrow9.2 with ⟨e2, _⟩ | ⟨g, cap, cur, e2, hb2, _⟩
          · rw [e2] at e; cases e
          · rw [e2] at e
            have : j = g := by simpa [Value.ownBlock] using e
            omega))⟩
        have hY : Skip (fun j => j = w0.heap.size + 3 ∨ w0.heap.size + 10 ≤ j) W3 (W10.setCell ⟨w0.heap.size + 3, 0, none⟩ v') :=
          ((((hn6.mono fun j hj => hj.elim).trans (hn8.mono fun j hj => hj.elim)).trans (skip_below _ hB9)).trans hY9).trans ((skip_set W10 (w0.heap.size + 3) v').mono fun j hj => .inl hj)
        have hX := hk3.trans (hY.mono (C := fun j => j < w0.heap.size + 5 ∨ w0.heap.size + 10 ≤ j) fun j hj => by omega)
        refine ⟨hv10, fun a => ⟨fun j hj => hX.block j (by omega) (by omega), ⟨v', hv10.set v', ?_, ?_⟩, ?_, skip_boxed h53 hY (by omega), skip_boxed h63 hY (by omega), skip_boxed h73 hY (by omega), skip_belowN h83 (Nat.le_trans h8.size hsz3) hY (fun j hj => by omega), ?_⟩⟩
        · have e1 : asmL (pre ++ [b :: t]) = asmL pre ++ bytes4 (encV (readX (b :: t))) := by rw [asmL_snoc, hns]; rfl
          rw [e1]
          have e2 : (asmL pre ++ bytes4 (encV (readX (b :: t)))).length = (asmL pre).length + 4 := by rw [List.length_append]; simp [bytes4]
          rw [e2, show u8s (asmL pre ++ bytes4 (encV (readX (b :: t)))) = u8s (asmL pre) ++ u8s (bytes4 (encV (readX (b :: t)))) by simp [u8s]]
          exact hown'.kept (grownBy_setCell' W10 (w0.heap.size + 3) v') (.inr (hv10.not_row (by decide) hown').symm)
        · have e1 : asmL (pre ++ [b :: t]) = asmL pre ++ bytes4 (encV (readX (b :: t))) := by rw [asmL_snoc, hns]; rfl
          rw [e1]
          constructor
          · intro h
            rcases hown'.2 with ⟨_, h0⟩ | ⟨g, cap, cur, e2, _⟩
            · omega
            · rw [e2] at h; cases h
          · intro h
            have := congrArg List.length h
            rw [List.length_append] at this
            simp [bytes4] at this
        · rw [show (((pre ++ [b :: t]).length : Nat) : Int) = (pre.length : Int) + 1 by simp]
          exact skip_boxed h43 hY (by omega)
        · intro z hz
          rcases List.mem_append.1 hz with h | h
          · exact h9 z h
          · rw [List.mem_singleton.1 h, okL, hrd, Bool.or_true]
      refine wpAnyIn_ready (rs := [0, 1]) (by kernel_rfl) (by simp) ?_
      refine AllReadyIn.cons rfl (fun K hK => ?_) (AllReadyIn.cons rfl (fun K hK => ?_) AllReadyIn.nil)
      · go_simp
        refine hK _ _ ?_
        clear hK K
        refine wpAnyIn_ready (rs := [1]) (by kernel_rfl) (by simp) ?_
        refine AllReadyIn.cons rfl (fun K hK => ?_) AllReadyIn.nil
        go_simp
        refine hK _ _ ?_
        clear hK K
        refine wpAnyIn_ready (rs := [2]) (by kernel_rfl) (by simp) ?_
        refine AllReadyIn.cons rfl (fun K hK => ?_) AllReadyIn.nil
        go_simp
        try rw [hW8]
        refine hK _ _ ?_
        clear hK K
        refine wpAnyIn_ready (rs := [3]) (by kernel_rfl) (by simp) ?_
        refine AllReadyIn.cons rfl (fun K hK => ?_) AllReadyIn.nil
        go_simp
        refine ⟨trivial, CallsIn.mono (callsIn_wide.2 hBy) ?_⟩
        rintro e W9 ⟨bb, rfl, hbb, hcs, hB9⟩
        have c9 := (skip_boxed hv8 (skip_below (fun _ => False) hB9) id).cell
        refine hK _ _ ?_
        clear hK K
        refine wpAnyIn_ready (rs := [4]) (by kernel_rfl) (by simp) ?_
        refine AllReadyIn.cons rfl (fun K hK => ?_) AllReadyIn.nil
        rw [if_pos (show Region.wanted _ _ = true from rfl)]
        refine wpIn_append_own W9 (.tmp 40) (.tmp 43) 36 rfl (w0.heap.size + 10) 5 i0 (.int .u8 0) 1 1 (by kernel_rfl) hi hz0 hz1 hz2 rfl (by decide) v (asmL pre).length (u8s (asmL pre)) rfl (skip_row hrow8 (skip_below (fun _ => False) hB9) (fun j hj => id)) ⟨bb, 0, none⟩ 4 4 (u8s (bytes4 (encV (readX (b :: t))))) rfl rfl (new4 hcs) (fun u hu => by obtain ⟨q, _, rfl⟩ := List.mem_map.1 hu; rfl) (by unfold maxLen; omega) (by omega) (by have := hB9.size; omega) ?_
        intro v' W10 hown' hgrow _
        obtain ⟨p', n', c', rfl⟩ := row_slice hown'
        have q10 := fin4 W9 W10 bb (.slice p' n' c') hB9 hown' hgrow
        have c10 := q10.1.cell
        have f10 := q10.1.frozen
        refine hK _ _ ?_
        clear hK K
        refine wpAnyIn_ready (rs := [5]) (by kernel_rfl) (by simp) ?_
        refine AllReadyIn.cons rfl (fun K hK => ?_) AllReadyIn.nil
        go_simp
        refine hK _ _ ?_
        clear hK K
        refine wpAnyIn_done (by kernel_rfl) ?_ _
        gi_wp2
        exact q10.2 _
      · go_simp
        refine hK _ _ ?_
        clear hK K
        refine wpAnyIn_ready (rs := [0, 2]) (by kernel_rfl) (by simp) ?_
        refine AllReadyIn.cons rfl (fun K hK => ?_) (AllReadyIn.cons rfl (fun K hK => ?_) AllReadyIn.nil)
        · go_simp
          refine hK _ _ ?_
          clear hK K
          refine wpAnyIn_ready (rs := [2]) (by kernel_rfl) (by simp) ?_
          refine AllReadyIn.cons rfl (fun K hK => ?_) AllReadyIn.nil
          go_simp
          try rw [hW8]
          refine hK _ _ ?_
          clear hK K
          refine wpAnyIn_ready (rs := [3]) (by kernel_rfl) (by simp) ?_
          refine AllReadyIn.cons rfl (fun K hK => ?_) AllReadyIn.nil
          go_simp
          refine ⟨trivial, CallsIn.mono (callsIn_wide.2 hBy) ?_⟩
          rintro e W9 ⟨bb, rfl, hbb, hcs, hB9⟩
          have c9 := (skip_boxed hv8 (skip_below (fun _ => False) hB9) id).cell
          refine hK _ _ ?_
          clear hK K
          refine wpAnyIn_ready (rs := [4]) (by kernel_rfl) (by simp) ?_
          refine AllReadyIn.cons rfl (fun K hK => ?_) AllReadyIn.nil
          rw [if_pos (show Region.wanted _ _ = true from rfl)]
          refine wpIn_append_own W9 (.tmp 40) (.tmp 43) 36 rfl (w0.heap.size + 10) 5 i0 (.int .u8 0) 1 1 (by kernel_rfl) hi hz0 hz1 hz2 rfl (by decide) v (asmL pre).length (u8s (asmL pre)) rfl (skip_row hrow8 (skip_below (fun _ => False) hB9) (fun j hj => id)) ⟨bb, 0, none⟩ 4 4 (u8s (bytes4 (encV (readX (b :: t))))) rfl rfl (new4 hcs) (fun u hu => by obtain ⟨q, _, rfl⟩ := List.mem_map.1 hu; rfl) (by unfold maxLen; omega) (by omega) (by have := hB9.size; omega) ?_
          intro v' W10 hown' hgrow _
          obtain ⟨p', n', c', rfl⟩ := row_slice hown'
          have q10 := fin4 W9 W10 bb (.slice p' n' c') hB9 hown' hgrow
          have c10 := q10.1.cell
          have f10 := q10.1.frozen
          refine hK _ _ ?_
          clear hK K
          refine wpAnyIn_ready (rs := [5]) (by kernel_rfl) (by simp) ?_
          refine AllReadyIn.cons rfl (fun K hK => ?_) AllReadyIn.nil
          go_simp
          refine hK _ _ ?_
          clear hK K
          refine wpAnyIn_done (by kernel_rfl) ?_ _
          gi_wp2
          exact q10.2 _
        · go_simp
          try rw [hW8]
          refine hK _ _ ?_
          clear hK K
          refine wpAnyIn_ready (rs := [0, 3]) (by kernel_rfl) (by simp) ?_
          refine AllReadyIn.cons rfl (fun K hK => ?_) (AllReadyIn.cons rfl (fun K hK => ?_) AllReadyIn.nil)
          · go_simp
            refine hK _ _ ?_
            clear hK K
            refine wpAnyIn_ready (rs := [3]) (by kernel_rfl) (by simp) ?_
            refine AllReadyIn.cons rfl (fun K hK => ?_) AllReadyIn.nil
            go_simp
            refine ⟨trivial, CallsIn.mono (callsIn_wide.2 hBy) ?_⟩
            rintro e W9 ⟨bb, rfl, hbb, hcs, hB9⟩
            have c9 := (skip_boxed hv8 (skip_below (fun _ => False) hB9) id).cell
            refine hK _ _ ?_
            clear hK K
            refine wpAnyIn_ready (rs := [4]) (by kernel_rfl) (by simp) ?_
            refine AllReadyIn.cons rfl (fun K hK => ?_) AllReadyIn.nil
            rw [if_pos (show Region.wanted _ _ = true from rfl)]
            refine wpIn_append_own W9 (.tmp 40) (.tmp 43) 36 rfl (w0.heap.size + 10) 5 i0 (.int .u8 0) 1 1 (by kernel_rfl) hi hz0 hz1 hz2 rfl (by decide) v (asmL pre).length (u8s (asmL pre)) rfl (skip_row hrow8 (skip_below (fun _ => False) hB9) (fun j hj => id)) ⟨bb, 0, none⟩ 4 4 (u8s (bytes4 (encV (readX (b :: t))))) rfl rfl (new4 hcs) (fun u hu => by obtain ⟨q, _, rfl⟩ := List.mem_map.1 hu; rfl) (by unfold maxLen; omega) (by omega) (by have := hB9.size; omega) ?_
            intro v' W10 hown' hgrow _
            obtain ⟨p', n', c', rfl⟩ := row_slice hown'
            have q10 := fin4 W9 W10 bb (.slice p' n' c') hB9 hown' hgrow
            have c10 := q10.1.cell
            have f10 := q10.1.frozen
            refine hK _ _ ?_
            clear hK K
            refine wpAnyIn_ready (rs := [5]) (by kernel_rfl) (by simp) ?_
            refine AllReadyIn.cons rfl (fun K hK => ?_) AllReadyIn.nil
            go_simp
            refine hK _ _ ?_
            clear hK K
            refine wpAnyIn_done (by kernel_rfl) ?_ _
            gi_wp2
            exact q10.2 _
          · go_simp
            refine ⟨trivial, CallsIn.mono (callsIn_wide.2 hBy) ?_⟩
            rintro e W9 ⟨bb, rfl, hbb, hcs, hB9⟩
            have c9 := (skip_boxed hv8 (skip_below (fun _ => False) hB9) id).cell
            refine hK _ _ ?_
            clear hK K
            refine wpAnyIn_ready (rs := [0]) (by kernel_rfl) (by simp) ?_
            refine AllReadyIn.cons rfl (fun K hK => ?_) AllReadyIn.nil
            go_simp
            refine hK _ _ ?_
            clear hK K
            refine wpAnyIn_ready (rs := [4]) (by kernel_rfl) (by simp) ?_
            refine AllReadyIn.cons rfl (fun K hK => ?_) AllReadyIn.nil
            rw [if_pos (show Region.wanted _ _ = true from rfl)]
            refine wpIn_append_own W9 (.tmp 40) (.tmp 43) 36 rfl (w0.heap.size + 10) 5 i0 (.int .u8 0) 1 1 (by kernel_rfl) hi hz0 hz1 hz2 rfl (by decide) v (asmL pre).length (u8s (asmL pre)) rfl (skip_row hrow8 (skip_below (fun _ => False) hB9) (fun j hj => id)) ⟨bb, 0, none⟩ 4 4 (u8s (bytes4 (encV (readX (b :: t))))) rfl rfl (new4 hcs) (fun u hu => by obtain ⟨q, _, rfl⟩ := List.mem_map.1 hu; rfl) (by unfold maxLen; omega) (by omega) (by have := hB9.size; omega) ?_
            intro v' W10 hown' hgrow _
            obtain ⟨p', n', c', rfl⟩ := row_slice hown'
            have q10 := fin4 W9 W10 bb (.slice p' n' c') hB9 hown' hgrow
            have c10 := q10.1.cell
            have f10 := q10.1.frozen
            refine hK _ _ ?_
            clear hK K
            refine wpAnyIn_ready (rs := [5]) (by kernel_rfl) (by simp) ?_
            refine AllReadyIn.cons rfl (fun K hK => ?_) AllReadyIn.nil
            go_simp
            refine hK _ _ ?_
            clear hK K
            refine wpAnyIn_done (by kernel_rfl) ?_ _
            gi_wp2
            exact q10.2 _
end Go.Proofs.YtjofnajamlmllaaDoor
