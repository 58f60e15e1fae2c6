import Derived.Test.YtjofnajamlmllaaDoorSxOps4
import Derived.Laws.AppendOwn
namespace Go.Sx

/-! ## append -/
section
variable {P : Program}

/-- What is appended. -/
structure AppSrc (P : Program) (size n : Nat) (x : Value) (news : List Value) (w : World) : Prop where
  len : ∀ w' : World, (Builtin.lenOf x).run P w' = .ok n w'
  cells : ∀ w' : World, w'.heap = w.heap → (Builtin.firstCells size n x).run P w' = .ok news.toArray w'
  size : news.length = n * size
  one : ∀ u ∈ news, u.oneCell' = true

theorem app_room {t t2 ty e : TypeId} {d : TypeDesc} {i : TypeInfo} {w : World} (ht : P.underlying t = some (.slice e)) (ht2 : P.underlying t2 = some d) (hd : rowLike d = true) (hi : P.info? e = some i)
    {g sLen sCap : Nat} {cur : Array Value} (hg : w.heap[g]? = some (.cells cur e (0, 0))) {x : Value} {m : Nat} {news : List Value} (hx : AppSrc P i.size m x news w)
    (hroom : sLen + m ≤ sCap) (hfit : sLen * i.size + news.length ≤ cur.size) :
    (Builtin.append_ #[t, t2] ty #[.slice (some ⟨g, 0, none⟩) sLen sCap, x]).run P w = .ok (.slice (some ⟨g, 0, none⟩) (sLen + m) sCap) (w.setRow g (splice cur (sLen * i.size) news)) := by
  have hf := hx.cells w rfl
  have hl := hx.len w
  have hst := run_storeCells_at P g (sLen * i.size) e news 0 cur w hg (by simpa using hfit) hx.one
  simp only [Nat.add_zero] at hst
  cases d <;> first | cases hd | skip
  all_goals
    simp [Builtin.append_, run_underlying ht, run_underlying ht2, sizeOf, typeInfo, hi, hl, hroom, hf, Addr.add_lit, hst]
    rw [splice, List.append_assoc]

theorem app_nil {t t2 ty e : TypeId} {d : TypeDesc} {i : TypeInfo} {z : Value} {w : World} (ht : P.underlying t = some (.slice e)) (ht2 : P.underlying t2 = some d) (hd : rowLike d = true) (hi : P.info? e = some i) (hz : i.zero = some z)
    {x : Value} {n : Nat} {news : List Value} (hx : AppSrc P i.size n x news w) (h0 : 0 < n) (h63 : (n : Int) ≤ 9223372036854775807) (h48 : n * i.bytes ≤ 281474976710656) :
    (Builtin.append_ #[t, t2] ty #[.slice none 0 0, x]).run P w =
      .ok (.slice (some ⟨w.heap.size, 0, none⟩) n (grownCap w n 0 e)) (w.drew.alloc (.cells (news.toArray ++ Builtin.zeroCells z.cells (grownCap w n 0 e - n)) e)) := by
  have hn : n ≠ 0 := by omega
  have h63' : ¬ (9223372036854775807 < (n : Int)) := by omega
  have h48' : ¬ (281474976710656 < Builtin.nextslicecap n 0 * i.bytes) := by rw [nextslicecap_zero h0]; omega
  have hf := hx.cells w.drew rfl
  have hl := hx.len w
  cases d <;> first | cases hd | skip
  all_goals
    simp [Builtin.append_, run_underlying ht, run_underlying ht2, sizeOf, typeInfo, zeroValue, hi, hz, hl, hn, h63', h48', Question.forced, run_firstCells_none, hf, newRow, grownCap]

theorem app_nil0 {t t2 ty e : TypeId} {d : TypeDesc} {i : TypeInfo} {w : World} (ht : P.underlying t = some (.slice e)) (ht2 : P.underlying t2 = some d) (hd : rowLike d = true) (hi : P.info? e = some i)
    {x : Value} {news : List Value} (hx : AppSrc P i.size 0 x news w) : (Builtin.append_ #[t, t2] ty #[.slice none 0 0, x]).run P w = .ok (.slice none 0 0) w := by
  have hf := hx.cells w rfl
  have hl := hx.len w
  cases d <;> first | cases hd | skip
  all_goals
    simp [Builtin.append_, run_underlying ht, run_underlying ht2, sizeOf, typeInfo, hi, hl, hf]

theorem app_grow {t t2 ty e : TypeId} {d : TypeDesc} {i : TypeInfo} {z : Value} {w : World} (ht : P.underlying t = some (.slice e)) (ht2 : P.underlying t2 = some d) (hd : rowLike d = true) (hi : P.info? e = some i) (hz : i.zero = some z)
    {b : Addr} {sLen sCap : Nat} {olds : List Value} (hlo : olds.length = sLen * i.size) (holds : ∀ j v, olds[j]? = some v → w.cell? (b.add j) = some v)
    {x : Value} {n : Nat} {news : List Value} (hx : AppSrc P i.size n x news w)
    (hg : sCap < sLen + n) (h63 : ((sLen + n : Nat) : Int) ≤ 9223372036854775807) (hfit : Builtin.nextslicecap (sLen + n) sCap * i.bytes ≤ 281474976710656) :
    (Builtin.append_ #[t, t2] ty #[.slice (some b) sLen sCap, x]).run P w =
      .ok (.slice (some ⟨w.heap.size, 0, none⟩) (sLen + n) (grownCap w (sLen + n) sCap e))
        (w.drew.alloc (.cells (olds.toArray ++ news.toArray ++ Builtin.zeroCells z.cells (grownCap w (sLen + n) sCap e - (sLen + n))) e)) := by
  have hn : ¬ (sLen + n ≤ sCap) := by omega
  have h63' : ¬ (9223372036854775807 < ((sLen : Int) + (n : Int))) := by omega
  have h48' : ¬ (281474976710656 < Builtin.nextslicecap (sLen + n) sCap * i.bytes) := by omega
  have hf := hx.cells w.drew rfl
  have hl := hx.len w
  have hfo := run_firstCells_some (P := P) w.drew i.size sLen b sLen sCap olds hlo (by simpa using holds)
  cases d <;> first | cases hd | skip
  all_goals
    simp [Builtin.append_, run_underlying ht, run_underlying ht2, sizeOf, typeInfo, zeroValue, hi, hz, hl, hn, h63', h48', Question.forced, hf, hfo, newRow, grownCap]
    congr 2
    apply Array.ext'
    simp [List.append_assoc]

variable {C : Cfg} {q : Bool} {c : Ctx} {ρ : Rho} {s : S} {a : Act} {o : Oper} {K : R → List Reg → Prop}

def flat (ρ : Rho) (m : Nat) (src : Nat → T) : List Value := (List.range m).flatMap fun j => cells ρ (src j)

theorem flat_arr {m sz : Nat} {src : Nat → T} : cells ρ (.arr m sz src) = flat ρ m src := rfl

theorem srcRow_at {H : List Reg} {sz : Nat} {L : Nat → (Nat → T) → Prop} {r i : Nat} {p : List St} {lo m cap : Nat} {v : Value} (h : getPtr H (fun _ _ t => match t with
      | .arr N sz2 f => match Nat.beq sz sz2 with
        | true => lo + m ≤ N ∧ L m (fun j => f (lo + j))
        | false => False
      | _ => False) (.ptr r i p)) (hv : v = .slice (some (pla ρ r i (off p + lo * sz))) m cap ∨ (m = 0 ∧ v = .slice none 0 0)) {w : World} (hk : HOk ρ H w) :
    ∃ m src, L m src ∧ AppSrc P sz m v (flat ρ m src) w ∧ Good H.length (.arr m sz src) := by
      obtain ⟨g, t, hg, hi, hL, gt, hgt, hd, hgk⟩ := getPtr_spec hk h
      clear hgt hgk
      split at hL
      · rename_i N sz2 f
        split at hL
        · rename_i hb2
          have hb2 := beq_nat hb2
          subst hb2
          obtain ⟨hN, hL⟩ := hL
          rcases hv with rfl | ⟨rfl, rfl⟩
          · have ga : Good H.length (.arr m sz fun j => f (lo + j)) := fun j hj => gt (lo + j) (by omega)
            have ha : Holds ρ (wc w (ρ r i).1) (.arr m sz fun j => f (lo + j)) ((ρ r i).2 + off p + lo * sz) := fun j hj => by
              have := hd (lo + j) (by omega)
              rw [Nat.add_mul] at this
              rw [Nat.add_assoc _ (lo * sz)]
              exact this
            have hlen := cells_len (ρ := ρ) ga
            refine ⟨m, _, hL, ⟨fun w' => rfl, fun w' e => ?_, by rw [← flat_arr (sz := sz)]; exact hlen, fun u hu => oneCell_cells ga u hu⟩, ga⟩
            refine run_firstCells_some w' sz m _ m cap _ (by rw [← flat_arr (sz := sz)]; exact hlen) fun j u hu => ?_
            have hj : j < (T.arr m sz fun j => f (lo + j)).size := by
              have := (List.getElem?_eq_some_iff.1 hu).1
              rw [← flat_arr (sz := sz), hlen] at this
              exact this
            have := holds_cells ga ha j hj
            rw [flat_arr, hu] at this
            rw [pla_add]
            simp only [pla, World.cell?, e]
            simp only [wc, World.cell?] at this
            rw [← this]
            congr 1
            simp only [Option.isSome_none, Bool.false_eq_true, if_false, Nat.add_assoc]
          · refine ⟨0, _, hL, ⟨fun w' => rfl, fun w' _ => ?_, by simp [flat], fun u hu => by simp [flat] at hu⟩, fun j hj => absurd hj (Nat.not_lt_zero _)⟩
            simp only [flat, List.range_zero, List.flatMap_nil]
            exact run_firstCells_none _ _ _ _ _
        · exact hL.elim
      · exact hL.elim

theorem srcRow_spec {H : List Reg} {sz : Nat} {L : Nat → (Nat → T) → Prop} {t : T} {v : Value} (h : srcRow H sz L t) (hs : SlOk ρ H.length t v) {w : World} (hk : HOk ρ H w) :
    ∃ m src, L m src ∧ AppSrc P sz m v (flat ρ m src) w ∧ Good H.length (.arr m sz src) := by
  unfold srcRow at h
  split at h
  · obtain ⟨rfl, _⟩ := hs
    refine ⟨0, _, h, ⟨fun w' => rfl, fun w' _ => ?_, by simp [flat], fun u hu => by simp [flat] at hu⟩, fun j hj => absurd hj (Nat.not_lt_zero _)⟩
    simp only [Sx.val, T.cv, sc, flat, List.range_zero, List.flatMap_nil]
    exact run_firstCells_none _ _ _ _ _
  · rename_i r i p lo sz' m cap
    split at h
    · rename_i hb
      have hb := beq_nat hb
      subst hb
      obtain ⟨rfl, _⟩ := hs
      exact srcRow_at h (.inl rfl) hk
    · exact h.elim
  · rename_i b
    split at h
    · rename_i hb
      have hb := beq_nat hb
      subst hb
      obtain ⟨rfl, _⟩ := hs
      have ga : Good H.length (.arr b.size 1 fun j => .int .u8 (byteAt b j)) := fun j hj => ⟨rfl, trivial⟩
      refine ⟨_, _, h, ⟨fun w' => rfl, fun w' _ => ?_, by rw [← flat_arr (sz := 1)]; exact cells_len ga, fun u hu => oneCell_cells (x := .arr b.size 1 fun j => .int .u8 (byteAt b j)) ga u hu⟩, ga⟩
      simp only [Sx.val, T.cv, sc, Builtin.firstCells, Sem.run_pure]
      congr 1
      apply Array.ext'
      apply List.ext_getElem?
      intro k
      have h1 : flat ρ b.size (fun j => T.int .u8 (byteAt b j)) = (List.range b.size).map fun j => Value.int .u8 (byteAt b j) := by
        simp only [flat, cells, T.cv, sc]
        generalize List.range b.size = l
        induction l with
        | nil => rfl
        | cons x l ih => simp only [List.flatMap_cons, List.map_cons, ih]; rfl
      rw [h1]
      have h2 : (b.extract 0 b.size) = b := by
        apply ByteArray.ext
        simp
      rw [h2]
      simp only [Array.toList_map, List.getElem?_map, Array.getElem?_toList]
      by_cases hk : k < b.size
      · have hk' : k < b.data.size := hk
        simp [hk, byteAt]
      · have hk' : ¬ k < b.data.size := hk
        simp [hk]
    · exact h.elim
  · rename_i b r i p lo sz' m cap
    split at h
    · rename_i hb
      have hb := beq_nat hb
      subst hb
      obtain ⟨rfl, _⟩ := hs
      cases b with
      | false => exact srcRow_at h.2 (cap := cap) (.inl rfl) hk
      | true => exact srcRow_at h.2 (cap := cap) (.inr ⟨h.1 rfl, rfl⟩) hk
    · exact h.elim
  · exact h.elim

theorem bytesOf_info {e : TypeId} {i : TypeInfo} (hi : P.info? e = some i) : P.bytesOf e = i.bytes := by simp [Program.bytesOf, hi]

theorem mul_le_of {n m b : Nat} (h : (n + m) * b ≤ 140737488355328) : m * b ≤ 140737488355328 := by
  rw [Nat.add_mul] at h
  omega

theorem op_append0 (hlow : C.lows = false) (hs : SlotsOk ρ s.H.length s.sl a.tmps) {w : World} (hr : WRel c ρ s.H w) {cl : Call} (ho : o.op = .call cl) (hb : cl.callee = .builtin .append) (h : opK P C q s K o) : q = false ∧ EffStep P c ρ s a o K w := by
  obtain ⟨callee, args, ats⟩ := cl
  simp only at hb
  subst hb
  simp only [opK, ho] at h
  split at h
  · rename_i heq _; cases heq
  · rename_i heq _; cases heq
  · rename_i x y _ hargs
    have hargs := two_args hargs
    subst hargs
    split at h
    · rename_i t1 t2 hats
      have hats : ats = #[t1, t2] := by rw [← ats.toArray_toList, hats]
      subst hats
      split at h
      · rename_i e d hu1 hu2
        rw [hlow] at h
        simp only at h
        split at h
        · rename_i z hd hz
          split at h
          · exact h.elim
          · rename_i hz0
            have h0 : z.size ≠ 0 := fun e => by rw [e] at hz0; cases hz0
            refine ⟨rfl, ?_⟩
            obtain ⟨tx, h1, hx⟩ := force_spec h (read_ok hs x)
            clear h
            obtain ⟨ty, h2, hy⟩ := forceP_spec h1 (read_ok hs y)
            clear h1
            obtain ⟨m, src, h, hsrc, gsrc⟩ := srcRow_spec (P := P) h2 hy hr.hok
            clear h2
            obtain ⟨i, zv, hi, hzv, hg, hc, hsi, hce⟩ := zeroOf_spec (ρ := ρ) (n := s.H.length) hz
            have hlz := cells_len (ρ := ρ) hg
            have hzs : zv.cells.size = z.size := by rw [← Array.length_toList, hc, hlz]
            have hby := bytesOf_info hi
            rw [hsi] at hsrc
            have E : (execOp a.eval o).run P w = ((Builtin.append_ #[t1, t2] o.type #[a.eval x, a.eval y]).run P w).andThen fun v w' => .ok (.value v) w' := by
              simp only [execOp, ho, resolve, invoke, builtin, Sem.run_bind, Sem.run_pure, Result.andThen_ok, List.map_toArray, List.map_cons, List.map_nil]
            have hflen := cells_len (ρ := ρ) gsrc
            unfold appK at h
            split at h
            · -- from nil
              obtain ⟨hxv, _⟩ := hx
              by_cases hm : m = 0
              · subst hm
                have hrun := app_nil0 (ty := o.type) hu1 hu2 hd hi hsrc
                refine ⟨.nils, s.H, ρ, w, _, h.1 rfl, by rw [E, ← hxv]; simp only [Sx.val, T.cv, sc, hrun, Result.andThen_ok], ⟨_, .inl rfl, rfl, trivial⟩, hr, fun _ _ => rfl, Nat.le_refl _⟩
              · obtain ⟨b1, b2, h⟩ := h.2 hm
                rw [hby] at b1
                have hrun := app_nil (ty := o.type) hu1 hu2 hd hi hzv hsrc (by omega) (by omega) (by omega)
                have hge := grownCap_ge w m 0 e
                have hcap := h _ hge
                refine ⟨_, _, ext ρ s.H.length w.heap.size, _, _, hcap, by rw [E, ← hxv]; simp only [Sx.val, T.cv, sc, hrun, Result.andThen_ok]; rfl, ⟨_, .inl rfl, ?_, ?_⟩, ?_, fun r hr => ext_old hr, by simp⟩
                · simp only [Sx.val, T.cv, sc, pla, ext_new, off, Nat.add_zero, Nat.zero_mul]
                · show s.H.length < (s.H ++ [_]).length
                  simp
                · have hw' : WRel c ρ s.H w.drew := hr.drawn _
                  have := hw'.alloc (cs := (flat ρ m src).toArray ++ Builtin.zeroCells zv.cells (grownCap w m 0 e - m)) (el := e) (g := rowReg e m z.size (grownCap w m 0 e) src) rfl rfl rfl ?_ gsrc ?_
                  · exact this
                  · simp only [rowReg, Array.size_append, List.size_toArray, size_zeroCells, hzs]
                    rw [← flat_arr (sz := z.size), hflen]
                    simp only [T.size, ← Nat.add_mul]
                    exact Nat.le_of_eq (by congr 1; omega)
                  · intro k hk
                    simp only [rowReg] at hk ⊢
                    rw [flat_arr]
                    have hk2 : k < (flat ρ m src).length := by rw [← flat_arr (sz := z.size), hflen]; exact hk
                    rw [Array.getElem?_append_left (by simpa using hk2), List.getElem?_toArray]
            · rename_i r i' lo sz' n cap
              split at h
              · rename_i g hg0
                split at h
                · rename_i N sz2 f hfl hcnt
                  simp only [Bool.and_eq_true] at hfl
                  obtain ⟨⟨⟨hp, hown⟩, hel⟩, hszb⟩ := hfl
                  have hel := beq_nat hel
                  have hszb := beq_nat hszb
                  subst hel
                  split at h
                  · rename_i hb2
                    have hb2 := beq_nat hb2
                    subst hb2
                    obtain ⟨⟨rfl, hnN, hnc, hct, b1, b2, hfs, hss⟩, h⟩ := h
                    rw [hby] at b1
                    obtain ⟨hxv, _⟩ := hx
                    have hh0 : g.has 0 := by simp [Reg.has, hp]
                    have hat : g.at 0 = g.c 0 := by simp [Reg.at, hp]
                    obtain ⟨ho0, arr, harr, htot⟩ := hr.hok.own r g 0 hg0 hh0 hown
                    obtain ⟨gd, hdd⟩ := hr.hok.holds r g 0 hg0 hh0
                    rw [hat, hcnt] at gd hdd
                    rw [ho0] at hdd
                    have hwc : wc w (ρ r 0).1 = fun k => arr[k]? := funext fun k => by simp [wc, World.cell?, harr]
                    rw [hwc] at hdd
                    have gold : Good s.H.length (.arr n z.size f) := fun j hj => gd j (by omega)
                    have hold : Holds ρ (fun k => arr[k]?) (.arr n z.size f) 0 := fun j hj => hdd j (by omega)
                    have holen := cells_len (ρ := ρ) gold
                    have gnew : Good s.H.length (.arr (n + m) z.size fun j => .ite (Nat.blt j n) (f j) (src (j - n))) := by
                      intro j hj
                      refine ⟨hfs j, by rw [hfs, hss], fun hb => ?_, fun hb => ?_⟩
                      · rw [Nat.blt_eq] at hb
                        exact (gd j (by omega)).2
                      · have hjn : ¬ j < n := fun h => by rw [← Nat.blt_eq, hb] at h; cases h
                        exact (gsrc (j - n) (by omega)).2
                    have hcat : cells ρ (.arr (n + m) z.size fun j => .ite (Nat.blt j n) (f j) (src (j - n))) = cells ρ (.arr n z.size f) ++ flat ρ m src := by
                      rw [flat_arr, flat_arr]
                      simp only [flat, List.range_add, List.flatMap_append, List.flatMap_map]
                      congr 1
                      · rw [List.flatMap_def, List.flatMap_def]
                        congr 1
                        refine List.map_congr_left fun j hj => ?_
                        have hb : Nat.blt j n = true := by rw [Nat.blt_eq]; exact List.mem_range.1 hj
                        rw [hb]
                        rfl
                      · rw [List.flatMap_def, List.flatMap_def]
                        congr 1
                        refine List.map_congr_left fun j hj => ?_
                        have hb : Nat.blt (n + j) n = false := by
                          cases e : Nat.blt (n + j) n with
                          | false => rfl
                          | true => rw [Nat.blt_eq] at e; omega
                        rw [hb, Nat.add_sub_cancel_left]
                        rfl
                    have hnlen : (flat ρ m src).length = m * z.size := by rw [← flat_arr (sz := z.size), hflen]; rfl
                    have holen : (cells ρ (.arr n z.size f)).length = n * z.size := holen
                    have hx0 : a.eval x = .slice (some ⟨(ρ r 0).1, 0, none⟩) n cap := by
                      rw [← hxv]
                      simp only [Sx.val, T.cv, sc, pla, off, ho0, Nat.zero_mul, Nat.add_zero]
                    by_cases hroom : n + m ≤ cap
                    · have hcs : (n + m) * z.size ≤ cap * z.size := Nat.mul_le_mul_right _ hroom
                      rw [Nat.add_mul] at hcs
                      have hfit : n * z.size + (flat ρ m src).length ≤ arr.size := by rw [hnlen]; omega
                      have hrun := app_room (ty := o.type) hu1 hu2 hd hi harr hsrc hroom (by rw [← hsi]; exact hfit)
                      have hsp := splice_get (cs := arr) (o := n * z.size) (vs := flat ρ m src) hfit
                      refine ⟨_, _, ext ρ s.H.length (ρ r 0).1, _, _, h cap hroom, by rw [E, hx0, hrun, Result.andThen_ok], ⟨_, .inl rfl, ?_, ?_⟩, ?_, fun r hr => ext_old hr, by simp [setReg_eq]⟩
                      · simp only [Sx.val, T.cv, sc, pla, ext_new, off, Nat.add_zero, Nat.zero_mul]
                      · show s.H.length < (setReg s.H r dead ++ [_]).length
                        simp [setReg_eq]
                      · rw [← hsi]
                        refine hr.hand (g' := rowReg g.el (n + m) z.size cap _) hg0 hp hown harr (splice_size hfit) rfl rfl ?_ gnew ?_
                        · rw [splice_size hfit]; exact Nat.le_trans hct htot
                        · refine holds_of_cells gnew fun k hk => ?_
                          have hk : k < (n + m) * z.size := hk
                          rw [Nat.add_mul] at hk
                          show (splice arr (n * z.size) (flat ρ m src))[0 + k]? = (cells ρ (.arr (n + m) z.size fun j => .ite (Nat.blt j n) (f j) (src (j - n))))[k]?
                          rw [hcat, Nat.zero_add, hsp]
                          by_cases hkn : k < n * z.size
                          · rw [if_neg (by omega), List.getElem?_append_left (by omega)]
                            have := holds_cells gold hold k hkn
                            rw [Nat.zero_add] at this
                            exact this
                          · rw [if_pos (by omega), List.getElem?_append_right (by omega), holen]
                    · have hgt : cap < n + m := by omega
                      have hrun := app_grow (ty := o.type) (sLen := n) (sCap := cap) (n := m) (b := ⟨(ρ r 0).1, 0, none⟩) (olds := cells ρ (.arr n z.size f)) hu1 hu2 hd hi hzv (by rw [holen, hsi]) (fun j v hv => by
                        have hj : j < n * z.size := by have := (List.getElem?_eq_some_iff.1 hv).1; omega
                        have := holds_cells gold hold j hj
                        rw [hv, Nat.zero_add] at this
                        have e1 : (⟨(ρ r 0).1, 0, none⟩ : Addr).add j = ⟨(ρ r 0).1, j, none⟩ := by unfold Addr.add; split <;> simp_all
                        rw [e1]
                        simp only [World.cell?, harr]
                        exact this) hsrc hgt (by omega) (growslice_fits hgt b1)
                      have hge := grownCap_ge w (n + m) cap g.el
                      have hw' : WRel c ρ (setReg s.H r dead) w.drew := (hr.drawn _).kill r
                      have hl' : (setReg s.H r dead).length = s.H.length := by simp [setReg_eq]
                      refine ⟨_, _, ext ρ s.H.length w.heap.size, _, _, h _ hge, by rw [E, hx0, hrun, Result.andThen_ok], ⟨_, .inl rfl, ?_, ?_⟩, ?_, fun r hr => ext_old hr, by simp [setReg_eq]⟩
                      · simp only [Sx.val, T.cv, sc, pla, ext_new, off, Nat.add_zero, Nat.zero_mul]
                      · show s.H.length < (setReg s.H r dead ++ [_]).length
                        simp [setReg_eq]
                      · have := hw'.alloc (cs := (cells ρ (.arr n z.size f)).toArray ++ (flat ρ m src).toArray ++ Builtin.zeroCells zv.cells (grownCap w (n + m) cap g.el - (n + m))) (el := g.el)
                          (g := rowReg g.el (n + m) z.size (grownCap w (n + m) cap g.el) fun j => .ite (Nat.blt j n) (f j) (src (j - n))) rfl rfl rfl ?_ (by rw [hl']; exact gnew) ?_
                        · rw [hl'] at this
                          exact this
                        · simp only [rowReg, Array.size_append, List.size_toArray, size_zeroCells, hzs, holen, hnlen]
                          rw [← Nat.add_mul, ← Nat.add_mul]
                          exact Nat.le_of_eq (by congr 1; omega)
                        · intro k hk
                          simp only [rowReg] at hk ⊢
                          have hk : k < (n + m) * z.size := hk
                          rw [Nat.add_mul] at hk
                          rw [hcat, Array.getElem?_append_left (by simp only [Array.size_append, List.size_toArray]; omega)]
                          rw [List.append_toArray, List.getElem?_toArray]
                  · exact h.elim
                · exact h.elim
              · exact h.elim
            · exact h.elim
        · exact h.elim
      · exact h.elim
    · exact h.elim
  · rename_i heq _; cases heq
  · rename_i heq _; cases heq
  · rename_i heq _; cases heq
  · rename_i heq _; cases heq
  · exact h.elim

end
end Go.Sx
