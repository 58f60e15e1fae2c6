import Derived.Test.YtjofnajamlmllaaDoorSxApp
namespace Go.Sx

/-! ## append to a slice that begins anywhere; copy; clear -/
section
variable {P : Program}

theorem app_roomL {t t2 ty e el : TypeId} {d : TypeDesc} {i : TypeInfo} {w : World} (ht : P.underlying t = some (.slice e)) (ht2 : P.underlying t2 = some d) (hd : rowLike d = true) (hi : P.info? e = some i)
    {g o sLen sCap : Nat} {cur : Array Value} (hg : w.heap[g]? = some (.cells cur el (0, 0))) {x : Value} {m : Nat} {news : List Value} (hx : AppSrc P i.size m x news w)
    (hroom : sLen + m ≤ sCap) (hfit : o + sLen * i.size + news.length ≤ cur.size) :
    (Builtin.append_ #[t, t2] ty #[.slice (some ⟨g, o, none⟩) sLen sCap, x]).run P w = .ok (.slice (some ⟨g, o, none⟩) (sLen + m) sCap) (w.setRow g (splice cur (o + sLen * i.size) news)) := by
  have hf := hx.cells w rfl
  have hl := hx.len w
  have hst := run_storeCells_at P g (o + sLen * i.size) el news 0 cur w hg (by simpa using hfit) hx.one
  simp only [Nat.add_zero] at hst
  cases d <;> first | cases hd | skip
  all_goals
    simp [Builtin.append_, run_underlying ht, run_underlying ht2, sizeOf, typeInfo, hi, hl, hroom, hf, Addr.add_lit, hst]
    rw [splice, List.append_assoc]

theorem app_roomZ {t t2 ty e el : TypeId} {k k' : IntKind} {i : TypeInfo} {z : Value} {w : World} (ht : P.underlying t = some (.slice e)) (ht2 : P.underlying t2 = some (.int k)) (hi : P.info? e = some i) (hz : i.zero = some z)
    {g o sLen sCap : Nat} {cur : Array Value} (hg : w.heap[g]? = some (.cells cur el (0, 0))) {j : Int} {m : Nat} (h0 : 0 ≤ j) (h1 : j ≤ 9223372036854775807) (hm : m = j.toNat) (hb : m * i.bytes ≤ 281474976710656)
    (hzs : z.cells.size = i.size) (hone : ∀ u ∈ (Builtin.zeroCells z.cells m).toList, u.oneCell' = true)
    (hroom : sLen + m ≤ sCap) (hfit : o + sLen * i.size + m * i.size ≤ cur.size) :
    (Builtin.append_ #[t, t2] ty #[.slice (some ⟨g, o, none⟩) sLen sCap, .int k' j]).run P w = .ok (.slice (some ⟨g, o, none⟩) (sLen + m) sCap) (w.setRow g (splice cur (o + sLen * i.size) (Builtin.zeroCells z.cells m).toList)) := by
  have hlen : (Builtin.zeroCells z.cells m).toList.length = m * i.size := by rw [Array.length_toList, size_zeroCells, hzs]
  have hst := run_storeCells_at P g (o + sLen * i.size) el (Builtin.zeroCells z.cells m).toList 0 cur w hg (by rw [hlen]; simpa using hfit) hone
  simp only [Nat.add_zero] at hst
  have hw : IntKind.i64.wrap j = j := by rw [IntKind.wrap_i64]; omega
  have hj : ¬ (j < 0) := by omega
  have hbi : ¬ (281474976710656 < j * (i.bytes : Int)) := by
    have : j = (m : Int) := by omega
    rw [this, ← Int.natCast_mul]
    generalize m * i.bytes = q at hb
    omega
  subst hm
  have hk : (Sem.run P (asIntOf (Value.int k' j)) w) = .ok (k', j) w := rfl
  by_cases hn : j.toNat * i.size = 0
  · have e0 : Builtin.zeroCells z.cells j.toNat = #[] := by
      apply Array.eq_empty_of_size_eq_zero
      rw [size_zeroCells, hzs, hn]
    rw [e0] at hst
    simp [Builtin.append_, run_underlying ht, run_underlying ht2, sizeOf, typeInfo, asInt, hi, hk, hw, hj, hbi, hroom, hn, Addr.add_lit]
    rw [e0]
    simp only [splice]
    simp at hst ⊢
    rw [hst]
    rfl
  · simp [Builtin.append_, run_underlying ht, run_underlying ht2, sizeOf, typeInfo, zeroValue, asInt, hi, hz, hk, hw, hj, hbi, hroom, hn, Addr.add_lit, hst]
    rw [splice, List.append_assoc, Array.length_toList]

theorem app_growZ {t t2 ty e : TypeId} {k k' : IntKind} {i : TypeInfo} {z : Value} {w : World} (ht : P.underlying t = some (.slice e)) (ht2 : P.underlying t2 = some (.int k)) (hi : P.info? e = some i) (hz : i.zero = some z)
    {b : Addr} {sLen sCap : Nat} {olds : List Value} (hlo : olds.length = sLen * i.size) (holds : ∀ j v, olds[j]? = some v → w.cell? (b.add j) = some v)
    {j : Int} {n : Nat} (h0 : 0 ≤ j) (h1 : j ≤ 9223372036854775807) (hm : n = j.toNat) (hb : n * i.bytes ≤ 281474976710656) (hzs : z.cells.size = i.size)
    (hg : sCap < sLen + n) (h63 : ((sLen + n : Nat) : Int) ≤ 9223372036854775807) (hfit : Builtin.nextslicecap (sLen + n) sCap * i.bytes ≤ 281474976710656) :
    (Builtin.append_ #[t, t2] ty #[.slice (some b) sLen sCap, .int k' j]).run P w =
      .ok (.slice (some ⟨w.heap.size, 0, none⟩) (sLen + n) (grownCap w (sLen + n) sCap e))
        (w.drew.alloc (.cells (olds.toArray ++ Builtin.zeroCells z.cells n ++ Builtin.zeroCells z.cells (grownCap w (sLen + n) sCap e - (sLen + n))) e)) := by
  have hn : ¬ (sLen + n ≤ sCap) := by omega
  have h48' : ¬ (281474976710656 < Builtin.nextslicecap (sLen + n) sCap * i.bytes) := by omega
  have hfo := run_firstCells_some (P := P) w.drew i.size sLen b sLen sCap olds hlo (by simpa using holds)
  have hw : IntKind.i64.wrap j = j := by rw [IntKind.wrap_i64]; omega
  have hj : ¬ (j < 0) := by omega
  have hbi : ¬ (281474976710656 < j * (i.bytes : Int)) := by
    have : j = (n : Int) := by omega
    rw [this, ← Int.natCast_mul]
    generalize n * i.bytes = q at hb
    omega
  subst hm
  have hk : (Sem.run P (asIntOf (Value.int k' j)) w) = .ok (k', j) w := rfl
  have h63'' : ¬ (9223372036854775807 < (sLen : Int) + max j 0) := by omega
  by_cases hn0 : j.toNat * i.size = 0
  · have e0 : Builtin.zeroCells z.cells j.toNat = #[] := by
      apply Array.eq_empty_of_size_eq_zero
      rw [size_zeroCells, hzs, hn0]
    simp [Builtin.append_, run_underlying ht, run_underlying ht2, sizeOf, typeInfo, zeroValue, asInt, hi, hz, hk, hw, hj, hbi, hn0, hn, h63'', h48', Question.forced, hfo, newRow, grownCap, e0]
  · simp [Builtin.append_, run_underlying ht, run_underlying ht2, sizeOf, typeInfo, zeroValue, asInt, hi, hz, hk, hw, hj, hbi, hn0, hn, h63'', h48', Question.forced, hfo, newRow, grownCap]

theorem app_nil0Z {t t2 ty e : TypeId} {k k' : IntKind} {i : TypeInfo} {w : World} (ht : P.underlying t = some (.slice e)) (ht2 : P.underlying t2 = some (.int k)) (hi : P.info? e = some i) :
    (Builtin.append_ #[t, t2] ty #[.slice none 0 0, .int k' 0]).run P w = .ok (.slice none 0 0) w := by
  have hw : IntKind.i64.wrap 0 = 0 := by decide
  have hk : (Sem.run P (asIntOf (Value.int k' 0)) w) = .ok (k', 0) w := rfl
  simp [Builtin.append_, run_underlying ht, run_underlying ht2, sizeOf, typeInfo, asInt, hi, hk, hw]

theorem app_nilZ {t t2 ty e : TypeId} {k k' : IntKind} {i : TypeInfo} {z : Value} {w : World} (ht : P.underlying t = some (.slice e)) (ht2 : P.underlying t2 = some (.int k)) (hi : P.info? e = some i) (hz : i.zero = some z)
    {j : Int} {n : Nat} (h0 : 0 ≤ j) (h1 : j ≤ 9223372036854775807) (hm : n = j.toNat) (hb : n * i.bytes ≤ 281474976710656) (hn1 : 0 < n) (hzs : z.cells.size = i.size) :
    (Builtin.append_ #[t, t2] ty #[.slice none 0 0, .int k' j]).run P w =
      .ok (.slice (some ⟨w.heap.size, 0, none⟩) n (grownCap w n 0 e)) (w.drew.alloc (.cells (Builtin.zeroCells z.cells n ++ Builtin.zeroCells z.cells (grownCap w n 0 e - n)) e)) := by
  have hn : ¬ n = 0 := by omega
  have h48' : ¬ (281474976710656 < Builtin.nextslicecap n 0 * i.bytes) := by rw [nextslicecap_zero hn1]; omega
  have hw : IntKind.i64.wrap j = j := by rw [IntKind.wrap_i64]; omega
  have hj : ¬ (j < 0) := by omega
  have hj0 : ¬ (j ≤ 0) := by omega
  have hbi : ¬ (281474976710656 < j * (i.bytes : Int)) := by
    have : j = (n : Int) := by omega
    rw [this, ← Int.natCast_mul]
    generalize n * i.bytes = q at hb
    omega
  subst hm
  have hk : (Sem.run P (asIntOf (Value.int k' j)) w) = .ok (k', j) w := rfl
  have h63'' : ¬ (9223372036854775807 < max j 0) := by omega
  by_cases hn0 : j.toNat * i.size = 0
  · have e0 : Builtin.zeroCells z.cells j.toNat = #[] := by
      apply Array.eq_empty_of_size_eq_zero
      rw [size_zeroCells, hzs, hn0]
    simp [Builtin.append_, run_underlying ht, run_underlying ht2, sizeOf, typeInfo, zeroValue, asInt, hi, hz, hk, hw, hj, hj0, hbi, hn0, hn, h63'', h48', Question.forced, run_firstCells_none, newRow, grownCap, e0]
  · simp [Builtin.append_, run_underlying ht, run_underlying ht2, sizeOf, typeInfo, zeroValue, asInt, hi, hz, hk, hw, hj, hj0, hbi, hn0, hn, h63'', h48', Question.forced, run_firstCells_none, newRow, grownCap]

structure AppRun (P : Program) (t t2 ty e : TypeId) (i : TypeInfo) (z : Value) (x : Value) (m : Nat) (news : List Value) (w : World) : Prop where
  room : ∀ {g o sLen sCap : Nat} {cur : Array Value} {el : TypeId}, w.heap[g]? = some (.cells cur el (0, 0)) → m * i.bytes ≤ 281474976710656 → sLen + m ≤ sCap → o + sLen * i.size + news.length ≤ cur.size →
    (Builtin.append_ #[t, t2] ty #[.slice (some ⟨g, o, none⟩) sLen sCap, x]).run P w = .ok (.slice (some ⟨g, o, none⟩) (sLen + m) sCap) (w.setRow g (splice cur (o + sLen * i.size) news))
  grow : ∀ {b : Addr} {sLen sCap : Nat} {olds : List Value}, olds.length = sLen * i.size → (∀ j v, olds[j]? = some v → w.cell? (b.add j) = some v) → m * i.bytes ≤ 281474976710656 → sCap < sLen + m → ((sLen + m : Nat) : Int) ≤ 9223372036854775807 →
    Builtin.nextslicecap (sLen + m) sCap * i.bytes ≤ 281474976710656 →
    (Builtin.append_ #[t, t2] ty #[.slice (some b) sLen sCap, x]).run P w =
      .ok (.slice (some ⟨w.heap.size, 0, none⟩) (sLen + m) (grownCap w (sLen + m) sCap e))
        (w.drew.alloc (.cells (olds.toArray ++ news.toArray ++ Builtin.zeroCells z.cells (grownCap w (sLen + m) sCap e - (sLen + m))) e))
  nil0 : m = 0 → (Builtin.append_ #[t, t2] ty #[.slice none 0 0, x]).run P w = .ok (.slice none 0 0) w
  nil : 0 < m → (m : Int) ≤ 9223372036854775807 → m * i.bytes ≤ 281474976710656 →
    (Builtin.append_ #[t, t2] ty #[.slice none 0 0, x]).run P w =
      .ok (.slice (some ⟨w.heap.size, 0, none⟩) m (grownCap w m 0 e)) (w.drew.alloc (.cells (news.toArray ++ Builtin.zeroCells z.cells (grownCap w m 0 e - m)) e))

variable {C : Cfg} {q : Bool} {c : Ctx} {ρ : Rho} {s : S} {a : Act} {o : Oper} {K : R → List Reg → Prop}

theorem zero_flat {n m : Nat} {z : T} {zv : Value} (hc : zv.cells.toList = cells ρ z) (hlz : (cells ρ z).length = z.size) (h0 : z.size ≠ 0) : (Builtin.zeroCells zv.cells m).toList = flat ρ m (fun _ => z) := by
  have hzs : zv.cells.size = z.size := by rw [← Array.length_toList, hc, hlz]
  apply List.ext_getElem?
  intro k
  have hfl : (flat ρ m fun _ => z).length = m * z.size := by
    simp only [flat]
    rw [flatMap_len (sz := z.size) _ _ (fun _ _ => hlz), List.length_range]
  by_cases hk : k < m * z.size
  · have hj : k / z.size < m := Nat.div_lt_of_lt_mul (by rw [Nat.mul_comm]; exact hk)
    have hk2 : k % z.size < z.size := Nat.mod_lt _ (by omega)
    have ek : k = k / z.size * z.size + k % z.size := by rw [Nat.mul_comm]; exact (Nat.div_add_mod k z.size).symm
    have h1 : (flat ρ m fun _ => z)[k]? = (cells ρ z)[k % z.size]? := by
      simp only [flat]
      rw [ek]
      have := flatMap_get (fun _ => cells ρ z) (List.range m) (k / z.size) (k % z.size) (k / z.size) (fun _ _ => hlz) (by simp [hj]) hk2
      rw [this]
      congr 1
      rw [Nat.mul_comm, Nat.mul_add_mod, Nat.mod_mod]
    rw [h1]
    simp only [Builtin.zeroCells, Array.toList_map, List.getElem?_map, Array.getElem?_toList, Array.getElem?_range, hzs, if_pos hk, Option.map_some]
    rw [← hc, Array.getElem?_toList, getElem?_pos zv.cells _ (by omega), getElem!_pos zv.cells _ (by omega)]
  · rw [List.getElem?_eq_none (by rw [Array.length_toList, size_zeroCells, hzs]; omega), List.getElem?_eq_none (by omega)]

theorem srcAny_spec {d : TypeDesc} {e t1 t2 ty : TypeId} {i : TypeInfo} {zv : Value} {z : T} {H : List Reg} {L : Nat → (Nat → T) → Prop} {t : T} {v : Value} (h : srcAny d H z L t) (hs : SlOk ρ H.length t v) {w : World} (hk : HOk ρ H w)
    (hu1 : P.underlying t1 = some (.slice e)) (hu2 : P.underlying t2 = some d) (hi : P.info? e = some i) (hzv : i.zero = some zv) (hg : Good H.length z) (hc : zv.cells.toList = cells ρ z) (hsi : z.size = i.size) (h0 : z.size ≠ 0) :
    ∃ m src, L m src ∧ AppRun P t1 t2 ty e i zv v m (flat ρ m src) w ∧ Good H.length (.arr m z.size src) := by
  have hlz := cells_len (ρ := ρ) hg
  have hzs : zv.cells.size = z.size := by rw [← Array.length_toList, hc, hlz]
  unfold srcAny at h
  split at h
  · rename_i k
    split at h
    · rename_i j hj
      obtain ⟨k', rfl⟩ := intOf_some hj
      obtain ⟨rfl, _⟩ := hs
      obtain ⟨⟨b0, b1⟩, hL⟩ := h
      have hf := zero_flat (n := H.length) (m := j.toNat) hc hlz h0
      have hga : Good H.length (.arr j.toNat z.size (fun _ => z)) := fun j hj => ⟨rfl, hg⟩
      refine ⟨j.toNat, fun _ => z, hL, ⟨fun {g o sLen sCap cur el} h1 h2 h3 h4 => ?_, fun {b sLen sCap olds} h1 h2 h3 h4 h5 h6 => ?_, fun h1 => ?_, fun h1 h2 h3 => ?_⟩, hga⟩
      · rw [← hf]
        have hl : (flat ρ j.toNat fun _ => z).length = j.toNat * z.size := by rw [← flat_arr (sz := z.size)]; exact cells_len hga
        exact app_roomZ hu1 hu2 hi hzv h1 b0 b1 rfl h2 (by rw [hzs, hsi]) (fun u hu => by rw [hf, ← flat_arr (sz := z.size)] at hu; exact oneCell_cells hga u hu) h3 (by rw [hl, hsi] at h4; exact h4)
      · rw [← hf, Array.toArray_toList]
        exact app_growZ hu1 hu2 hi hzv h1 h2 b0 b1 rfl h3 (by rw [hzs, hsi]) h4 h5 h6
      · have e0 : j = 0 := by omega
        subst e0
        exact app_nil0Z hu1 hu2 hi
      · rw [← hf, Array.toArray_toList]
        exact app_nilZ hu1 hu2 hi hzv b0 b1 rfl h3 h1 (by rw [hzs, hsi])
    · exact h.elim
  · rename_i hni
    split at h
    · rename_i hd
      obtain ⟨m, src, hL, hsrc, gsrc⟩ := srcRow_spec (P := P) h hs hk
      rw [hsi] at hsrc
      exact ⟨m, src, hL, ⟨fun h1 _ h3 h4 => app_roomL hu1 hu2 hd hi h1 hsrc h3 h4, fun h1 h2 _ h4 h5 h6 => app_grow hu1 hu2 hd hi hzv h1 h2 hsrc h4 h5 h6, fun h => (by subst h; exact app_nil0 hu1 hu2 hd hi hsrc), fun h1 h2 h3 => app_nil hu1 hu2 hd hi hzv hsrc h1 h2 h3⟩, gsrc⟩
    · exact h.elim

/-- Some elements are written. -/
theorem putRow_spec {H : List Reg} {w : World} (hr : WRel c ρ H w) {sz r lo k : Nat} {src : Nat → T} {L : List Reg → Prop} (h : putRow H sz r lo k src L) (gsrc : Good H.length (.arr k sz src)) :
    ∃ t g arr, w.heap[(ρ r 0).1]? = some (.cells arr g.el (0, 0)) ∧ (ρ r 0).2 = 0 ∧ lo * sz + (flat ρ k src).length ≤ arr.size ∧ (flat ρ k src).length = k * sz ∧ L (setReg H r (regSet g 0 t)) ∧ (setReg H r (regSet g 0 t)).length = H.length ∧
      WRel c ρ (setReg H r (regSet g 0 t)) (w.setRow (ρ r 0).1 (splice arr (lo * sz) (flat ρ k src))) := by
  unfold putRow at h
  split at h
  · rename_i g hg0
    split at h
    · rename_i N sz2 f hfl hcnt
      simp only [Bool.and_eq_true] at hfl
      obtain ⟨hp, hown⟩ := hfl
      split at h
      · rename_i hb2
        have hb2 := beq_nat hb2
        subst hb2
        obtain ⟨⟨hlo, htt, hfs, hss⟩, hL⟩ := h
        have hh0 : g.has 0 := by simp [Reg.has, hp]
        have hat : g.at 0 = g.c 0 := by simp [Reg.at, hp]
        obtain ⟨ho0, arr, harr, htot⟩ := hr.hok.own r g 0 hg0 hh0 hown
        obtain ⟨gd, hdd⟩ := hr.hok.holds r g 0 hg0 hh0
        rw [hat, hcnt] at gd hdd
        rw [ho0] at hdd
        have hwc : wc w (ρ r 0).1 = fun k => arr[k]? := funext fun k => by simp [wc, World.cell?, harr]
        rw [hwc] at hdd
        have hflen := cells_len (ρ := ρ) gsrc
        have hnlen : (flat ρ k src).length = k * sz := by rw [← flat_arr (sz := sz), hflen]; rfl
        have e3 : lo * sz + k * sz = (lo + k) * sz := (Nat.add_mul _ _ _).symm
        have hfit : lo * sz + (flat ρ k src).length ≤ arr.size := by rw [hnlen, e3]; omega
        have hsp := splice_get (cs := arr) (o := lo * sz) (vs := flat ρ k src) hfit
        have gnew : Good H.length (.arr (if N ≤ lo + k then lo + k else N) sz (fun j => .ite (Nat.blt j lo) (f j) (.ite (Nat.blt j (lo + k)) (src (j - lo)) (f j)))) := by
          intro j hj
          refine ⟨hfs _, by show (f j).size = (src (j - lo)).size; rw [hfs, hss], fun hb => ?_, fun hb => ⟨by rw [hfs, hss], fun hb2 => ?_, fun hb2 => ?_⟩⟩
          · rw [Nat.blt_eq] at hb
            exact (gd _ (by omega)).2
          · have hj1 : ¬ j < lo := fun h => by rw [← Nat.blt_eq, hb] at h; cases h
            rw [Nat.blt_eq] at hb2
            exact (gsrc (j - lo) (by omega)).2
          · have hj1 : ¬ j < lo + k := fun h => by rw [← Nat.blt_eq, hb2] at h; cases h
            refine (gd j ?_).2
            split at hj <;> omega
        refine ⟨_, g, arr, harr, ho0, hfit, hnlen, hL, by simp [setReg_eq], hr.write hg0 hh0 hown harr (splice_size hfit) gnew ?_⟩
        intro j hj
        rw [Nat.zero_add]
        have hst := mul_step (sz := sz) (Nat.lt_succ_self j)
        refine ⟨fun hb => ?_, fun hb => ⟨fun hb2 => ?_, fun hb2 => ?_⟩⟩
        · rw [Nat.blt_eq] at hb
          have h1 := hdd j (by omega)
          rw [Nat.zero_add] at h1
          refine holds_congr (gd j (by omega)).2 (fun k' h2 h3 => ?_) h1
          show (splice arr (lo * sz) (flat ρ k src))[k']? = arr[k']?
          rw [hfs] at h3
          have := mul_step (sz := sz) hb
          rw [hsp, if_neg (by omega)]
        · have hj1 : ¬ j < lo := fun h => by rw [← Nat.blt_eq, hb] at h; cases h
          rw [Nat.blt_eq] at hb2
          refine holds_of_cells (gsrc (j - lo) (by omega)).2 fun k' hk' => ?_
          show (splice arr (lo * sz) (flat ρ k src))[j * sz + k']? = _
          rw [hss] at hk'
          have e4 : j * sz = lo * sz + (j - lo) * sz := by rw [← Nat.add_mul]; congr 1; omega
          have h6 := mul_step (sz := sz) (show j - lo < k by omega)
          rw [hsp, if_pos (by rw [hnlen]; omega)]
          have := flatMap_get (fun j => cells ρ (src j)) (List.range k) (j - lo) k' (j - lo) (sz := sz) (fun j' hj' => by rw [cells_len (gsrc j' (List.mem_range.1 hj')).2, hss]) (by rw [List.getElem?_range (by omega)]) hk'
          rw [show j * sz + k' - lo * sz = (j - lo) * sz + k' by omega]
          exact this
        · have hj1 : ¬ j < lo + k := fun h => by rw [← Nat.blt_eq, hb2] at h; cases h
          have hjN : j < N := by split at hj <;> omega
          have h1 := hdd j hjN
          rw [Nat.zero_add] at h1
          refine holds_congr (gd j hjN).2 (fun k' h2 h3 => ?_) h1
          show (splice arr (lo * sz) (flat ρ k src))[k']? = arr[k']?
          have : (lo + k) * sz ≤ j * sz := Nat.mul_le_mul_right _ (by omega)
          rw [hsp, if_neg (by rw [hnlen]; omega)]
      · exact h.elim
    · exact h.elim
  · exact h.elim

theorem op_appendL (hlow : C.lows = true) (hs : SlotsOk ρ s.H.length s.sl a.tmps) {w : World} (hr : WRel c ρ s.H w) {cl : Call} (ho : o.op = .call cl) (hb : cl.callee = .builtin .append) (h : opK P C q s K o) : q = false ∧ EffStep P c ρ s a o K w := by
  obtain ⟨callee, args, ats⟩ := cl
  simp only at hb
  subst hb
  simp only [opK, ho] at h
  split at h
  · rename_i heq _; cases heq
  · rename_i heq _; cases heq
  · rename_i x y _ hargs
    have hargs := two_args hargs
    subst hargs
    split at h
    · rename_i t1 t2 hats
      have hats : ats = #[t1, t2] := by rw [← ats.toArray_toList, hats]
      subst hats
      split at h
      · rename_i e d hu1 hu2
        rw [hlow] at h
        simp only at h
        split at h
        · rename_i z hz
          split at h
          · exact h.elim
          · rename_i hz0
            have h0 : z.size ≠ 0 := fun e => by rw [e] at hz0; cases hz0
            refine ⟨rfl, ?_⟩
            obtain ⟨tx, h1, hx⟩ := force_spec h (read_ok hs x)
            clear h
            obtain ⟨ty, h2, hy⟩ := forceP_spec h1 (read_ok hs y)
            clear h1
            obtain ⟨i, zv, hi, hzv, hg, hc, hsi, hce⟩ := zeroOf_spec (ρ := ρ) (n := s.H.length) hz
            obtain ⟨m, src, h, hsrc, gsrc⟩ := srcAny_spec (ty := o.type) h2 hy hr.hok hu1 hu2 hi hzv hg hc hsi h0
            clear h2
            have hlz := cells_len (ρ := ρ) hg
            have hzs : zv.cells.size = z.size := by rw [← Array.length_toList, hc, hlz]
            have hby := bytesOf_info hi
            have E : (execOp a.eval o).run P w = ((Builtin.append_ #[t1, t2] o.type #[a.eval x, a.eval y]).run P w).andThen fun v w' => .ok (.value v) w' := by
              simp only [execOp, ho, resolve, invoke, builtin, Sem.run_bind, Sem.run_pure, Result.andThen_ok, List.map_toArray, List.map_cons, List.map_nil]
            have hflen := cells_len (ρ := ρ) gsrc
            unfold appL at h
            split at h
            · -- from nil
              obtain ⟨hxv, _⟩ := hx
              by_cases hm : m = 0
              · have hrun := hsrc.nil0 hm
                refine ⟨.nils, s.H, ρ, w, _, h.1 hm, by rw [E, ← hxv]; simp only [Sx.val, T.cv, sc, hrun, Result.andThen_ok], ⟨_, .inl rfl, rfl, trivial⟩, hr, fun _ _ => rfl, Nat.le_refl _⟩
              · obtain ⟨b1, b2, h⟩ := h.2 hm
                rw [hby] at b1
                have hrun := hsrc.nil (by omega) (by omega) (by omega)
                have hge := grownCap_ge w m 0 e
                have hcap := h _ hge
                refine ⟨_, _, ext ρ s.H.length w.heap.size, _, _, hcap, by rw [E, ← hxv]; simp only [Sx.val, T.cv, sc, hrun, Result.andThen_ok]; rfl, ⟨_, .inl rfl, ?_, ?_⟩, ?_, fun r hr => ext_old hr, by simp⟩
                · simp only [Sx.val, T.cv, sc, pla, ext_new, off, Nat.add_zero, Nat.zero_mul]
                · show s.H.length < (s.H ++ [_]).length
                  simp
                · have hw' : WRel c ρ s.H w.drew := hr.drawn _
                  have := hw'.alloc (cs := (flat ρ m src).toArray ++ Builtin.zeroCells zv.cells (grownCap w m 0 e - m)) (el := e) (g := rowReg e m z.size (grownCap w m 0 e) src) rfl rfl rfl ?_ gsrc ?_
                  · exact this
                  · simp only [rowReg, Array.size_append, List.size_toArray, size_zeroCells, hzs]
                    rw [← flat_arr (sz := z.size), hflen]
                    simp only [T.size, ← Nat.add_mul]
                    exact Nat.le_of_eq (by congr 1; omega)
                  · intro k hk
                    simp only [rowReg] at hk ⊢
                    rw [flat_arr]
                    have hk2 : k < (flat ρ m src).length := by rw [← flat_arr (sz := z.size), hflen]; exact hk
                    rw [Array.getElem?_append_left (by simpa using hk2), List.getElem?_toArray]
            · rename_i r i' lo sz' n cap
              split at h
              · rename_i g hg0
                split at h
                · rename_i N sz2 f hfl hcnt
                  simp only [Bool.and_eq_true] at hfl
                  obtain ⟨⟨hp, hown⟩, hszb⟩ := hfl
                  have hszb := beq_nat hszb
                  split at h
                  · rename_i hb2
                    have hb2 := beq_nat hb2
                    subst hb2
                    obtain ⟨hroomK, hgrowK⟩ := h
                    obtain ⟨hxv, _⟩ := hx
                    have hh0 : g.has 0 := by simp [Reg.has, hp]
                    have hat : g.at 0 = g.c 0 := by simp [Reg.at, hp]
                    obtain ⟨ho0, arr, harr, htot⟩ := hr.hok.own r g 0 hg0 hh0 hown
                    obtain ⟨gd, hdd⟩ := hr.hok.holds r g 0 hg0 hh0
                    rw [hat, hcnt] at gd hdd
                    rw [ho0] at hdd
                    have hwc : wc w (ρ r 0).1 = fun k => arr[k]? := funext fun k => by simp [wc, World.cell?, harr]
                    rw [hwc] at hdd
                    have hnlen : (flat ρ m src).length = m * z.size := by rw [← flat_arr (sz := z.size), hflen]; rfl
                    have hx0 : a.eval x = .slice (some ⟨(ρ r 0).1, lo * z.size, none⟩) n cap := by
                      rw [← hxv]
                      simp only [Sx.val, T.cv, sc, pla, off, ho0, Nat.zero_add, hszb]
                    by_cases hroom : n + m ≤ cap
                    · obtain ⟨bm, hput⟩ := hroomK hroom
                      rw [hby] at bm
                      obtain ⟨t1, g1, arr1, harr1, _, hfit, _, hK, hHl, hw'⟩ := putRow_spec hr hput gsrc
                      have e3 : lo * z.size + n * z.size = (lo + n) * z.size := (Nat.add_mul _ _ _).symm
                      rw [harr] at harr1
                      simp only [Option.some.injEq, Obj.cells.injEq] at harr1
                      obtain ⟨rfl, hel, -⟩ := harr1
                      have hrun := hsrc.room (sLen := n) (o := lo * z.size) (g := (ρ r 0).1) (cur := arr) (el := g.el) harr bm hroom (by rw [← hsi, e3]; exact hfit)
                      refine ⟨_, _, ρ, _, _, hK, by rw [E, hx0, hrun, Result.andThen_ok], ⟨_, .inl rfl, ?_, ?_⟩, ?_, fun _ _ => rfl, Nat.le_of_eq hHl.symm⟩
                      · simp only [Sx.val, T.cv, sc, pla, off, ho0, Nat.zero_add]
                      · show r < (setReg s.H r _).length
                        rw [hHl]
                        exact getReg_lt hg0
                      · rw [← hsi, e3]
                        exact hw'
                    · have hgt : cap < n + m := by omega
                      obtain ⟨⟨hnN, b1, b2, hfs, hss⟩, hK⟩ := hgrowK hgt
                      rw [hby] at b1
                      have bm : m * i.bytes ≤ 281474976710656 := Nat.le_trans (mul_le_of b1) (by decide)
                      have gold : Good s.H.length (.arr n z.size fun j => f (lo + j)) := fun j hj => gd (lo + j) (by omega)
                      have hold : Holds ρ (fun k => arr[k]?) (.arr n z.size fun j => f (lo + j)) (lo * z.size) := fun j hj => by
                        have := hdd (lo + j) (by omega)
                        rw [Nat.zero_add, Nat.add_mul] at this
                        exact this
                      have gnew : Good s.H.length (.arr (n + m) z.size fun j => .ite (Nat.blt j n) (f (lo + j)) (src (j - n))) := by
                        intro j hj
                        refine ⟨hfs _, by rw [hfs, hss], fun hb => ?_, fun hb => ?_⟩
                        · rw [Nat.blt_eq] at hb
                          exact (gd _ (by omega)).2
                        · have hjn : ¬ j < n := fun h => by rw [← Nat.blt_eq, hb] at h; cases h
                          exact (gsrc (j - n) (by omega)).2
                      have hcat : cells ρ (.arr (n + m) z.size fun j => .ite (Nat.blt j n) (f (lo + j)) (src (j - n))) = cells ρ (.arr n z.size fun j => f (lo + j)) ++ flat ρ m src := by
                        rw [flat_arr, flat_arr]
                        simp only [flat, List.range_add, List.flatMap_append, List.flatMap_map]
                        congr 1
                        · rw [List.flatMap_def, List.flatMap_def]
                          congr 1
                          refine List.map_congr_left fun j hj => ?_
                          have hb : Nat.blt j n = true := by rw [Nat.blt_eq]; exact List.mem_range.1 hj
                          rw [hb]
                          rfl
                        · rw [List.flatMap_def, List.flatMap_def]
                          congr 1
                          refine List.map_congr_left fun j hj => ?_
                          have hb : Nat.blt (n + j) n = false := by
                            cases e : Nat.blt (n + j) n with
                            | false => rfl
                            | true => rw [Nat.blt_eq] at e; omega
                          rw [hb, Nat.add_sub_cancel_left]
                          rfl
                      have h5 : (cells ρ (.arr n z.size fun j => f (lo + j))).length = n * z.size := cells_len gold
                      have hrun := hsrc.grow (sLen := n) (sCap := cap) (b := ⟨(ρ r 0).1, lo * z.size, none⟩) (olds := cells ρ (.arr n z.size fun j => f (lo + j))) (by rw [h5, hsi]) (fun j v hv => by
                        have hj : j < n * z.size := by have := (List.getElem?_eq_some_iff.1 hv).1; omega
                        have := holds_cells gold hold j hj
                        rw [hv] at this
                        rw [Addr.add_lit]
                        simp only [World.cell?, harr]
                        exact this) bm hgt (by omega) (growslice_fits hgt b1)
                      have hge := grownCap_ge w (n + m) cap e
                      have hw' : WRel c ρ s.H w.drew := hr.drawn _
                      refine ⟨_, _, ext ρ s.H.length w.heap.size, _, _, hK _ hge, by rw [E, hx0, hrun, Result.andThen_ok], ⟨_, .inl rfl, ?_, ?_⟩, ?_, fun r hr => ext_old hr, by simp⟩
                      · simp only [Sx.val, T.cv, sc, pla, ext_new, off, Nat.add_zero, Nat.zero_mul]
                      · show s.H.length < (s.H ++ [_]).length
                        simp
                      · refine hw'.alloc (cs := (cells ρ (.arr n z.size fun j => f (lo + j))).toArray ++ (flat ρ m src).toArray ++ Builtin.zeroCells zv.cells (grownCap w (n + m) cap e - (n + m))) (el := e)
                          (g := rowReg e (n + m) z.size (grownCap w (n + m) cap e) fun j => .ite (Nat.blt j n) (f (lo + j)) (src (j - n))) rfl rfl rfl ?_ gnew ?_
                        · simp only [rowReg, Array.size_append, List.size_toArray, size_zeroCells, hzs, h5, hnlen]
                          rw [← Nat.add_mul, ← Nat.add_mul]
                          exact Nat.le_of_eq (by congr 1; omega)
                        · intro k hk
                          simp only [rowReg] at hk ⊢
                          have hk : k < (n + m) * z.size := hk
                          rw [Nat.add_mul] at hk
                          rw [hcat, Array.getElem?_append_left (by simp only [Array.size_append, List.size_toArray]; omega)]
                          rw [List.append_toArray, List.getElem?_toArray]
                  · exact h.elim
                · exact h.elim
              · exact h.elim
            · exact h.elim
        · exact h.elim
      · exact h.elim
    · exact h.elim
  · rename_i heq _; cases heq
  · rename_i heq _; cases heq
  · rename_i heq _; cases heq
  · rename_i heq _; cases heq
  · exact h.elim

theorem op_append (hs : SlotsOk ρ s.H.length s.sl a.tmps) {w : World} (hr : WRel c ρ s.H w) {cl : Call} (ho : o.op = .call cl) (hb : cl.callee = .builtin .append) (h : opK P C q s K o) : q = false ∧ EffStep P c ρ s a o K w := by
  cases hl : C.lows with
  | true => exact op_appendL hl hs hr ho hb h
  | false => exact op_append0 hl hs hr ho hb h

theorem op_copy (hs : SlotsOk ρ s.H.length s.sl a.tmps) {w : World} (hr : WRel c ρ s.H w) {cl : Call} (ho : o.op = .call cl) (hb : cl.callee = .builtin .copy) (h : opK P C q s K o) : q = false ∧ EffStep P c ρ s a o K w := by
  obtain ⟨callee, args, ats⟩ := cl
  simp only at hb
  subst hb
  simp only [opK, ho] at h
  split at h
  · rename_i heq _; cases heq
  · rename_i heq _; cases heq
  · rename_i heq _; cases heq
  · rename_i x y _ hargs
    have hargs := two_args hargs
    subst hargs
    split at h
    · rename_i e hu
      refine ⟨rfl, ?_⟩
      obtain ⟨tx, h1, hx⟩ := force_spec h (read_ok hs x)
      clear h
      obtain ⟨ty, h, hy⟩ := force_spec h1 (read_ok hs y)
      clear h1
      obtain ⟨t, ht, hu⟩ := ats_get hu
      unfold cpyK at h
      split at h
      · rename_i r i p lo sz n cap r' i' p' lo' sz' m cap'
        split at h
        · rename_i hfl
          simp only [Bool.and_eq_true, Bool.not_eq_true'] at hfl
          have hsz := beq_nat hfl.1
          have h0 : sz ≠ 0 := fun e => by rw [e] at hfl; simp at hfl
          obtain ⟨inf, hi⟩ := info_of_cells (P := P) (t := e) (by rw [← hsz]; exact h0)
          have hce : P.cellsOf e = inf.size := by simp [Program.cellsOf, hi]
          generalize hk : (if m < n then m else n) = k at h
          unfold srcPart at h
          simp only at h
          split at h
          · rename_i hb1
            have hb1 := beq_nat hb1
            subst hb1
            obtain ⟨g, t', hg, hig, hL, gt, hgt, hd, hgk⟩ := getPtr_spec hr.hok h
            clear hgt hgk
            split at hL
            · rename_i N sz2 f
              split at hL
              · rename_i hb2
                have hb2 := beq_nat hb2
                subst hb2
                obtain ⟨hN, hL⟩ := hL
                have ga : Good s.H.length (.arr k sz fun j => f (lo' + j)) := fun j hj => gt (lo' + j) (by omega)
                have ha : Holds ρ (wc w (ρ r' i').1) (.arr k sz fun j => f (lo' + j)) ((ρ r' i').2 + off p' + lo' * sz) := fun j hj => by
                  have := hd (lo' + j) (by omega)
                  rw [Nat.add_mul] at this
                  rw [Nat.add_assoc _ (lo' * sz)]
                  exact this
                have hlen := cells_len (ρ := ρ) ga
                rw [flat_arr] at hlen
                have hlen : (flat ρ k fun j => f (lo' + j)).length = k * sz := hlen
                have hone : ∀ u ∈ flat ρ k (fun j => f (lo' + j)), u.oneCell' = true := fun u hu => by rw [← flat_arr (sz := sz)] at hu; exact oneCell_cells ga u hu
                have hfirst : (Builtin.firstCells sz k (.slice (some (pla ρ r' i' (off p' + lo' * sz))) m cap')).run P w = .ok (flat ρ k fun j => f (lo' + j)).toArray w := by
                  refine run_firstCells_some w sz k _ m cap' _ hlen fun j u hu => ?_
                  have hj : j < (T.arr k sz fun j => f (lo' + j)).size := by
                    have := (List.getElem?_eq_some_iff.1 hu).1
                    rw [hlen] at this
                    exact this
                  have := holds_cells ga ha j hj
                  rw [flat_arr, hu] at this
                  rw [pla_add]
                  simp only [pla, World.cell?]
                  simp only [wc, World.cell?] at this
                  rw [← this]
                  congr 1
                  simp only [Option.isSome_none, Bool.false_eq_true, if_false, Nat.add_assoc]
                obtain ⟨t1, g1, arr, harr, ho0, hfit, _, hK, hHl, hw'⟩ := putRow_spec hr hL ga
                have hst := run_storeCells_at P (ρ r 0).1 (lo * sz) g1.el (flat ρ k fun j => f (lo' + j)) 0 arr w harr (by simpa using hfit) hone
                simp only [Nat.add_zero] at hst
                obtain ⟨hxv, _⟩ := hx
                obtain ⟨hyv, _⟩ := hy
                have hmin : Nat.min m n = k := by
                  rw [← hk]
                  show min m n = _
                  split <;> omega
                refine ⟨_, _, ρ, _, _, hK, ?_, ⟨_, .inl rfl, rfl, trivial⟩, hw', fun _ _ => rfl, Nat.le_of_eq hHl.symm⟩
                have hx0 : a.eval x = .slice (some ⟨(ρ r 0).1, lo * sz, none⟩) n cap := by
                  rw [← hxv]
                  simp only [Sx.val, T.cv, sc, pla, off, ho0, Nat.zero_add]
                have hy0 : a.eval y = .slice (some (pla ρ r' i' (off p' + lo' * sz))) m cap' := by
                  rw [← hyv]
                  simp only [Sx.val, T.cv, sc]
                have hsizeOf : (sizeOf e).run P w = .ok sz w := by rw [run_sizeOf w hi, hsz, hce]
                have hlenof : (Builtin.lenOf (.slice (some (pla ρ r' i' (off p' + lo' * sz))) m cap')).run P w = .ok m w := rfl
                have e0 : (#[a.eval x, a.eval y] : Array Value)[0]? = some (a.eval x) := rfl
                have e1 : (#[a.eval x, a.eval y] : Array Value)[1]? = some (a.eval y) := rfl
                have hrun : (Builtin.copy_ ats o.type #[a.eval x, a.eval y]).run P w = .ok (goInt k) (w.setRow (ρ r 0).1 (splice arr (lo * sz) (flat ρ k fun j => f (lo' + j)))) := by
                  rw [hx0, hy0]
                  simp only [Builtin.copy_, ht]
                  simp [run_underlying hu, hlenof, hsizeOf, hmin, hfirst, hst, splice]
                simp only [execOp, ho, resolve, invoke, builtin, Sem.run_bind, Sem.run_pure, Result.andThen_ok, List.map_toArray, List.map_cons, List.map_nil]
                rw [hrun]
                rfl
              · exact hL.elim
            · exact hL.elim
          · exact h.elim
        · exact h.elim
      · exact h.elim
    · exact h.elim
  · rename_i heq _; cases heq
  · rename_i heq _; cases heq
  · rename_i heq _; cases heq
  · exact h.elim

theorem op_clear (hs : SlotsOk ρ s.H.length s.sl a.tmps) {w : World} (hr : WRel c ρ s.H w) {cl : Call} (ho : o.op = .call cl) (hb : cl.callee = .builtin .clear) (h : opK P C q s K o) : q = false ∧ EffStep P c ρ s a o K w := by
  obtain ⟨callee, args, ats⟩ := cl
  simp only at hb
  subst hb
  simp only [opK, ho] at h
  split at h
  · rename_i heq _; cases heq
  · rename_i heq _; cases heq
  · rename_i heq _; cases heq
  · rename_i heq _; cases heq
  · rename_i x _ hargs
    have hargs := one_arg hargs
    subst hargs
    split at h
    · rename_i e hu
      split at h
      · rename_i z hz
        refine ⟨rfl, ?_⟩
        obtain ⟨tx, h, hx⟩ := force_spec h (read_ok hs x)
        obtain ⟨t, ht, hu⟩ := ats_get hu
        obtain ⟨i, zv, hi, hzv, hg, hc, hsi, hce⟩ := zeroOf_spec (ρ := ρ) (n := s.H.length) hz
        have hlz := cells_len (ρ := ρ) hg
        have hzs : zv.cells.size = z.size := by rw [← Array.length_toList, hc, hlz]
        unfold clrK at h
        split at h
        · rename_i r i p lo sz n cap
          split at h
          · rename_i hfl
            simp only [Bool.and_eq_true, Bool.not_eq_true'] at hfl
            have hsz := beq_nat hfl.1
            have h0 : z.size ≠ 0 := fun e => by rw [hsz, e] at hfl; simp at hfl
            subst hsz
            have ga : Good s.H.length (.arr n z.size fun _ => z) := fun j hj => ⟨rfl, hg⟩
            obtain ⟨t1, g1, arr, harr, ho0, hfit, hfl', hK, hHl, hw'⟩ := putRow_spec hr h ga
            have hf := zero_flat (n := s.H.length) (m := n) hc hlz h0
            have hone : ∀ u ∈ flat ρ n (fun _ => z), u.oneCell' = true := fun u hu => by rw [← flat_arr (sz := z.size)] at hu; exact oneCell_cells ga u hu
            have hst := run_storeCells_at P (ρ r 0).1 (lo * z.size) g1.el (flat ρ n fun _ => z) 0 arr w harr (by simpa using hfit) hone
            simp only [Nat.add_zero] at hst
            obtain ⟨hxv, _⟩ := hx
            have hx0 : a.eval x = .slice (some ⟨(ρ r 0).1, lo * z.size, none⟩) n cap := by
              rw [← hxv]
              simp only [Sx.val, T.cv, sc, pla, off, ho0, Nat.zero_add]
            refine ⟨_, _, ρ, _, _, hK, ?_, ⟨_, .inl rfl, rfl, trivial⟩, hw', fun _ _ => rfl, Nat.le_of_eq hHl.symm⟩
            have hzr : (zeroValue e).run P w = .ok zv w := by
              simp only [zeroValue, Sem.run_bind, run_typeInfo w hi, Result.andThen_ok, hzv, Sem.run_pure]
            have hrun : (Builtin.clear_ ats o.type #[a.eval x]).run P w = .ok (.tuple #[]) (w.setRow (ρ r 0).1 (splice arr (lo * z.size) (flat ρ n fun _ => z))) := by
              rw [hx0]
              cases n with
              | zero =>
                have : splice arr (lo * z.size) (flat ρ 0 fun _ => z) = arr := by simp [splice, flat]
                rw [this, setRow_self w _ arr _ _ harr]
                simp only [Builtin.clear_, ht]
                simp [run_underlying hu]
              | succ n =>
                simp only [Builtin.clear_, ht]
                simp [run_underlying hu, hzr, hf, hst, splice]
            simp only [execOp, ho, resolve, invoke, builtin, Sem.run_bind, Sem.run_pure, Result.andThen_ok, List.map_toArray, List.map_cons, List.map_nil]
            rw [hrun]
            rfl
          · exact h.elim
        · exact h.elim
      · exact h.elim
    · exact h.elim
  · rename_i heq _; cases heq
  · rename_i heq _; cases heq
  · exact h.elim

end
end Go.Sx
