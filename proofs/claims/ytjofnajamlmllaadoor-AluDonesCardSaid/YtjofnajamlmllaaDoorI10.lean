import Derived.Test.YtjofnajamlmllaaDoorI3b
import Derived.Test.YtjofnajamlmllaaDoorI8
import Derived.Test.YtjofnajamlmllaaDoorSxRangeBox
import Derived.TacticsInMore
import Derived.LoopNIn
import Derived.LoopIn
import Derived.Maps.AppendAt
import Derived.Test.YtjofnajamlmllaaDoorProg
open Go Go.Sx Go.Proofs
set_option maxRecDepth 100000
namespace Go.Proofs.YtjofnajamlmllaaDoor
open Go.RowKit Go.Shelf Go.Isa
attribute [local go_sem] Oper.semAt_some

def strSz : Option Value → Nat
  | some (.string s) => s.size
  | _ => 0
theorem drop_data (r : ByteArray) (k : Nat) : (r.extract k r.size).data.toList = r.data.toList.drop k := by
  have h : (r.extract k r.size).data.toList = (r.data.toList.drop k).take (r.size - k) := by simp
  rw [h, List.take_of_length_le]
  have : r.data.toList.length = r.size := rfl
  rw [List.length_drop]
  omega
set_option maxHeartbeats 4000000 in
/-- strings.SplitSeq's iterator, at the separator '\n'. -/
theorem splitSeq1_box (m Bp Bs Bk : Nat) (s0 : ByteArray) (hs0 : s0.size < 4294967281) (hps : Bp ≠ Bs) (hks : Bk ≠ Bs) (w0 : World)
    (hBs0 : Boxed w0 Bs 9 (.string s0)) (hBp0 : Boxed w0 Bp 9 (.string ⟨#[10]⟩)) (hBk0 : Boxed w0 Bk 3 (.int .i64 0)) :
    SeqBox Tryd.prog m 38 #[.pointer (some ⟨Bp, 0, none⟩), .pointer (some ⟨Bs, 0, none⟩), .pointer (some ⟨Bk, 0, none⟩)] (fun x : List UInt8 => #[.string (bs x)]) (pieces 10 s0.data.toList) (fun j => j = Bs ∨ j = Bp ∨ j = Bk) Bs w0 := by
  intro l J Jx hJ hJx hY W hWf h0
  have hBs : Boxed W Bs 9 (.string s0) := (hWf Bs (.inl rfl)).trans hBs0
  have hBp : Boxed W Bp 9 (.string ⟨#[10]⟩) := (hWf Bp (.inr (.inl rfl))).trans hBp0
  have hBk : Boxed W Bk 3 (.int .i64 0) := (hWf Bk (.inr (.inr rfl))).trans hBk0
  refine callsIn_of_wp Tryd.func38 rfl trivial ?_ rfl
  simp only [Tryd.ntmps38, List.size_toArray, List.length_cons, List.length_nil, Nat.reduceAdd, Nat.reduceSub, Array.replicate_succ, Array.replicate_zero, List.push_toArray, List.append_toArray, List.nil_append, List.cons_append]
  have cp := hBp.cell
  have cs := hBs.cell
  have ck := hBk.cell
  gi_wp2
  gi_loopw [7, 8] (fun vi vf wr => ∃ (done : List (List UInt8)) (r : ByteArray), done ++ pieces 10 r.data.toList = pieces 10 s0.data.toList ∧ r.size ≤ s0.size ∧ J done wr ∧ Boxed wr Bs 9 (.string r) ∧ Boxed wr Bp 9 (.string ⟨#[10]⟩) ∧ Boxed wr Bk 3 (.int .i64 0))
    (fun vi vf wr => strSz (wr.cell? ⟨Bs, 0, none⟩))
  case atStart => exact ⟨[], s0, rfl, Nat.le_refl _, h0, hBs, hBp, hBk⟩
  case round =>
    obtain ⟨done, r, hd, hrs, hJr, bS, bP, bK⟩ := hrel
    have cp := bP.cell
    have cs := bS.cell
    have ck := bK.cell
    have fs := bS.frozen
    have hX : Calls Tryd.prog 40 #[.string r, .string ⟨#[10]⟩] wr fun e w' => e = .returned (.int .i64 (Lib.indexByte r.data.toList 10)) ∧ w' = wr := Any.strings_Index_one Tryd.layIndex r 10 wr
    have hge := Lib.indexByte_ge r.data.toList 10
    by_cases hn : Lib.indexByte r.data.toList 10 = -1
    · rw [hn] at hX
      have hp := pieces_none hn
      rw [hp] at hd
      obtain ⟨fn, tmps, assign, body, hy, hR⟩ := hY done r.data.toList wr ⟨[], hd⟩ hJr
      rw [bs_of] at hy
      gi_wp2_with (refine ⟨trivial, ?_⟩; gi_at_call 40; refine (callsIn_wide.2 hX).mono ?_; rintro e w' ⟨rfl, rfl⟩)
      refine hR.mono ?_
      rintro e W3 (⟨rfl, hJ3, -⟩ | ⟨rfl, hJx3⟩)
      · gi_wp2
        go_end0
        exact ⟨⟨_, rfl⟩, .inl (by rw [← hd]; exact hJ3)⟩
      · gi_wp2
        go_end0
        exact ⟨⟨_, rfl⟩, .inr ⟨_, [], by rw [List.append_nil]; exact hd, hJx3⟩⟩
    · obtain ⟨i, hi⟩ : ∃ i : Nat, Lib.indexByte r.data.toList 10 = i := ⟨(Lib.indexByte r.data.toList 10).toNat, by omega⟩
      rw [hi] at hX
      have hp := pieces_hit hi
      have hlt : i < r.size := (List.getElem?_eq_some_iff.1 (Lib.indexByte_some hi).1).1
      have hw : wrap64 (i : Int) = i := by unfold wrap64; omega
      have hw1 : wrap64 ((i : Int) + 1) = (i + 1 : Nat) := by unfold wrap64; omega
      rw [hp] at hd
      obtain ⟨fn, tmps, assign, body, hy, hR⟩ := hY done (r.data.toList.take i) wr ⟨_, hd⟩ hJr
      have ex : bs (r.data.toList.take i) = r.extract 0 i := by
        apply ByteArray.ext
        apply Array.toList_inj.1
        simp [bs]
      rw [ex] at hy
      gi_wp2_with (first | (simp only []; done) | (simp only []) | (refine ⟨trivial, ?_⟩; gi_at_call 40; refine (callsIn_wide.2 hX).mono ?_; rintro e w' ⟨rfl, rfl⟩))
      refine hR.mono ?_
      rintro e W3 (⟨rfl, hJ3, hk3⟩ | ⟨rfl, hJx3⟩)
      · have bS3 : Boxed W3 Bs 9 (.string r) := (hk3 Bs (.inl rfl)).trans bS
        have bP3 : Boxed W3 Bp 9 (.string ⟨#[10]⟩) := (hk3 Bp (.inr (.inl rfl))).trans bP
        have bK3 : Boxed W3 Bk 3 (.int .i64 0) := (hk3 Bk (.inr (.inr rfl))).trans bK
        have cp3 := bP3.cell
        have cs3 := bS3.cell
        have ck3 := bK3.cell
        have fs3 := bS3.frozen
        gi_wp2_with (first | (simp only []))
        have er := drop_data r (i + 1)
        have esz : (r.extract (i + 1) r.size).size = r.size - (i + 1) := by simp
        refine ⟨⟨done ++ [r.data.toList.take i], r.extract (i + 1) r.size, by rw [er, List.append_assoc]; exact hd, by omega, hJ _ _ _ hJ3 (skip_set _ _ _), bS3.set _, bP3.other hps _, bK3.other hks _⟩, ?_⟩
        rw [(bS3.set _).cell, cs]
        show (r.extract (i + 1) r.size).size < r.size
        omega
      · gi_wp2
        refine bodyPost_ret (results_none rfl _ _ _) rfl ?_
        exact ⟨⟨_, rfl⟩, .inr ⟨_, _, by rw [List.append_assoc]; exact hd, hJx3⟩⟩

theorem splitSeq_calls (s p : ByteArray) (w : World) : Calls Tryd.prog 23 #[.string s, .string p] w fun e w' => e = .returned (.func (.func 38) #[] #[.pointer (some ⟨w.heap.size + 1, 0, none⟩), .pointer (some ⟨w.heap.size, 0, none⟩), .pointer (some ⟨w.heap.size + 2, 0, none⟩)]) ∧
    w' = ((w.alloc (.cells #[.string s] 9)).alloc (.cells #[.string p] 9)).alloc (.cells #[.int .i64 0] 3) := by
  go_enter Tryd.func23, Tryd.ntmps23
  go_wp2
  go_ret
  exact ⟨rfl, rfl⟩
end Go.Proofs.YtjofnajamlmllaaDoor
