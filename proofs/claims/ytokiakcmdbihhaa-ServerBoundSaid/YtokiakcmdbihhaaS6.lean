import Derived.Test.YtokiakcmdbihhaaS5
open Go Go.Sx Go.Proofs
set_option maxRecDepth 100000
namespace Go.Proofs.Ytokiakcmdbihhaa

def layP : Pat (SS × Int × Int) where
  view | [.ptr r 0 [], .int .u64 a, .int .u64 b], H => some (viewS r H, a, b) | _, _ => none
  args x := [p0 0, .int .u64 x.2.1, .int .u64 x.2.2]
  H x := x.1.H
  out x := .need (x.1.x.Sm ∧ 1 ≤ x.2.2 ∧ x.2.2 ≤ 4398046511104) (.any (fun y : CR => y.Ok ∧ y.L = layL x.2.1 x.2.2 x.1.x.L) fun y => .ret (.tup .nil) (x.1.H2 y))
theorem CR.snd_le {x : CR} (h : InL x.L) (ht : totL x.L ≤ 4398046511104) {j : Nat} (hj : j < x.len) : 1 ≤ x.b (x.lo + j) ∧ x.b (x.lo + j) ≤ 4398046511104 := by
  have hg : x.L[j]? = some (x.a (x.lo + j), x.b (x.lo + j)) := by rw [CR.L_get, if_pos hj]
  have h1 := h.pos _ (List.mem_of_getElem? hg)
  have h2 := sumN_succ hg
  have h3 := sumN_bd h.pos j
  have h4 := sumN_bd h.pos (j + 1)
  dsimp only at h1
  omega
theorem merge_L {x y : CR} (h2 : 2 ≤ x.len) (hl : y.len = x.len - 1) (h : ∀ j, j < x.len - 1 → (j + 2 < x.len → y.a (y.lo + j) = x.a (x.lo + j) ∧ y.b (y.lo + j) = x.b (x.lo + j)) ∧
    (j + 2 = x.len → y.a (y.lo + j) = x.a (x.lo + (x.len - 1)) ∧ y.b (y.lo + j) = x.b (x.lo + (x.len - 2)) + x.b (x.lo + (x.len - 1)))) : y.L = merge2 x.L := by
  unfold merge2
  rw [CR.L_len, CR.L_get, CR.L_get, if_pos (by omega), if_pos (by omega)]
  refine CR.L_eq (by simp [CR.L_len]; omega) fun j hj => ?_
  obtain ⟨g1, g2⟩ := h j (by omega)
  have e : (x.L.take (x.len - 2)).length = x.len - 2 := by rw [List.length_take, CR.L_len]; omega
  by_cases c : j + 2 < x.len
  · rw [List.getElem?_append_left (by omega), List.getElem?_take_of_lt (by omega), CR.L_get, if_pos (by omega), (g1 c).1, (g1 c).2]
  · rw [List.getElem?_append_right (by omega), e, show j - (x.len - 2) = 0 by omega, (g2 (by omega)).1, (g2 (by omega)).2]
    rfl
def tLay : Tab := [(46, bsP.sp), (48, insP.sp)]
theorem tLay_ok : TabOk Try.prog tLay := (tab_cons bs_ok (tab_cons ins_ok tab_nil))

theorem lay_vc : ∀ (s : SS) (a b : Int), (s.x.Sm ∧ (1 : Int) ≤ b ∧ b ≤ (4398046511104 : Int)) ∧ True → (((True ∧ True ∧ s.x.lo = s.x.lo ∧ s.x.len = s.x.len ∧ s.x.cap = s.x.cap) ∧ a = a ∧ True ∧ True) ∧ ((0 : Nat) ≤ (s.x.lo + s.x.cap) *
  (2 : Nat) ∧ s.x.N = s.x.N ∧ ∀ (j : Nat), j < s.x.N → s.x.a j = s.x.a j ∧ s.x.b j = s.x.b j ∧ True) ∧ True) ∧ (s.x.lo + s.x.len ≤ s.x.N ∧ s.x.len ≤ (1000 : Nat) ∧ riseF s.x.at_ s.x.len) ∧ ∀ (v : Int), v = (↑(lbF s.x.at_ a
  s.x.len) : Int) → (decide (lbF s.x.at_ a s.x.len < s.x.len ∧ s.x.at_ (lbF s.x.at_ a s.x.len) = a) = true → ((0 : Int) ≤ v ∧ v < (↑s.x.len : Int)) ∧ s.x.lo + v.toNat < s.x.N ∧ ((0 : Int) ≤ v ∧ v < (↑s.x.len : Int)) ∧
  s.x.lo + v.toNat < s.x.N ∧ (s.x.Sm ∧ (1 : Int) ≤ b ∧ b ≤ (4398046511104 : Int) → ∃ (x : CR), (x.Ok ∧ x.L = layL a b s.x.L) ∧ True ∧ True ∧ ((4 : Nat) ≤ (4 : Nat) ∧ (s.q = s.q ∧ s.t = s.t ∧ s.b = s.b ∧ True) ∧ (True ∧
  True ∧ s.x.lo = x.lo ∧ s.x.len = x.len ∧ s.x.cap = x.cap) ∧ True) ∧ (0 : Nat) = (0 : Nat) ∧ ((x.lo + x.cap) * (2 : Nat) ≤ (s.x.lo + s.x.cap) * (2 : Nat) ∧ x.N = s.x.N ∧ ∀ (j : Nat), j < s.x.N → (bif j.beq (s.x.lo +
  v.toNat) then s.x.a (s.x.lo + v.toNat) else s.x.a j) = x.a j ∧ (bif j.beq (s.x.lo + v.toNat) then IntKind.u64.wrap (s.x.b (s.x.lo + v.toNat) + b) else s.x.b j) = x.b j ∧ True) ∧ True)) ∧ (decide (lbF s.x.at_ a s.x.len <
  s.x.len ∧ s.x.at_ (lbF s.x.at_ a s.x.len) = a) = false → (((True ∧ True ∧ s.x.lo = s.x.lo ∧ s.x.len = s.x.len ∧ s.x.cap = s.x.cap) ∧ v = (↑v.toNat : Int) ∧ (True ∧ True ∧ (0 : Nat) = (0 : Nat) ∧ (1 : Nat) = (1 : Nat) ∧
  (1 : Nat) = (1 : Nat)) ∧ True) ∧ ((s.x.lo + s.x.cap) * (2 : Nat) ≤ (s.x.lo + s.x.cap) * (2 : Nat) ∧ s.x.N = s.x.N ∧ ∀ (j : Nat), j < s.x.N → s.x.a j = s.x.a j ∧ s.x.b j = s.x.b j ∧ True) ∧ ((2 : Nat) ≤ (2 : Nat) ∧ (1 :
  Nat) = (1 : Nat) ∧ ∀ (j : Nat), j < (1 : Nat) → a = a ∧ b = b ∧ True) ∧ True) ∧ (s.x.Ok ∧ s.x.len ≤ (1000 : Nat) ∧ v.toNat ≤ s.x.len) ∧ ∀ (x : CR), x.Ok ∧ x.L = List.take v.toNat s.x.L ++ (a, b) :: List.drop v.toNat
  s.x.L → ∀ (v : Int), v = (↑x.len : Int) → (decide (v > (8 : Int)) = true → ((0 : Int) ≤ IntKind.i64.wrap (v - (1 : Int)) ∧ IntKind.i64.wrap (v - (1 : Int)) < (↑x.len : Int)) ∧ x.lo + (IntKind.i64.wrap (v - (1 :
  Int))).toNat < x.N ∧ ((0 : Int) ≤ IntKind.i64.wrap (v - (2 : Int)) ∧ IntKind.i64.wrap (v - (2 : Int)) < (↑x.len : Int)) ∧ x.lo + (IntKind.i64.wrap (v - (2 : Int))).toNat < x.N ∧ ((0 : Int) ≤ IntKind.i64.wrap (v - (1 :
  Int)) ∧ IntKind.i64.wrap (v - (1 : Int)) < (↑x.len : Int)) ∧ x.lo + (IntKind.i64.wrap (v - (1 : Int))).toNat < x.N ∧ ((0 : Int) ≤ IntKind.i64.wrap (v - (2 : Int)) ∧ IntKind.i64.wrap (v - (2 : Int)) < (↑x.len : Int)) ∧
  x.lo + (IntKind.i64.wrap (v - (2 : Int))).toNat < x.N ∧ ((0 : Int) ≤ IntKind.i64.wrap (v - (1 : Int)) ∧ IntKind.i64.wrap (v - (1 : Int)) ≤ (↑x.cap : Int)) ∧ (s.x.Sm ∧ (1 : Int) ≤ b ∧ b ≤ (4398046511104 : Int) → ∃ (x_1 :
  CR), (x_1.Ok ∧ x_1.L = layL a b s.x.L) ∧ True ∧ True ∧ ((4 : Nat) ≤ (4 : Nat) ∧ (s.q = s.q ∧ s.t = s.t ∧ s.b = s.b ∧ True) ∧ (True ∧ True ∧ x.lo = x_1.lo ∧ (IntKind.i64.wrap (v - (1 : Int))).toNat = x_1.len ∧ x.cap =
  x_1.cap) ∧ True) ∧ (0 : Nat) = (0 : Nat) ∧ ((x_1.lo + x_1.cap) * (2 : Nat) ≤ (x.lo + x.cap) * (2 : Nat) ∧ x_1.N = x.N ∧ ∀ (j : Nat), j < x.N → (bif j.beq (x.lo + (IntKind.i64.wrap (v - (2 : Int))).toNat) then x.a (x.lo +
  (IntKind.i64.wrap (v - (1 : Int))).toNat) else x.a j) = x_1.a j ∧ (bif j.beq (x.lo + (IntKind.i64.wrap (v - (2 : Int))).toNat) then IntKind.u64.wrap (x.b (x.lo + (IntKind.i64.wrap (v - (2 : Int))).toNat) + x.b (x.lo +
  (IntKind.i64.wrap (v - (1 : Int))).toNat)) else x.b j) = x_1.b j ∧ True) ∧ True)) ∧ (decide (v > (8 : Int)) = false → s.x.Sm ∧ (1 : Int) ≤ b ∧ b ≤ (4398046511104 : Int) → ∃ (x_1 : CR), (x_1.Ok ∧ x_1.L = layL a b s.x.L) ∧
  True ∧ True ∧ ((4 : Nat) ≤ (4 : Nat) ∧ (s.q = s.q ∧ s.t = s.t ∧ s.b = s.b ∧ True) ∧ (True ∧ True ∧ x.lo = x_1.lo ∧ x.len = x_1.len ∧ x.cap = x_1.cap) ∧ True) ∧ (0 : Nat) = (0 : Nat) ∧ ((x_1.lo + x_1.cap) * (2 : Nat) ≤
  (x.lo + x.cap) * (2 : Nat) ∧ x_1.N = x.N ∧ ∀ (j : Nat), j < x.N → x.a j = x_1.a j ∧ x.b j = x_1.b j ∧ True) ∧ True)) := by
  simp only [true_and, and_true, eq_self, Nat.le_refl, decide_eq_true_eq, decide_eq_false_iff_not, implies_true, and_self, Int.not_lt, gt_iff_lt, cond_nbeq, IntKind.wrap_u64, IntKind.wrap_i64]
  rintro s a b ⟨⟨hx, h8, hin, htot⟩, hb, hb2⟩
  have hx1 := hx.1
  have hx2 := hx.2
  have hlb := CR.lb hin.rise a
  have hle := lbN_le a s.x.L
  rw [CR.L_len] at hle
  rw [hlb]
  generalize hk : lbN a s.x.L = k at *
  refine ⟨by omega, ⟨by omega, by omega, CR.rise hin.rise⟩, fun v hv => ?_⟩
  subst hv
  simp only [Int.toNat_natCast]
  refine ⟨fun ⟨hkl, hka⟩ => ⟨by omega, by omega, by omega, by omega, fun _ => ?_⟩, fun hno => ⟨trivial, ⟨hx, by omega, hle⟩, fun x hxx v2 hv2 => ?_⟩⟩
  · have hg : s.x.L[lbN a s.x.L]? = some (a, s.x.b (s.x.lo + k)) := by
      rw [hk, CR.L_get, if_pos hkl]
      have : s.x.a (s.x.lo + k) = a := hka
      rw [this]
    have hb1 := CR.snd_le hin htot hkl
    have e1 : (s.x.b (s.x.lo + k) + b) % 18446744073709551616 = s.x.b (s.x.lo + k) + b := by omega
    rw [e1]
    have e2 : layL a b s.x.L = s.x.L.set k (a, s.x.b (s.x.lo + k) + b) := by
      unfold layL trimL
      rw [insL_there hg, hk, if_neg (by rw [List.length_set, CR.L_len]; omega)]
    refine ⟨⟨s.x.lo, s.x.len, s.x.cap, s.x.N, fun j => if j = s.x.lo + k then s.x.a (s.x.lo + k) else s.x.a j, fun j => if j = s.x.lo + k then s.x.b (s.x.lo + k) + b else s.x.b j⟩, ⟨hx, ?_⟩, ⟨rfl, rfl, rfl⟩, Nat.le_refl _, rfl, fun j _ => ⟨rfl, rfl⟩⟩
    rw [e2]
    refine CR.L_eq (by rw [List.length_set, CR.L_len]) fun j hj => ?_
    dsimp only at hj ⊢
    rw [List.getElem?_set, CR.L_len]
    by_cases c : k = j
    · subst c
      rw [if_pos rfl, if_pos hj, if_pos rfl, if_pos rfl]
      have : s.x.a (s.x.lo + k) = a := hka
      rw [this]
    · rw [if_neg c, CR.L_get, if_pos hj, if_neg (by omega), if_neg (by omega)]
  · obtain ⟨hxo, hxL⟩ := hxx
    have hxo1 := hxo.1
    have hxo2 := hxo.2
    have hi : insL a b s.x.L = x.L := by
      rw [hxL]
      rw [insL_not (fun b' e => ?_), hk]
      rw [hk, CR.L_get] at e
      split at e
      · rename_i h1
        simp only [Option.some.injEq, Prod.mk.injEq] at e
        exact hno ⟨h1, e.1⟩
      · cases e
    have hxl : x.len = s.x.len + 1 := by
      have := congrArg List.length hxL
      rw [CR.L_len, List.length_append, List.length_cons, List.length_take, List.length_drop, CR.L_len] at this
      omega
    have hin2 : InL x.L := by rw [← hi]; exact ⟨insL_rise hin.rise, insL_pos hb hin.pos⟩
    have htot2 : totL x.L ≤ 8796093022208 := by rw [← hi, insL_tot]; omega
    subst hv2
    refine ⟨fun h9 => ?_, fun h9 _ => ⟨x, ⟨hxo, ?_⟩, ⟨rfl, rfl, rfl⟩, Nat.le_refl _, rfl, fun j _ => ⟨rfl, rfl⟩⟩⟩
    · have q1 : ((x.len : Int) - 1 + 9223372036854775808) % 18446744073709551616 - 9223372036854775808 = ((x.len - 1 : Nat) : Int) := by omega
      have q2 : ((x.len : Int) - 2 + 9223372036854775808) % 18446744073709551616 - 9223372036854775808 = ((x.len - 2 : Nat) : Int) := by omega
      simp only [q1, q2, Int.toNat_natCast]
      have t1 : 1 ≤ x.b (x.lo + (x.len - 2)) ∧ 1 ≤ x.b (x.lo + (x.len - 1)) ∧ x.b (x.lo + (x.len - 2)) + x.b (x.lo + (x.len - 1)) ≤ 8796093022208 := by
        have g1 : x.L[x.len - 2]? = some (x.a (x.lo + (x.len - 2)), x.b (x.lo + (x.len - 2))) := by rw [CR.L_get, if_pos (by omega)]
        have g2 : x.L[x.len - 2 + 1]? = some (x.a (x.lo + (x.len - 1)), x.b (x.lo + (x.len - 1))) := by rw [show x.len - 2 + 1 = x.len - 1 by omega, CR.L_get, if_pos (by omega)]
        have h1 := hin2.pos _ (List.mem_of_getElem? g1)
        have h2 := hin2.pos _ (List.mem_of_getElem? g2)
        have h3 := sumN_succ g1
        have h4 := sumN_succ g2
        have h5 := sumN_bd hin2.pos (x.len - 2)
        have h6 := sumN_bd hin2.pos (x.len - 2 + 1 + 1)
        dsimp only at h1 h2
        omega
      have e1 : (x.b (x.lo + (x.len - 2)) + x.b (x.lo + (x.len - 1))) % 18446744073709551616 = x.b (x.lo + (x.len - 2)) + x.b (x.lo + (x.len - 1)) := by omega
      rw [e1]
      refine ⟨by omega, by omega, by omega, by omega, by omega, by omega, by omega, by omega, by omega, fun _ => ⟨⟨x.lo, x.len - 1, x.cap, x.N, fun j => if j = x.lo + (x.len - 2) then x.a (x.lo + (x.len - 1)) else x.a j, fun j => if j = x.lo + (x.len - 2) then x.b (x.lo + (x.len - 2)) + x.b (x.lo + (x.len - 1)) else x.b j⟩, ⟨⟨by dsimp only; omega, by dsimp only; omega⟩, ?_⟩, ⟨rfl, rfl, rfl⟩, Nat.le_refl _, rfl, fun j _ => ⟨rfl, rfl⟩⟩⟩
      unfold layL trimL
      rw [hi, if_pos (by rw [CR.L_len]; omega)]
      refine merge_L (by omega) rfl fun j hj => ⟨fun c => ?_, fun c => ?_⟩
      · dsimp only
        rw [if_neg (by omega), if_neg (by omega)]
        exact ⟨rfl, rfl⟩
      · dsimp only
        rw [if_pos (by omega), if_pos (by omega)]
        exact ⟨rfl, rfl⟩
    · unfold layL trimL
      rw [hi, if_neg (by rw [CR.L_len]; omega)]

def lay_C (_ : (SS × Int × Int)) : Cfg := { Γ := Go.Sx.look tLay, names := true }
theorem lay_al (x : (SS × Int × Int)) : Shown (layP.vc Try.prog (lay_C x) Try.f43 x) := ⟨@Eq.mp _ _ (by kernel_rfl) (lay_vc (x.1) (x.2.1) (x.2.2))⟩
theorem lay_ok : SpOk Try.prog 43 layP.sp := @Pat.okS _ layP Try.prog lay_C 43 Try.f43 (fun x => cfg_tab rfl tLay_ok) (by kernel_rfl) Try.func43 (fun _ => rfl) lay_al
end Go.Proofs.Ytokiakcmdbihhaa
