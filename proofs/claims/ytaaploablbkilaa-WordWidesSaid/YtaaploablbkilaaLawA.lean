import Derived.Test.YtaaploablbkilaaAlive
import Derived.Test.YtaaploablbkilaaRows
open Go Go.Sx Go.Proofs
open Go.ChangeShapes Go.WideShapes Go.ChangeAt Go.RowKit
set_option maxRecDepth 100000
namespace Go.Proofs.Ytaaploablbkilaa

theorem Try.own : ownKnob Try.prog.godebug = none := by kernel_rfl
theorem Try.laidOut : laidOutB Try.prog = true := by kernel_rfl
structure A32 where
  v : Int
def A32.t (x : A32) : T := .int .u32 x.v
def A32.Ok (x : A32) : Prop := u32 x.v
structure A64 where
  v : Int
def A64.t (x : A64) : T := .int .u64 x.v
def A64.Ok (x : A64) : Prop := u64 x.v
structure AI where
  v : Int
def AI.t (x : AI) : T := .int .i64 x.v
def AI.Ok (x : AI) : Prop := i64 x.v
theorem u32_open {H : Type} {enc : TypeId × Value → H} {W : World} {base : Nat} {v : Value} {d : DataW H} {p : List MemPlace} (hv : Value.okWide Try.prog W .any base 22 v) (h : DataW.Trod enc Try.prog W 0 (fun _ => true) true 22 v d p) :
    ∃ x : A32, x.Ok ∧ (∀ n, Go.Sx.Good n x.t) ∧ ∀ ρ : Rho, val ρ x.t = v := by
  obtain ⟨u, h1, h2, h3⟩ := arg_flat (d := 3) (by kernel_rfl) hv h
  have h2' : ∃ m, u = .int .u32 m ∧ IntKind.u32.min ≤ m ∧ m ≤ IntKind.u32.max := @Eq.mp _ _ (by kernel_rfl) h1
  obtain ⟨m, rfl, b1⟩ := h2'
  exact ⟨⟨m⟩, fok_u32 b1, h2, h3⟩
theorem int_open {H : Type} {enc : TypeId × Value → H} {W : World} {base : Nat} {v : Value} {d : DataW H} {p : List MemPlace} (hv : Value.okWide Try.prog W .any base 3 v) (h : DataW.Trod enc Try.prog W 0 (fun _ => true) true 3 v d p) :
    ∃ x : AI, x.Ok ∧ (∀ n, Go.Sx.Good n x.t) ∧ ∀ ρ : Rho, val ρ x.t = v := by
  obtain ⟨u, h1, h2, h3⟩ := arg_flat (d := 3) (by kernel_rfl) hv h
  have h2' : ∃ m, u = .int .i64 m ∧ IntKind.i64.min ≤ m ∧ m ≤ IntKind.i64.max := @Eq.mp _ _ (by kernel_rfl) h1
  obtain ⟨m, rfl, b1⟩ := h2'
  exact ⟨⟨m⟩, fok_i64 b1, h2, h3⟩
theorem u64_open {H : Type} {enc : TypeId × Value → H} {W : World} {base : Nat} {v : Value} {d : DataW H} {p : List MemPlace} (hv : Value.okWide Try.prog W .any base 38 v) (h : DataW.Trod enc Try.prog W 0 (fun _ => true) true 38 v d p) :
    ∃ x : A64, x.Ok ∧ (∀ n, Go.Sx.Good n x.t) ∧ ∀ ρ : Rho, val ρ x.t = v := by
  obtain ⟨u, h1, h2, h3⟩ := arg_flat (d := 3) (by kernel_rfl) hv h
  have h2' : ∃ m, u = .int .u64 m ∧ IntKind.u64.min ≤ m ∧ m ≤ IntKind.u64.max := @Eq.mp _ _ (by kernel_rfl) h1
  obtain ⟨m, rfl, b1⟩ := h2'
  exact ⟨⟨m⟩, fok_u64 b1, h2, h3⟩
def fieldsP : Pat (A32 × A32 × AI × AI) where
  view _ _ := none
  args x := [x.1.t, x.2.1.t, x.2.2.1.t, x.2.2.2.t]
  H _ := []
  out x := .need (x.1.Ok ∧ x.2.1.Ok ∧ x.2.2.1.Ok ∧ x.2.2.2.Ok) (.retq .tt)
def tFields : Tab := [(9, aliveP.sp), (10, fieldPt.sp), (11, fieldPt.sp), (12, putPt.sp), (13, putPt.sp), (14, extPt.sp), (15, extPt.sp)]
theorem tFields_ok : TabOk Try.prog tFields := (tab_cons alive_ok (tab_cons field_ok (tab_cons rfield_ok (tab_cons put_ok (tab_cons rput_ok (tab_cons ext_ok (tab_cons rext_ok tab_nil)))))))

theorem fields_vc : ∀ (w v : A32) (a n : AI),
    (w.Ok ∧ v.Ok ∧ a.Ok ∧ n.Ok) ∧ True →
      (True ∧ True) ∧
        ((w.v = w.v ∧ a.v = a.v ∧ n.v = n.v ∧ True) ∧ True) ∧
          (((0 : Int) ≤ w.v ∧ w.v < (4294967296 : Int)) ∧
              ((-9223372036854775808 : Int) ≤ a.v ∧ a.v < (9223372036854775808 : Int)) ∧ (-9223372036854775808 : Int) ≤ n.v ∧ n.v < (9223372036854775808 : Int)) ∧
            ((w.v = w.v ∧ a.v = a.v ∧ n.v = n.v ∧ True) ∧ True) ∧
              (((0 : Int) ≤ w.v ∧ w.v < (4294967296 : Int)) ∧
                  ((-9223372036854775808 : Int) ≤ a.v ∧ a.v < (9223372036854775808 : Int)) ∧ (-9223372036854775808 : Int) ≤ n.v ∧ n.v < (9223372036854775808 : Int)) ∧
                ((fieldN w.v a.v n.v == fieldN w.v a.v n.v) = true →
                    ((w.v = w.v ∧ a.v = a.v ∧ n.v = n.v ∧ v.v = v.v ∧ True) ∧ True) ∧
                      (((0 : Int) ≤ w.v ∧ w.v < (4294967296 : Int)) ∧
                          ((-9223372036854775808 : Int) ≤ a.v ∧ a.v < (9223372036854775808 : Int)) ∧
                            ((-9223372036854775808 : Int) ≤ n.v ∧ n.v < (9223372036854775808 : Int)) ∧ (0 : Int) ≤ v.v ∧ v.v < (4294967296 : Int)) ∧
                        ((w.v = w.v ∧ a.v = a.v ∧ n.v = n.v ∧ v.v = v.v ∧ True) ∧ True) ∧
                          (((0 : Int) ≤ w.v ∧ w.v < (4294967296 : Int)) ∧
                              ((-9223372036854775808 : Int) ≤ a.v ∧ a.v < (9223372036854775808 : Int)) ∧
                                ((-9223372036854775808 : Int) ≤ n.v ∧ n.v < (9223372036854775808 : Int)) ∧ (0 : Int) ≤ v.v ∧ v.v < (4294967296 : Int)) ∧
                            ((putN w.v a.v n.v v.v == putN w.v a.v n.v v.v) = true →
                                ((v.v = v.v ∧ n.v = n.v ∧ True) ∧ True) ∧
                                  (((0 : Int) ≤ v.v ∧ v.v < (4294967296 : Int)) ∧ (-9223372036854775808 : Int) ≤ n.v ∧ n.v < (9223372036854775808 : Int)) ∧
                                    ((v.v = v.v ∧ n.v = n.v ∧ True) ∧ True) ∧
                                      (((0 : Int) ≤ v.v ∧ v.v < (4294967296 : Int)) ∧ (-9223372036854775808 : Int) ≤ n.v ∧ n.v < (9223372036854775808 : Int)) ∧
                                        (w.Ok ∧ v.Ok ∧ a.Ok ∧ n.Ok → (extN v.v n.v == extN v.v n.v) = true ∧ True ∧ True)) ∧
                              ((putN w.v a.v n.v v.v == putN w.v a.v n.v v.v) = false → w.Ok ∧ v.Ok ∧ a.Ok ∧ n.Ok → False ∧ True ∧ True)) ∧
                  ((fieldN w.v a.v n.v == fieldN w.v a.v n.v) = false → w.Ok ∧ v.Ok ∧ a.Ok ∧ n.Ok → False ∧ True ∧ True) := by
  simp only [true_and, and_true, eq_self, beq_iff_eq, beq_eq_false_iff_ne, implies_true, true_implies, and_self, ne_eq]
  rintro w v a n ⟨hw, hv, ha, hn⟩
  have hw : 0 ≤ w.v ∧ w.v < 4294967296 := hw
  have hv : 0 ≤ v.v ∧ v.v < 4294967296 := hv
  have ha : -9223372036854775808 ≤ a.v ∧ a.v < 9223372036854775808 := ha
  have hn : -9223372036854775808 ≤ n.v ∧ n.v < 9223372036854775808 := hn
  exact ⟨⟨hw, ha, hn⟩, ⟨hw, ha, hn⟩, ⟨⟨hw, ha, hn, hv⟩, ⟨hw, ha, hn, hv⟩, ⟨hv, hn⟩, fun h => absurd trivial h⟩, fun h => absurd trivial h⟩

def fields_C (_ : (A32 × A32 × AI × AI)) : Cfg := { Γ := Go.Sx.look tFields, names := true }
theorem fields_al (x : (A32 × A32 × AI × AI)) : Shown (fieldsP.vc Try.prog (fields_C x) Try.f3 x) := ⟨@Eq.mp _ _ (by kernel_rfl) (fields_vc (x.1) (x.2.1) (x.2.2.1) (x.2.2.2))⟩
theorem fields_ok : SpOk Try.prog 3 fieldsP.sp := @Pat.okS _ fieldsP Try.prog fields_C 3 Try.f3 (fun x => cfg_tab rfl tFields_ok) (by kernel_rfl) Try.func3 (fun _ => rfl) fields_al
end Go.Proofs.Ytaaploablbkilaa
