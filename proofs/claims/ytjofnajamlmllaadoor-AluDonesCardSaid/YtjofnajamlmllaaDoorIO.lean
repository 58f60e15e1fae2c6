import Derived.Test.YtjofnajamlmllaaDoorI8
import Derived.Test.YtjofnajamlmllaaDoorIL
open Go Go.Sx Go.Proofs
open Go.ChangeShapes Go.WideShapes Go.ChangeAt Go.RowKit
set_option maxRecDepth 100000
namespace Go.Proofs.YtjofnajamlmllaaDoor

theorem Tryd.own : ownKnob Tryd.prog.godebug = none := by kernel_rfl
theorem Tryd.laidOut : laidOutB Tryd.prog = true := by kernel_rfl
structure A32 where
  v : Int
def A32.t (x : A32) : T := .int .u32 x.v
def A32.Ok (x : A32) : Prop := u32 x.v
structure AI where
  v : Int
def AI.t (x : AI) : T := .int .i64 x.v
def AI.Ok (x : AI) : Prop := i64 x.v
def EF.t (e : EF) : T := efT e
def AS.t (s : AS) : T := asT s
theorem u32_open {H : Type} {enc : TypeId × Value → H} {W : World} {base : Nat} {v : Value} {d : DataW H} {p : List MemPlace} (hv : Value.okWide Tryd.prog W .any base 22 v) (h : DataW.Trod enc Tryd.prog W 0 (fun _ => true) true 22 v d p) :
    ∃ x : A32, x.Ok ∧ (∀ n, Go.Sx.Good n x.t) ∧ ∀ ρ : Rho, val ρ x.t = v := by
  obtain ⟨u, h1, h2, h3⟩ := arg_flat (d := 3) (by kernel_rfl) hv h
  have h2' : ∃ m, u = .int .u32 m ∧ IntKind.u32.min ≤ m ∧ m ≤ IntKind.u32.max := @Eq.mp _ _ (by kernel_rfl) h1
  obtain ⟨m, rfl, b1⟩ := h2'
  exact ⟨⟨m⟩, fok_u32 b1, h2, h3⟩
theorem int_open {H : Type} {enc : TypeId × Value → H} {W : World} {base : Nat} {v : Value} {d : DataW H} {p : List MemPlace} (hv : Value.okWide Tryd.prog W .any base 3 v) (h : DataW.Trod enc Tryd.prog W 0 (fun _ => true) true 3 v d p) :
    ∃ x : AI, x.Ok ∧ (∀ n, Go.Sx.Good n x.t) ∧ ∀ ρ : Rho, val ρ x.t = v := by
  obtain ⟨u, h1, h2, h3⟩ := arg_flat (d := 3) (by kernel_rfl) hv h
  have h2' : ∃ m, u = .int .i64 m ∧ IntKind.i64.min ≤ m ∧ m ≤ IntKind.i64.max := @Eq.mp _ _ (by kernel_rfl) h1
  obtain ⟨m, rfl, b1⟩ := h2'
  exact ⟨⟨m⟩, fok_i64 b1, h2, h3⟩
theorem ef_open {H : Type} {enc : TypeId × Value → H} {W : World} {base : Nat} {v : Value} {d : DataW H} {p : List MemPlace} (hv : Value.okWide Tryd.prog W .any base 27 v) (h : DataW.Trod enc Tryd.prog W 0 (fun _ => true) true 27 v d p) :
    ∃ x : EF, x.Ok ∧ (∀ n, Go.Sx.Good n x.t) ∧ ∀ ρ : Rho, val ρ x.t = v := by
  obtain ⟨u, h1, h2, h3⟩ := arg_flat (d := 3) (by kernel_rfl) hv h
  have h2' : ∃ a r, u = .cons a r ∧ (∃ m, a = .int .i64 m ∧ IntKind.i64.min ≤ m ∧ m ≤ IntKind.i64.max) ∧ ∃ a2 r2, r = .cons a2 r2 ∧ (∃ m, a2 = .int .i64 m ∧ IntKind.i64.min ≤ m ∧ m ≤ IntKind.i64.max) ∧
          ∃ a3 r3, r2 = .cons a3 r3 ∧ (∃ m, a3 = .int .u32 m ∧ IntKind.u32.min ≤ m ∧ m ≤ IntKind.u32.max) ∧ ∃ a4 r4, r3 = .cons a4 r4 ∧ (∃ m, a4 = .int .u32 m ∧ IntKind.u32.min ≤ m ∧ m ≤ IntKind.u32.max) ∧ r4 = .nil := @Eq.mp _ _ (by kernel_rfl) h1
  obtain ⟨_, _, rfl, ⟨m1, rfl, b1⟩, _, _, rfl, ⟨m2, rfl, b2⟩, _, _, rfl, ⟨m3, rfl, b3⟩, _, _, rfl, ⟨m4, rfl, b4⟩, rfl⟩ := h2'
  exact ⟨⟨m1, m2, m3, m4⟩, ⟨fok_i64 b1, fok_i64 b2, fok_u32 b3, fok_u32 b4⟩, h2, h3⟩
theorem arr_canon {ρ : Rho} {f g : Nat → T} {pc : Int} (h : ∀ j, j < 16 → f j = g j) : val ρ (.cons (.arr 16 1 f) (.cons (.int .u32 pc) .nil)) = val ρ (.cons (.arr 16 1 g) (.cons (.int .u32 pc) .nil)) := by
  have e : cells ρ (.arr 16 1 f) = cells ρ (.arr 16 1 g) := by
    simp only [cells, T.cv]
    rw [List.flatMap_def, List.flatMap_def, List.map_congr_left fun j hj => by rw [h j (List.mem_range.1 hj)]]
  show Value.agg (cells ρ (.arr 16 1 f) ++ _).toArray = Value.agg (cells ρ (.arr 16 1 g) ++ _).toArray
  rw [e]
theorem st_open {H : Type} {enc : TypeId × Value → H} {W : World} {base : Nat} {v : Value} {d : DataW H} {p : List MemPlace} (hv : Value.okWide Tryd.prog W .any base 25 v) (h : DataW.Trod enc Tryd.prog W 0 (fun _ => true) true 25 v d p) :
    ∃ x : AS, x.Ok ∧ (∀ n, Go.Sx.Good n x.t) ∧ ∀ ρ : Rho, val ρ x.t = v := by
  obtain ⟨u, h1, h2, h3⟩ := arg_flat (d := 4) (by kernel_rfl) hv h
  have h2' : ∃ a r, u = .cons a r ∧ (∃ f, a = .arr 16 1 f ∧ ∀ j, j < 16 → ∃ m, f j = .int .u32 m ∧ IntKind.u32.min ≤ m ∧ m ≤ IntKind.u32.max) ∧ ∃ a2 r2, r = .cons a2 r2 ∧ (∃ m, a2 = .int .u32 m ∧ IntKind.u32.min ≤ m ∧ m ≤ IntKind.u32.max) ∧ r2 = .nil := @Eq.mp _ _ (by kernel_rfl) h1
  obtain ⟨_, _, rfl, ⟨f, rfl, hf⟩, _, _, rfl, ⟨m, rfl, b⟩, rfl⟩ := h2'
  have hj : ∀ j, ∃ m, u32 m ∧ (j < 16 → f j = .int .u32 m) := fun j => by
    by_cases h : j < 16
    · obtain ⟨m, e, b⟩ := hf j h
      exact ⟨m, fok_u32 b, fun _ => e⟩
    · exact ⟨0, ⟨by decide, by decide⟩, fun h' => absurd h' h⟩
  obtain ⟨R, hR⟩ := Classical.axiomOfChoice hj
  refine ⟨⟨R, m⟩, ⟨fun j => (hR j).1, fok_u32 b⟩, fun n => ?_, fun ρ => ?_⟩
  · exact ⟨fun j _ => ⟨rfl, trivial⟩, trivial, trivial⟩
  · rw [← h3 ρ]
    exact arr_canon fun j hj => ((hR j).2 hj).symm
end Go.Proofs.YtjofnajamlmllaaDoor
