/- The statement TypesOf: the type of values of each type of variables is as the chapter says. No condition. -/
import Derived.Test.YtgcjbkdogloojaaRows
import Derived.Test.YtgcjbkdogloojaaTy
import Derived.WalkKit
import Derived.ProofKit
import Derived.OpenShut
import Derived.ChangeOld
import Derived.Below
import Derived.SizedLaws
namespace Go.Proofs.Ytgcjbkdogloojaa.typesOf
open Go.ChangeShapes Go.WideShapes Go.ChangeAt Go.RowKit
open Go.Proofs.Ytgcjbkdogloojaa.Vm Go.Proofs.YtgcjbkdogloojaaW.PrintWords Go.Proofs.Ytgcjbkdogloojaa.PTypesOf

/-- The type of values of a type of variables, and the error. -/
def ofv (ty b : Int) : Int × Bool × Int :=
  if ty = 1 then (1, false, 0) else if ty = 2 then (1, false, 0) else if ty = 3 then (8, false, 0) else if ty = 4 then (16, true, 0) else if ty = 5 then (32, true, 0)
  else if ty = 6 then (if 1 ≤ b then (if b ≤ 32 then (b, false, 0) else (0, false, 16)) else (0, false, 16))
  else if ty = 7 then (8, false, 0) else if ty = 8 then (8, false, 0) else if ty = 9 then (8, false, 0) else (0, false, 16)

theorem of_all (ty b v e : Int) (s : Bool) (h : ofv ty b = (v, s, e)) (w : World) : Calls Try.prog 8 #[.int .i64 ty, .int .i64 b] w fun e' w' =>
    e' = .returned (.tuple #[.agg #[.int .i64 v, .bool s], .int .i64 e]) ∧ Below w.heap.size w w' := by
  by_cases h1 : ty = 1
  · subst h1
    simp [ofv] at h
    obtain ⟨rfl, rfl, rfl⟩ := h
    exact Ty.of1 b w
  by_cases h2 : ty = 2
  · subst h2
    simp [ofv] at h
    obtain ⟨rfl, rfl, rfl⟩ := h
    exact Ty.of2 b w
  by_cases h3 : ty = 3
  · subst h3
    simp [ofv] at h
    obtain ⟨rfl, rfl, rfl⟩ := h
    exact Ty.of3 b w
  by_cases h4 : ty = 4
  · subst h4
    simp [ofv] at h
    obtain ⟨rfl, rfl, rfl⟩ := h
    exact Ty.of4 b w
  by_cases h5 : ty = 5
  · subst h5
    simp [ofv] at h
    obtain ⟨rfl, rfl, rfl⟩ := h
    exact Ty.of5 b w
  by_cases h7 : ty = 7
  · subst h7
    simp [ofv] at h
    obtain ⟨rfl, rfl, rfl⟩ := h
    exact Ty.of7 b w
  by_cases h8 : ty = 8
  · subst h8
    simp [ofv] at h
    obtain ⟨rfl, rfl, rfl⟩ := h
    exact Ty.of8 b w
  by_cases h9 : ty = 9
  · subst h9
    simp [ofv] at h
    obtain ⟨rfl, rfl, rfl⟩ := h
    exact Ty.of9 b w
  by_cases h6 : ty = 6
  · subst h6
    by_cases a0 : 1 ≤ b
    · by_cases a1 : b ≤ 32
      · simp [ofv, a0, a1] at h
        obtain ⟨rfl, rfl, rfl⟩ := h
        exact Ty.of6y b a0 a1 w
      · have a1' : ¬ b ≤ 32 := a1
        simp only [ofv, if_pos a0, if_neg a1'] at h
        simp at h
        obtain ⟨rfl, rfl, rfl⟩ := h
        exact Ty.of6b b a0 a1 w
    · simp only [ofv, if_neg a0] at h
      simp at h
      obtain ⟨rfl, rfl, rfl⟩ := h
      exact Ty.of6a b a0 w
  simp [ofv, *] at h
  obtain ⟨rfl, rfl, rfl⟩ := h
  exact Ty.ofelse ty b (by omega) w

theorem ref_of (ty b : Int) : spinneretref07_Of.f 3 ty b = some (ofv ty b) := by
  unfold spinneretref07_Of.f ofv
  by_cases h1 : ty = 1
  · subst h1
    simp [spinneretref07_Of.j0]
  by_cases h2 : ty = 2
  · subst h2
    simp [spinneretref07_Of.j0]
  by_cases h3 : ty = 3
  · subst h3
    simp [spinneretref07_Of.j0, spinneretref07_Of.j1]
  by_cases h4 : ty = 4
  · subst h4
    simp [spinneretref07_Of.j0, spinneretref07_Of.j1]
  by_cases h5 : ty = 5
  · subst h5
    simp [spinneretref07_Of.j0, spinneretref07_Of.j1]
  by_cases h7 : ty = 7
  · subst h7
    simp [spinneretref07_Of.j0, spinneretref07_Of.j1]
  by_cases h8 : ty = 8
  · subst h8
    simp [spinneretref07_Of.j0, spinneretref07_Of.j1]
  by_cases h9 : ty = 9
  · subst h9
    simp [spinneretref07_Of.j0, spinneretref07_Of.j1]
  by_cases h6 : ty = 6
  · subst h6
    by_cases a0 : 1 ≤ b
    · by_cases a1 : b ≤ 32
      · simp [spinneretref07_Of.j0, spinneretref07_Of.j1, a0, a1]
      · simp [spinneretref07_Of.j0, spinneretref07_Of.j1, a0, a1]
    · simp [spinneretref07_Of.j0, spinneretref07_Of.j1, a0]
  simp [spinneretref07_Of.j0, spinneretref07_Of.j1, *]

set_option maxHeartbeats 400000 in
set_option maxRecDepth 100000 in
theorem walk (ty b : Int) (w : World) : Calls Try.prog 3 #[.int .i64 ty, .int .i64 b] w fun e w' => e = .returned (.bool true) ∧ Below w.heap.size w w' := by
  obtain ⟨⟨v, s, n⟩, h0⟩ : ∃ t, ofv ty b = t := ⟨_, rfl⟩
  have H := Aside0.mk h0
  have H2 := Aside0.mk ((ref_of ty b).trans (congrArg some h0))
  clear h0
  have hu23 := Try.underlying23
  go_enter Try.func3, Try.ntmps3
  go_wp2_with (first | (go_at_call 8; refine (of_all _ _ _ _ _ H.out _).mono ?_; rintro e w1 ⟨rfl, hb1⟩) | (go_at_call 9; refine (spinneretref07_Of.calls _ _ _ _ _ _ _ H2.out).mono ?_; rintro e w2 ⟨rfl, hb2⟩; have k0 : w2.cell? ⟨w1.heap.size, 0, none⟩ = some (.int .i64 v) := (hb2.cell (p := ⟨w1.heap.size, 0, none⟩) (by simp)).trans (by go_simp); have k1 : w2.cell? ⟨w1.heap.size, 1, none⟩ = some (.bool s) := (hb2.cell (p := ⟨w1.heap.size, 1, none⟩) (by simp)).trans (by go_simp); have hz : w1.heap.size < w2.heap.size := (by have h_ := hb2.size; simp at h_; omega)))
  go_ret
  exact ⟨rfl, below_alloc (below_step (below_alloc hb1 _) hb2) _⟩
theorem own : ownKnob Try.prog.godebug = none := by kernel_rfl
set_option maxRecDepth 100000 in
theorem lifted (os : Os) (started : os.Started) (H : Type) (enc : TypeId × Value → H) :
    ReturnsInHanded {} Try.checked os 3 .any (Rows.typesOfSpec.pre6 enc Try.prog Try.f3 Rows.typesOfRow.domain false) (Rows.typesOfSpec.post enc Try.prog Try.f3 false true false false) := by
  refine returnsInHanded_of_change_sized (C := Try.checked) own started (by kernel_rfl) Try.func3
    (ChangeSpec.witness6 (enc := enc) (C := Try.checked) false ⟨#[], #[.int .i64 0, .int .i64 0], []⟩ 8 (by kernel_rfl) (by kernel_rfl) (by kernel_rfl) (by kernel_rfl)) ?_
  intro W base args ds gs before hval0 hW _ _ _
  have hval : ∀ (j : Nat) t v, Try.f3.params[j]? = some t → args[j]? = some v → Value.okWide Try.prog W .any base t v := hval0
  have hW' := hW
  obtain ⟨p, q, hA0, hV, rfl, hfz, hnd⟩ := hW
  have hA : DataW.TrodAll enc Try.prog W 0 (fun _ => true) true Try.f3.params.toList args.toList ds p := hA0
  rw [Try.params3] at hA hval
  obtain ⟨v0, vs0, d0, ds0, p0, q0, hargs, rfl, rfl, h0, r0⟩ := trodAll_cons hA
  obtain ⟨v1, vs1, d1, ds1, p1, q1, rfl, rfl, rfl, h1, r1⟩ := trodAll_cons r0
  obtain ⟨rfl, rfl, rfl⟩ := trodAll_nil r1
  obtain rfl : args = #[v0, v1] := by cases args; simp_all
  obtain ⟨rfl, rfl⟩ := trodVars_none hV
  obtain ⟨a0, rfl, rfl, rfl, w0⟩ := open_int Try.underlying3 (hval 0 3 v0 rfl rfl) h0
  obtain ⟨a1, rfl, rfl, rfl, w1⟩ := open_int Try.underlying3 (hval 1 3 v1 rfl rfl) h1
  clear hA0 hval0
  refine (walk a0 a1 W).mono fun e W' ⟨he, bel⟩ => ?_
  subst he
  exact ⟨_, rfl, _, _, _, [], _, [], hW', trodAll_mk1 (shut_bool Try.underlying4 _), (trodAll_cons_mk (shut_int Try.underlying3 w0) (trodAll_cons_mk (shut_int Try.underlying3 w1) trodAll_mk0)), rfl, bel.frame _, fun h => by cases h⟩
theorem over : Rows.typesOfRow.holds Try.pinned (OpenSpec.ofChange Rows.typesOfSpec) :=
  OpenClaim.holds_of_wide 3 Try.f3 rfl rfl rfl rfl rfl rfl rfl ⟨rfl, rfl, rfl, rfl, rfl⟩ rfl rfl rfl rfl rfl (by kernel_rfl) Try.func3 (by kernel_rfl)
    (of_decide_eq_true (by kernel_rfl)) (by unfold Func.isWrapper; first | (rw [if_pos (by decide +kernel)]; kernel_rfl) | (rw [if_neg (by decide +kernel)]; exact ⟨rfl, rfl⟩))
    (fun os started H enc _ => lifted os started H enc)
end Go.Proofs.Ytgcjbkdogloojaa.typesOf
namespace Go.Proofs.Ytgcjbkdogloojaa
/-- The statement. -/
theorem typesOf_holds : Rows.TypesOfSaid := typesOf.over
end Go.Proofs.Ytgcjbkdogloojaa
