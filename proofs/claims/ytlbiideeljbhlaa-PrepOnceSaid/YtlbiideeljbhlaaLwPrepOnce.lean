/- The statement PrepOnce: a macro that is defined once stands for its tokens. No condition. -/
import Derived.Test.YtlbiideeljbhlaaRows
import Derived.Test.YtlbiideeljbhlaaPrY
import Derived.Test.YtlbiideeljbhlaaPrR
import Derived.WalkKit
import Derived.ProofKit
import Derived.OpenShut
import Derived.ChangeOld
import Derived.Below
import Derived.Lib.SmallJoins
import Derived.ChangeSame
import Derived.Carry
set_option linter.unusedSimpArgs false
namespace Go.Proofs.Ytlbiideeljbhlaa.prepOnce
open Go.ChangeShapes Go.WideShapes Go.RowKit Go.Deep Go.Joins
theorem own : ownKnob Try.prog.godebug = none := by kernel_rfl
theorem laidOut : laidOutB Try.prog = true := by kernel_rfl

set_option maxRecDepth 100000 in
theorem lifted (os : Os) (started : os.Started) (H : Type) (enc : TypeId × Value → H) :
    ReturnsInHanded {} Try.checked os 5 .any (Rows.prepOnceSpec.pre6 enc Try.prog Try.f5 Rows.prepOnceRow.domain false) (Rows.prepOnceSpec.post enc Try.prog Try.f5 false true false false) := by
  refine returnsInHanded_of_change_sized (C := Try.checked) own started (by kernel_rfl) Try.func5
    (ChangeSpec.witness6 (enc := enc) (C := Try.checked) false ⟨#[], #[.slice none 0 0, .slice none 0 0], []⟩ 8 (by kernel_rfl) (by kernel_rfl) (by kernel_rfl) (by kernel_rfl)) ?_
  intro W base args ds gs before hval0 hW _ hsz0 _
  have hval : ∀ (j : Nat) t v, Try.f5.params[j]? = some t → args[j]? = some v → Value.okWide Try.prog W .any base t v := hval0
  have hsz : (DataW.weightsEach Try.prog (Try.f5.params.toList ++ Rows.prepOnceSpec.plain.varTypes Try.prog) (ds ++ gs)).all (· ≤ reachBytes) = true := hsz0
  have hW' := hW
  obtain ⟨p, q, hA0, hV, rfl, _, _⟩ := hW
  have hA : DataW.TrodAll enc Try.prog W 0 (fun _ => true) true Try.f5.params.toList args.toList ds p := hA0
  rw [Try.params5] at hA hval hsz
  obtain ⟨v0, vs0, d0, ds0, p0, q0, hargs, rfl, rfl, h0, r0⟩ := trodAll_cons hA
  obtain ⟨v1, vs1, d1, ds1, p1, q1, rfl, rfl, rfl, h1, r1⟩ := trodAll_cons r0
  obtain ⟨rfl, rfl, rfl⟩ := trodAll_nil r1
  obtain rfl : args = #[v0, v1] := by cases args; simp_all
  obtain ⟨rfl, rfl⟩ := trodVars_none hV
  have h0k := h0
  have h1k := h1
  have hz0 := Pr.light_each hsz (j := 0) (t := 22) rfl rfl
  have hz1 := Pr.light_each hsz (j := 1) (t := 22) rfl rfl
  obtain ⟨a0, n0, cc0, rfl⟩ := okWide_slice Try.underlying22 (hval 0 22 v0 rfl rfl)
  obtain ⟨a1, n1, cc1, rfl⟩ := okWide_slice Try.underlying22 (hval 1 22 v1 rfl rfl)
  obtain ⟨fuel0, hf0⟩ := h0
  obtain ⟨fuel1, hf1⟩ := h1
  obtain ⟨A, n, c, l, e0, hc, hl, hn, hC, _⟩ := Pr.toks_sized hf0 hz0
  obtain ⟨A1, m, c1, l1, e1, hc1, hl1, hm, hC1, _⟩ := Pr.toks_sized hf1 hz1
  simp only [Value.cells] at e0 e1
  simp at e0 e1
  obtain ⟨rfl, rfl, rfl⟩ := e0
  obtain ⟨rfl, rfl, rfl⟩ := e1
  subst hl hl1
  clear hA0 hval0
  simp only [List.append_nil, List.nil_append] at hW'
  have hlt0 := fun x (hx : x ∈ _) => hW'.lt x (List.mem_append.2 (Or.inl hx))
  have hlt1 := fun x (hx : x ∈ _) => hW'.lt x (List.mem_append.2 (Or.inr hx))
  refine (Pr.once_walk W _ _ _ _ _ _ l l1 hC rfl hc hC1 rfl hc1 (by omega)).mono fun e W' ⟨he, hnx⟩ => ?_
  subst he
  exact ⟨_, rfl, _, _, _, [] ++ [], _, [], hW', trodAll_mk1 (shut_bool Try.underlying4 _), trodAll_cons_mk (Below.trod laidOut (by kernel_rfl) (of_decide_eq_true (by kernel_rfl)) h0k hnx (fun x hx => by simpa using hlt0 x hx)) (trodAll_mk1 (Below.trod laidOut (by kernel_rfl) (of_decide_eq_true (by kernel_rfl)) h1k hnx (fun x hx => by simpa using hlt1 x hx))), rfl, hnx.frame _, fun h => by cases h⟩
theorem over : Rows.prepOnceRow.holds Try.pinned (OpenSpec.ofChange Rows.prepOnceSpec) :=
  OpenClaim.holds_of_wide 5 Try.f5 rfl rfl rfl rfl rfl rfl rfl ⟨rfl, rfl, rfl, rfl, rfl⟩ rfl rfl rfl rfl rfl (by kernel_rfl) Try.func5 (by kernel_rfl)
    (of_decide_eq_true (by kernel_rfl)) (by unfold Func.isWrapper; first | (rw [if_pos (by decide +kernel)]; kernel_rfl) | (rw [if_neg (by decide +kernel)]; exact ⟨rfl, rfl⟩))
    (fun os started H enc _ => lifted os started H enc)
end Go.Proofs.Ytlbiideeljbhlaa.prepOnce
namespace Go.Proofs.Ytlbiideeljbhlaa
/-- The statement. -/
theorem prepOnce_holds : Rows.PrepOnceSaid := prepOnce.over
end Go.Proofs.Ytlbiideeljbhlaa
