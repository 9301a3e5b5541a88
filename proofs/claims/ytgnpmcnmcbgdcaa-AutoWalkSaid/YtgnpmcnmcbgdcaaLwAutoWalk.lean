/- The statement AutoWalk: how the places of a proctype are numbered is as the chapter says; it stays as it is. No condition. -/
import Derived.Test.YtgnpmcnmcbgdcaaRows
import Derived.Test.YtgnpmcnmcbgdcaaAwS
import Derived.WalkKit
import Derived.ProofKit
import Derived.OpenShut
import Derived.ChangeOld
import Derived.Below
import Derived.Lib.SmallJoins
import Derived.ChangeSame
import Derived.Carry
set_option linter.unusedSimpArgs false
namespace Go.Proofs.Ytgnpmcnmcbgdcaa.autoWalk
open Go.ChangeShapes Go.WideShapes Go.RowKit Go.Deep Go.Joins
theorem own : ownKnob Try.prog.godebug = none := by kernel_rfl
theorem laidOut : laidOutB Try.prog = true := by kernel_rfl

set_option maxRecDepth 100000 in
theorem lifted (os : Os) (started : os.Started) (H : Type) (enc : TypeId × Value → H) :
    ReturnsInHanded {} Try.checked os 3 .any (Rows.autoWalkSpec.pre6 enc Try.prog Try.f3 Rows.autoWalkRow.domain false) (Rows.autoWalkSpec.post enc Try.prog Try.f3 false true false false) := by
  refine returnsInHanded_of_change_sized (C := Try.checked) own started (by kernel_rfl) Try.func3
    (ChangeSpec.witness6 (enc := enc) (C := Try.checked) false ⟨#[], #[.agg #[.string ⟨#[]⟩, .int .i64 0, .slice none 0 0, .slice none 0 0, .slice none 0 0, .int .i64 0, .int .i64 0, .int .i64 0, .int .i64 0, .int .i64 0], .slice none 0 0], []⟩ 8 (by kernel_rfl) (by kernel_rfl) (by kernel_rfl) (by kernel_rfl)) ?_
  intro W base args ds gs before hval0 hW _ hsz0 _
  have hval : ∀ (j : Nat) t v, Try.f3.params[j]? = some t → args[j]? = some v → Value.okWide Try.prog W .any base t v := hval0
  have hsz : (DataW.weightsEach Try.prog (Try.f3.params.toList ++ Rows.autoWalkSpec.plain.varTypes Try.prog) (ds ++ gs)).all (· ≤ reachBytes) = true := hsz0
  have hW' := hW
  obtain ⟨p, q, hA0, hV, rfl, _, _⟩ := hW
  have hA : DataW.TrodAll enc Try.prog W 0 (fun _ => true) true Try.f3.params.toList args.toList ds p := hA0
  rw [Try.params3] at hA hval hsz
  obtain ⟨v0, vs0, d0, ds0, p0, q0, hargs, rfl, rfl, h0, r0⟩ := trodAll_cons hA
  obtain ⟨v1, vs1, d1, ds1, p1, q1, rfl, rfl, rfl, h1, r1⟩ := trodAll_cons r0
  obtain ⟨rfl, rfl, rfl⟩ := trodAll_nil r1
  obtain rfl : args = #[v0, v1] := by cases args; simp_all
  obtain ⟨rfl, rfl⟩ := trodVars_none hV
  have h0k := h0
  have h1k := h1
  have hz0 := Aw.light_each hsz (j := 0) (t := 26) rfl rfl
  have hz1 := Aw.light_each hsz (j := 1) (t := 27) rfl rfl
  obtain ⟨cs, rfl, hcs⟩ := okWide_struct Try.underlying26 (hval 0 26 v0 rfl rfl)
  obtain ⟨fuel, hf⟩ := h0
  obtain ⟨nm, par, st, fi, ac, pr, pv, Af, Ai, A, cf, ci, c, fr, ini, locs, e0, hF, hI, hL, hS⟩ := Aw.proc_sized hf hz0
  obtain ⟨a1, n1, cc1, rfl⟩ := okWide_slice Try.underlying27 (hval 1 27 v1 rfl rfl)
  obtain ⟨fuel1, hf1⟩ := h1
  obtain ⟨Am, nm1, cm, m, e1, hcm, hml, hmn, hM⟩ := Aw.ints_sized hf1 hz1
  simp only [Value.cells] at e0 e1
  obtain rfl : cs = #[.string nm, .int .i64 par, .slice Af fr.length cf, .slice Ai ini.length ci, .slice A locs.length c, .int .i64 st, .int .i64 fi, .int .i64 ac, .int .i64 pr, .int .i64 pv] := by cases cs; simp_all
  simp at e1
  obtain ⟨rfl, rfl, rfl⟩ := e1
  subst hml
  clear hA0 hval0
  simp only [List.append_nil, List.nil_append] at hW'
  have hlt0 := fun x (hx : x ∈ _) => hW'.lt x (List.mem_append.2 (Or.inl hx))
  have hlt1 := fun x (hx : x ∈ _) => hW'.lt x (List.mem_append.2 (Or.inr hx))
  refine (Aw.auto_law W nm par st fi ac pr pv Af Ai A _ cf ci c _ fr ini locs m hF.1 hF.2.1 hF.2.2 hI.1 hI.2.1 hI.2.2 hL.1 hL.2.1 hM hcm hL.2.2 hmn hS).mono fun e W' ⟨he, hnx⟩ => ?_
  subst he
  exact ⟨_, rfl, _, _, _, [] ++ [], _, [], hW', trodAll_mk1 (shut_bool Try.underlying4 _), trodAll_cons_mk (Below.trod laidOut (by kernel_rfl) (of_decide_eq_true (by kernel_rfl)) h0k hnx (fun x hx => by simpa using hlt0 x hx)) (trodAll_mk1 (Below.trod laidOut (by kernel_rfl) (of_decide_eq_true (by kernel_rfl)) h1k hnx (fun x hx => by simpa using hlt1 x hx))), rfl, hnx.frame _, fun h => by cases h⟩
theorem over : Rows.autoWalkRow.holds Try.pinned (OpenSpec.ofChange Rows.autoWalkSpec) :=
  OpenClaim.holds_of_wide 3 Try.f3 rfl rfl rfl rfl rfl rfl rfl ⟨rfl, rfl, rfl, rfl, rfl⟩ rfl rfl rfl rfl rfl (by kernel_rfl) Try.func3 (by kernel_rfl)
    (of_decide_eq_true (by kernel_rfl)) (by unfold Func.isWrapper; first | (rw [if_pos (by decide +kernel)]; kernel_rfl) | (rw [if_neg (by decide +kernel)]; exact ⟨rfl, rfl⟩))
    (fun os started H enc _ => lifted os started H enc)
end Go.Proofs.Ytgnpmcnmcbgdcaa.autoWalk
namespace Go.Proofs.Ytgnpmcnmcbgdcaa
/-- The statement. -/
theorem autoWalk_holds : Rows.AutoWalkSaid := autoWalk.over
end Go.Proofs.Ytgnpmcnmcbgdcaa
