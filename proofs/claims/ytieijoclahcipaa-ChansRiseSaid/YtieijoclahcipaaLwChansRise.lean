/- The statement ChansRise: what is put sorted rises, and has the same messages, whatever order they were put in. No condition. -/
import Derived.Test.YtieijoclahcipaaRows
import Derived.Test.YtieijoclahcipaaChP
import Derived.Test.YtieijoclahcipaaChQ
import Derived.WalkKit
import Derived.ProofKit
import Derived.OpenShut
import Derived.ChangeOld
import Derived.Below
import Derived.Lib.SmallJoins
import Derived.ChangeSame
import Derived.Carry
set_option linter.unusedSimpArgs false
namespace Go.Proofs.Ytieijoclahcipaa.chansRise
open Go.ChangeShapes Go.WideShapes Go.RowKit Go.Deep Go.Joins
theorem own : ownKnob Try.prog.godebug = none := by kernel_rfl
theorem laidOut : laidOutB Try.prog = true := by kernel_rfl
theorem cells24 : Try.prog.cellsOf 24 = 2 := by kernel_rfl

set_option maxRecDepth 100000 in
theorem lifted (os : Os) (started : os.Started) (H : Type) (enc : TypeId × Value → H) :
    ReturnsInHanded {} Try.checked os 5 .any (Rows.chansRiseSpec.pre6 enc Try.prog Try.f5 Rows.chansRiseRow.domain false) (Rows.chansRiseSpec.post enc Try.prog Try.f5 false true false false) := by
  refine returnsInHanded_of_change_sized (C := Try.checked) own started (by kernel_rfl) Try.func5
    (ChangeSpec.witness6 (enc := enc) (C := Try.checked) false ⟨#[], #[.agg #[.int .i64 0, .slice none 0 0], .slice none 0 0], []⟩ 8 (by kernel_rfl) (by kernel_rfl) (by kernel_rfl) (by kernel_rfl)) ?_
  intro W base args ds gs before hval0 hW _ hsz0 _
  have hval : ∀ (j : Nat) t v, Try.f5.params[j]? = some t → args[j]? = some v → Value.okWide Try.prog W .any base t v := hval0
  have hsz : (DataW.weightsEach Try.prog (Try.f5.params.toList ++ Rows.chansRiseSpec.plain.varTypes Try.prog) (ds ++ gs)).all (· ≤ reachBytes) = true := hsz0
  have hW' := hW
  obtain ⟨p, q, hA0, hV, rfl, _, _⟩ := hW
  have hA : DataW.TrodAll enc Try.prog W 0 (fun _ => true) true Try.f5.params.toList args.toList ds p := hA0
  rw [Try.params5] at hA hval hsz
  obtain ⟨v0, vs0, d0, ds0, p0, q0, hargs, rfl, rfl, h0, r0⟩ := trodAll_cons hA
  obtain ⟨v1, vs1, d1, ds1, p1, q1, rfl, rfl, rfl, h1, r1⟩ := trodAll_cons r0
  obtain ⟨rfl, rfl, rfl⟩ := trodAll_nil r1
  obtain rfl : args = #[v0, v1] := by cases args; simp_all
  obtain ⟨rfl, rfl⟩ := trodVars_none hV
  have h0k := h0
  have h1k := h1
  have hz0 := Ch.light_each hsz (j := 0) (t := 24) rfl rfl
  have hz1 := Ch.light_each hsz (j := 1) (t := 25) rfl rfl
  obtain ⟨c0, c1, y0, y1, m0, rfl, rfl, rfl, hy0, hy1⟩ := open_agg2 Try.underlying24 (by kernel_rfl) cells24 (hval 0 24 v0 rfl rfl) h0
  obtain ⟨room, e0, rfl, _⟩ := DataW.trod_int Try.underlying3 hy0
  obtain ⟨Af, nf, cf, fs, e1, _, hfl, hfn, hF⟩ := Ch.types_sized hy1 (fun n hn => hz0 n (by simp [DataW.weights, DataW.weightsEach, Try.underlying24, hn]))
  obtain ⟨a1, n1, cc1, rfl⟩ := okWide_slice Try.underlying25 (hval 1 25 v1 rfl rfl)
  obtain ⟨fuel, hf⟩ := h1
  obtain ⟨A, n, c, l, e2, _, hll, hln, hL, hLM⟩ := Ch.msgs_sized hf hz1
  simp [Value.cells] at e0 e1 e2
  subst e0
  subst e1
  obtain ⟨rfl, rfl, rfl⟩ := e2
  subst hfl hll
  clear hA0 hval0
  simp only [List.append_nil, List.nil_append] at hW'
  have hlt0 := fun x (hx : x ∈ _) => hW'.lt x (List.mem_append.2 (Or.inl hx))
  have hlt1 := fun x (hx : x ∈ _) => hW'.lt x (List.mem_append.2 (Or.inr hx))
  refine (Ch.rise_walk W room Af _ cf _ fs l hF hL (by omega) hLM hfn).mono fun e W' ⟨he, hnx⟩ => ?_
  subst he
  exact ⟨_, rfl, _, _, _, [] ++ [], _, [], hW', trodAll_mk1 (shut_bool Try.underlying4 _), trodAll_cons_mk (Below.trod laidOut (by kernel_rfl) (of_decide_eq_true (by kernel_rfl)) h0k hnx (fun x hx => by simpa using hlt0 x hx)) (trodAll_mk1 (Below.trod laidOut (by kernel_rfl) (of_decide_eq_true (by kernel_rfl)) h1k hnx (fun x hx => by simpa using hlt1 x hx))), rfl, hnx.frame _, fun h => by cases h⟩
theorem over : Rows.chansRiseRow.holds Try.pinned (OpenSpec.ofChange Rows.chansRiseSpec) :=
  OpenClaim.holds_of_wide 5 Try.f5 rfl rfl rfl rfl rfl rfl rfl ⟨rfl, rfl, rfl, rfl, rfl⟩ rfl rfl rfl rfl rfl (by kernel_rfl) Try.func5 (by kernel_rfl)
    (of_decide_eq_true (by kernel_rfl)) (by unfold Func.isWrapper; first | (rw [if_pos (by decide +kernel)]; kernel_rfl) | (rw [if_neg (by decide +kernel)]; exact ⟨rfl, rfl⟩))
    (fun os started H enc _ => lifted os started H enc)
end Go.Proofs.Ytieijoclahcipaa.chansRise
namespace Go.Proofs.Ytieijoclahcipaa
/-- The statement. -/
theorem chansRise_holds : Rows.ChansRiseSaid := chansRise.over
end Go.Proofs.Ytieijoclahcipaa
