/- The statement ChansPut: a message is put where the document says, or refused; the channel that was there stays. No condition. -/
import Derived.Test.YtieijoclahcipaaRows
import Derived.Test.YtieijoclahcipaaChW
import Derived.Test.YtieijoclahcipaaChQ
import Derived.WalkKit
import Derived.ProofKit
import Derived.OpenShut
import Derived.ChangeOld
import Derived.Below
import Derived.Lib.SmallJoins
import Derived.ChangeSame
import Derived.Carry
set_option linter.unusedSimpArgs false
namespace Go.Proofs.Ytieijoclahcipaa.chansPut
open Go.ChangeShapes Go.WideShapes Go.RowKit Go.Deep Go.Joins
theorem own : ownKnob Try.prog.godebug = none := by kernel_rfl
theorem laidOut : laidOutB Try.prog = true := by kernel_rfl
theorem cells24 : Try.prog.cellsOf 24 = 2 := by kernel_rfl
theorem cells27 : Try.prog.cellsOf 27 = 2 := by kernel_rfl

set_option maxRecDepth 100000 in
theorem lifted (os : Os) (started : os.Started) (H : Type) (enc : TypeId × Value → H) :
    ReturnsInHanded {} Try.checked os 3 .any (Rows.chansPutSpec.pre6 enc Try.prog Try.f3 Rows.chansPutRow.domain false) (Rows.chansPutSpec.post enc Try.prog Try.f3 false true false false) := by
  refine returnsInHanded_of_change_sized (C := Try.checked) own started (by kernel_rfl) Try.func3
    (ChangeSpec.witness6 (enc := enc) (C := Try.checked) false ⟨#[], #[.agg #[.int .i64 0, .slice none 0 0], .agg #[.int .i64 0, .slice none 0 0], .slice none 0 0], []⟩ 8 (by kernel_rfl) (by kernel_rfl) (by kernel_rfl) (by kernel_rfl)) ?_
  intro W base args ds gs before hval0 hW _ hsz0 _
  have hval : ∀ (j : Nat) t v, Try.f3.params[j]? = some t → args[j]? = some v → Value.okWide Try.prog W .any base t v := hval0
  have hsz : (DataW.weightsEach Try.prog (Try.f3.params.toList ++ Rows.chansPutSpec.plain.varTypes Try.prog) (ds ++ gs)).all (· ≤ reachBytes) = true := hsz0
  have hW' := hW
  obtain ⟨p, q, hA0, hV, rfl, _, _⟩ := hW
  have hA : DataW.TrodAll enc Try.prog W 0 (fun _ => true) true Try.f3.params.toList args.toList ds p := hA0
  rw [Try.params3] at hA hval hsz
  obtain ⟨v0, vs0, d0, ds0, p0, q0, hargs, rfl, rfl, h0, r0⟩ := trodAll_cons hA
  obtain ⟨v1, vs1, d1, ds1, p1, q1, rfl, rfl, rfl, h1, r1⟩ := trodAll_cons r0
  obtain ⟨v2, vs2, d2, ds2, p2, q2, rfl, rfl, rfl, h2, r2⟩ := trodAll_cons r1
  obtain ⟨rfl, rfl, rfl⟩ := trodAll_nil r2
  obtain rfl : args = #[v0, v1, v2] := by cases args; simp_all
  obtain ⟨rfl, rfl⟩ := trodVars_none hV
  have h0k := h0
  have h1k := h1
  have h2k := h2
  have hz0 := Ch.light_each hsz (j := 0) (t := 24) rfl rfl
  have hz1 := Ch.light_each hsz (j := 1) (t := 27) rfl rfl
  have hz2 := Ch.light_each hsz (j := 2) (t := 29) rfl rfl
  obtain ⟨c0, c1, y0, y1, m0, rfl, rfl, rfl, hy0, hy1⟩ := open_agg2 Try.underlying24 (by kernel_rfl) cells24 (hval 0 24 v0 rfl rfl) h0
  obtain ⟨room, e0, rfl, _⟩ := DataW.trod_int Try.underlying3 hy0
  obtain ⟨Af, nf, cf, fs, e1, _, hfl, hfn, hF⟩ := Ch.types_sized hy1 (fun n hn => hz0 n (by simp [DataW.weights, DataW.weightsEach, Try.underlying24, hn]))
  obtain ⟨c3, c4, y3, y4, m3, rfl, rfl, rfl, hy3, hy4⟩ := open_agg2 Try.underlying27 (by kernel_rfl) cells27 (hval 1 27 v1 rfl rfl) h1
  obtain ⟨sh, e3, rfl, _⟩ := DataW.trod_int Try.underlying3 hy3
  obtain ⟨A, n, c, q, e4, hcq, hll, hln, hL, hLM⟩ := Ch.msgs_sized hy4 (fun n hn => hz1 n (by simp [DataW.weights, DataW.weightsEach, Try.underlying27, hn]))
  obtain ⟨a1, n1, cc1, rfl⟩ := okWide_slice Try.underlying29 (hval 2 29 v2 rfl rfl)
  obtain ⟨fuel, hf⟩ := h2
  obtain ⟨Am, nm, cm, m, e2, hcm, hml, hmn, hM⟩ := Ch.msg_sized hf hz2
  simp [Value.cells] at e0 e1 e2 e3 e4
  subst e0
  subst e1
  subst e3
  subst e4
  obtain ⟨rfl, rfl, rfl⟩ := e2
  subst hfl hll hml
  clear hA0 hval0
  simp only [List.append_nil, List.nil_append] at hW'
  have hlt0 := fun x (hx : x ∈ _) => hW'.lt x (List.mem_append.2 (Or.inl hx))
  have hlt1 := fun x (hx : x ∈ _) => hW'.lt x (List.mem_append.2 (Or.inr (List.mem_append.2 (Or.inl hx))))
  have hlt2 := fun x (hx : x ∈ _) => hW'.lt x (List.mem_append.2 (Or.inr (List.mem_append.2 (Or.inr hx))))
  refine (Ch.putlaw_walk W room sh Af A _ cf c _ fs q m hF hL hM hcq hcm (by omega) hLM hmn).mono fun e W' ⟨he, hnx⟩ => ?_
  subst he
  exact ⟨_, rfl, _, _, _, [] ++ [], _, [], hW', trodAll_mk1 (shut_bool Try.underlying4 _), trodAll_cons_mk (Below.trod laidOut (by kernel_rfl) (of_decide_eq_true (by kernel_rfl)) h0k hnx (fun x hx => by simpa using hlt0 x hx)) (trodAll_cons_mk (Below.trod laidOut (by kernel_rfl) (of_decide_eq_true (by kernel_rfl)) h1k hnx (fun x hx => by simpa using hlt1 x hx)) (trodAll_mk1 (Below.trod laidOut (by kernel_rfl) (of_decide_eq_true (by kernel_rfl)) h2k hnx (fun x hx => by simpa using hlt2 x hx)))), rfl, hnx.frame _, fun h => by cases h⟩
theorem over : Rows.chansPutRow.holds Try.pinned (OpenSpec.ofChange Rows.chansPutSpec) :=
  OpenClaim.holds_of_wide 3 Try.f3 rfl rfl rfl rfl rfl rfl rfl ⟨rfl, rfl, rfl, rfl, rfl⟩ rfl rfl rfl rfl rfl (by kernel_rfl) Try.func3 (by kernel_rfl)
    (of_decide_eq_true (by kernel_rfl)) (by unfold Func.isWrapper; first | (rw [if_pos (by decide +kernel)]; kernel_rfl) | (rw [if_neg (by decide +kernel)]; exact ⟨rfl, rfl⟩))
    (fun os started H enc _ => lifted os started H enc)
end Go.Proofs.Ytieijoclahcipaa.chansPut
namespace Go.Proofs.Ytieijoclahcipaa
/-- The statement. -/
theorem chansPut_holds : Rows.ChansPutSaid := chansPut.over
end Go.Proofs.Ytieijoclahcipaa
