/- The statement ChansQueue, where what it reads is of bulk at most 1048576: what is put behind all comes out in the order in which it was put, none lost, none doubled. -/
import Derived.Test.YtieijoclahcipaaRows
import Derived.Test.YtieijoclahcipaaChM
import Derived.WalkKit
import Derived.ProofKit
import Derived.OpenShut
import Derived.ChangeOld
import Derived.Below
import Derived.Lib.SmallJoins
import Derived.ChangeSame
import Derived.Carry
namespace Go.Proofs.Ytieijoclahcipaa.chansQueueUpto
open Go.ChangeShapes Go.WideShapes Go.RowKit Go.Deep Go.Joins
theorem own : ownKnob Try.prog.godebug = none := by kernel_rfl
theorem laidOut : laidOutB Try.prog = true := by kernel_rfl
theorem cells24 : Try.prog.cellsOf 24 = 2 := by kernel_rfl

theorem contract (H : Type) (enc : TypeId × Value → H) (W : World) (base : Nat) (args : Array Value) (ds gs : List (DataW H)) (before : List MemPlace)
    (hval0 : ∀ (j : Nat) t v, Try.f4.params[j]? = some t → args[j]? = some v → Value.okWide Try.prog W .any base t v)
    (hW : DataW.Whole enc Try.prog Try.f4.params.toList Rows.chansQueueSpec.vars false W args.toList ds gs before) (hk : Rows.uptoSmall H (ds ++ gs) = true) :
    Calls Try.prog 4 args W fun e W' => ∃ v, e = .returned v ∧ Rows.chansQueueSpec.post enc Try.prog Try.f4 false true false false W args v W' := by
  have hval : ∀ (j : Nat) t v, Try.f4.params[j]? = some t → args[j]? = some v → Value.okWide Try.prog W .any base t v := hval0
  have hb := bulks.bound hk
  have hW' := hW
  obtain ⟨p, q, hA0, hV, rfl, _, _⟩ := hW
  have hA : DataW.TrodAll enc Try.prog W 0 (fun _ => true) true Try.f4.params.toList args.toList ds p := hA0
  rw [Try.params4] at hA hval
  obtain ⟨v0, vs0, d0, ds0, p0, q0, hargs, rfl, rfl, h0, r0⟩ := trodAll_cons hA
  obtain ⟨v1, vs1, d1, ds1, p1, q1, rfl, rfl, rfl, h1, r1⟩ := trodAll_cons r0
  obtain ⟨rfl, rfl, rfl⟩ := trodAll_nil r1
  obtain rfl : args = #[v0, v1] := by cases args; simp_all
  obtain ⟨rfl, rfl⟩ := trodVars_none hV
  have h0k := h0
  have h1k := h1
  obtain ⟨c0, c1, y0, y1, m0, rfl, rfl, rfl, hy0, hy1⟩ := open_agg2 Try.underlying24 (by kernel_rfl) cells24 (hval 0 24 v0 rfl rfl) h0
  obtain ⟨room, e0, rfl, _⟩ := DataW.trod_int Try.underlying3 hy0
  simp only [List.append_nil, Rows.uptoBulkAll, Rows.uptoBulk] at hb
  obtain ⟨Af, nf, cf, fs, e1, _, hfl, hfn, hF⟩ := Ch.types_of_trod hy1 (by omega)
  obtain ⟨a1, n1, cc1, rfl⟩ := okWide_slice Try.underlying25 (hval 1 25 v1 rfl rfl)
  obtain ⟨fuel, hf⟩ := h1
  obtain ⟨A, n, c, l, e2, _, hll, hln, hL, hLM⟩ := Ch.msgs_of_trod hf (by show Rows.uptoBulk d1 ≤ _; omega)
  simp [Value.cells] at e0 e1 e2
  subst e0
  subst e1
  obtain ⟨rfl, rfl, rfl⟩ := e2
  subst hfl hll
  clear hA0 hval0
  simp only [List.append_nil, List.nil_append] at hW'
  have hlt0 := fun x (hx : x ∈ _) => hW'.lt x (List.mem_append.2 (Or.inl hx))
  have hlt1 := fun x (hx : x ∈ _) => hW'.lt x (List.mem_append.2 (Or.inr hx))
  refine (Ch.queue_walk W room Af _ cf _ fs l hF hL (by omega) (fun y hy => by have := hLM y hy; omega) (by omega)).mono fun e W' ⟨he, hnx⟩ => ?_
  subst he
  exact ⟨_, rfl, _, _, _, [] ++ [], _, [], hW', trodAll_mk1 (shut_bool Try.underlying4 _), trodAll_cons_mk (Below.trod laidOut (by kernel_rfl) (of_decide_eq_true (by kernel_rfl)) h0k hnx (fun x hx => by simpa using hlt0 x hx)) (trodAll_mk1 (Below.trod laidOut (by kernel_rfl) (of_decide_eq_true (by kernel_rfl)) h1k hnx (fun x hx => by simpa using hlt1 x hx))), rfl, hnx.frame _, fun h => by cases h⟩

set_option maxRecDepth 100000 in
theorem lifted (os : Os) (started : os.Started) (H : Type) (enc : TypeId × Value → H) (F : Stop.Interp) :
    ReturnsInHanded {} Try.checked os 4 .any ((Rows.OpenSpec.upto Rows.chansQueueSpec).pre6 enc Try.prog Try.f4 Rows.chansQueueUptoRow.domain false) (((Rows.OpenSpec.upto Rows.chansQueueSpec).at F).post enc Try.prog Try.f4 false true false false) := by
  refine returnsInHanded_of_cond (C := Try.checked) (s := Rows.OpenSpec.upto Rows.chansQueueSpec) (k := Rows.uptoSmall) rfl own started (by kernel_rfl) Try.func4
    (OpenSpec.witness (enc := enc) (C := Try.checked) (s := Rows.OpenSpec.upto Rows.chansQueueSpec) (k := Rows.uptoSmall) rfl false ⟨#[], #[.agg #[.int .i64 0, .slice none 0 0], .slice none 0 0], []⟩ 8 (by kernel_rfl) (by kernel_rfl) (by kernel_rfl)
      (x := ([.agg [.lit (.int .i64 0), .nil], .nil], [], [])) (by kernel_rfl) rfl (by kernel_rfl)) ?_
  intro W base args ds gs before hval hW _ hk _
  exact contract H enc W base args ds gs before hval hW hk

theorem over : Rows.chansQueueUptoRow.holds Try.pinned (Rows.OpenSpec.upto Rows.chansQueueSpec) :=
  OpenClaim.holds_of_cond 4 Try.f4 rfl rfl rfl rfl rfl rfl rfl ⟨rfl, rfl, rfl, rfl, rfl⟩ rfl rfl rfl rfl rfl (by kernel_rfl) Try.func4 (by kernel_rfl)
    (of_decide_eq_true (by kernel_rfl)) (by unfold Func.isWrapper; first | (rw [if_pos (by decide +kernel)]; kernel_rfl) | (rw [if_neg (by decide +kernel)]; exact ⟨rfl, rfl⟩))
    (fun os started H enc _ F => lifted os started H enc F)
end Go.Proofs.Ytieijoclahcipaa.chansQueueUpto
namespace Go.Proofs.Ytieijoclahcipaa
/-- The statement. -/
theorem chansQueueUpto_holds : Rows.ChansQueueUptoSaid := chansQueueUpto.over
end Go.Proofs.Ytieijoclahcipaa
