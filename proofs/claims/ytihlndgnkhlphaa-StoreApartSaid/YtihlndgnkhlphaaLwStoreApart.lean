/- The statement StoreApart: every text has one number, every number one text, however alike they are; numbers rise from 0 on. No condition. -/
import Derived.Test.YtihlndgnkhlphaaRows
import Derived.Test.YtihlndgnkhlphaaStV
import Derived.WalkKit
import Derived.ProofKit
import Derived.OpenShut
import Derived.ChangeOld
import Derived.Below
import Derived.SizedLaws
import Derived.SliceStrings
import Derived.Carry
namespace Go.Proofs.Ytihlndgnkhlphaa.storeApart
open Go.ChangeShapes Go.WideShapes Go.ChangeAt Go.RowKit
theorem own : ownKnob Try.prog.godebug = none := by kernel_rfl
theorem laidOut : laidOutB Try.prog = true := by kernel_rfl
theorem cells9 : Try.prog.cellsOf 9 = 1 := by kernel_rfl
set_option maxRecDepth 100000 in
theorem lifted (os : Os) (started : os.Started) (H : Type) (enc : TypeId × Value → H) :
    ReturnsInHanded {} Try.checked os 4 .any (Rows.storeApartSpec.pre6 enc Try.prog Try.f4 Rows.storeApartRow.domain false) (Rows.storeApartSpec.post enc Try.prog Try.f4 false true false false) := by
  refine returnsInHanded_of_change_sized (C := Try.checked) own started (by kernel_rfl) Try.func4
    (ChangeSpec.witness6 (enc := enc) (C := Try.checked) false ⟨#[], #[.slice none 0 0], []⟩ 8 (by kernel_rfl) (by kernel_rfl) (by kernel_rfl) (by kernel_rfl)) ?_
  intro W base args ds gs before hval0 hW _ _ _
  have hval : ∀ (j : Nat) t v, Try.f4.params[j]? = some t → args[j]? = some v → Value.okWide Try.prog W .any base t v := hval0
  have hW' := hW
  obtain ⟨p, q, hA0, hV, rfl, _, _⟩ := hW
  have hA : DataW.TrodAll enc Try.prog W 0 (fun _ => true) true Try.f4.params.toList args.toList ds p := hA0
  rw [Try.params4] at hA hval
  obtain ⟨v0, d0, rfl, rfl, h0⟩ := trodAll_one hA
  obtain ⟨rfl, rfl⟩ := trodVars_none hV
  obtain ⟨a0, len, cap, rfl⟩ := okWide_slice Try.underlying39 (hval 0 39 v0 rfl rfl)
  have h0k := h0
  obtain ⟨fuel, hf⟩ := h0
  clear hA0 hval0
  simp only [List.append_nil] at hW'
  have hlt : ∀ x ∈ p, x.block < W.heap.size := fun x hx => by simpa using hW'.lt x hx
  have fin : ∀ (W' : World), Below W.heap.size W W' → Rows.storeApartSpec.post enc Try.checked.prog Try.f4 false true false false W #[.slice a0 len cap] (.bool true) W' := by
    intro W' hnx
    exact ⟨_, _, _, [] ++ [], p, [], hW', trodAll_mk1 (shut_bool Try.underlying4 _), trodAll_mk1 (Below.trod laidOut (by kernel_rfl) (of_decide_eq_true (by kernel_rfl)) h0k hnx hlt), rfl, hnx.frame _, fun h => by cases h⟩
  rcases open_strings Try.underlying39 Try.underlying9 cells9 hf with ⟨hcs, hx⟩ | ⟨a, len', cap', ss, hcs, _, hl, hm, hz, hx, hcell, hws⟩
  · simp [Value.cells] at hcs
    obtain ⟨rfl, rfl, rfl⟩ := hcs
    refine (St.apart_walk W none 0 [] (by simp) (fun i k h => by simp at h) (fun k h => by simp at h)).mono fun e W' ⟨he, hnx⟩ => ?_
    subst he
    exact ⟨_, rfl, fin _ hnx⟩
  · simp [Value.cells] at hcs
    obtain ⟨rfl, rfl, rfl⟩ := hcs
    simp only [if_true] at hz
    unfold maxLen at hm hws
    have htl : (ss.take len).length = len := by rw [List.length_take]; omega
    have hw := St.apart_walk W (some a) cap (ss.take len) (by omega) (fun i k h => ?_) (fun k h => hws k (List.mem_of_mem_take h))
    · rw [htl] at hw
      refine hw.mono fun e W' ⟨he, hnx⟩ => ?_
      subst he
      exact ⟨_, rfl, fin _ hnx⟩
    · have hi : i < len := by have := (List.getElem?_eq_some_iff.1 h).1; omega
      have hc := hcell i (by omega)
      rw [List.getElem?_take_of_lt hi] at h
      rw [List.getD_eq_getElem?_getD, h] at hc
      refine ⟨a, rfl, ?_, hc⟩
      have := World.block_lt_of_cell? W _ hc
      rwa [block_add] at this
theorem over : Rows.storeApartRow.holds Try.pinned (OpenSpec.ofChange Rows.storeApartSpec) :=
  OpenClaim.holds_of_wide 4 Try.f4 rfl rfl rfl rfl rfl rfl rfl ⟨rfl, rfl, rfl, rfl, rfl⟩ rfl rfl rfl rfl rfl (by kernel_rfl) Try.func4 (by kernel_rfl)
    (of_decide_eq_true (by kernel_rfl)) (by unfold Func.isWrapper; first | (rw [if_pos (by decide +kernel)]; kernel_rfl) | (rw [if_neg (by decide +kernel)]; exact ⟨rfl, rfl⟩))
    (fun os started H enc _ => lifted os started H enc)
end Go.Proofs.Ytihlndgnkhlphaa.storeApart
namespace Go.Proofs.Ytihlndgnkhlphaa
/-- The statement. -/
theorem storeApart_holds : Rows.StoreApartSaid := storeApart.over
end Go.Proofs.Ytihlndgnkhlphaa
