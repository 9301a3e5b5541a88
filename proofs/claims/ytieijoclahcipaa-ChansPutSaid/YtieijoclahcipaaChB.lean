/- A message's copy: the walk of slices.Clone. Condition: the message has at most 2^44 numbers. -/
import Derived.Test.YtieijoclahcipaaChA
import Derived.Lib.SliceRun
import Derived.Maps.AppendAt
namespace Go.Proofs.Ytieijoclahcipaa.Ch
open Go.RowKit Go.Proofs.YtieijoclahcipaaW.PrintWords Go.Proofs.YtieijoclahcipaaW.PrintLast Go.Proofs.YtieijoclahcipaaW.PrintMore Go.Proofs.Ytieijoclahcipaa.PChansPut

theorem info_parts {P : Program} {t : TypeId} {z : Value} {s b : Nat} (h : (P.info? t).map (fun i => (i.zero, i.size, i.bytes)) = some (some z, s, b)) : ∃ i, P.info? t = some i ∧ i.zero = some z ∧ i.size = s ∧ i.bytes = b := by
  cases hi : P.info? t with
  | none => rw [hi] at h; cases h
  | some i =>
    rw [hi] at h
    simp at h
    exact ⟨i, rfl, h.1, h.2.1, h.2.2⟩

theorem row_cells {w : World} {ad : Addr} {n : Nat} {l : List Int} (h : kd1.C w (some ad) n l) (j : Nat) (u : Value) (hj : (nums .i64 l)[j]? = some u) : w.cell? (ad.add j) = some u := by
  simp only [nums, List.getElem?_map, Option.map_eq_some_iff] at hj
  obtain ⟨x, hx, rfl⟩ := hj
  obtain ⟨hl, rfl⟩ := List.getElem?_eq_some_iff.1 hx
  obtain ⟨ad', e, hc⟩ := cell_of_row h j hl
  cases e
  exact hc

set_option maxHeartbeats 800000 in
set_option maxRecDepth 100000 in
theorem clone_walk (w : World) (A : Option Addr) (c : Nat) (l : List Int) (h : kd1.C w A l.length l) (hl : l.length < 17592186044416) :
    Calls Try.prog 28 #[.slice A l.length c] w fun e w' => ∃ v, e = .returned v ∧ kd1.R 2 w' w.heap.size (fun _ => True) v l ∧ Below w.heap.size w w' := by
  have q29 : ∀ (w : World) (a : Option Addr) (n c n' c' : Nat), (binOp .eql 29 (.slice a n c) (.slice none n' c')).run Try.prog w = .ok (.bool a.isNone) w := fun w a n c n' c' => Lib.run_eql_slice_nil w _ _ a n c n' c' Try.underlying29
  cases A with
  | none =>
    have h0 : l = [] := by
      obtain ⟨_, _, hr⟩ := h
      cases l with
      | nil => rfl
      | cons x l =>
        obtain ⟨ad, e, _⟩ := hr (by simp)
        cases e
    subst h0
    clear h hl
    go_enter Try.func28, Try.ntmps28
    go_wp2
    go_ret
    exact ⟨_, rfl, Kd.R_nil _ _ _ _ _, Below.refl _ _⟩
  | some ad =>
    obtain ⟨i0, hi, hz0, hz1, hz2⟩ := info_parts info2
    have H := Aside0.mk h
    clear h
    go_enter Try.func28, Try.ntmps28
    go_wp2_with (at_builtin; refine wpList_append_own_at _ rfl _ _ 29 rfl w.heap.size 2 i0 (.int .i64 0) 1 8 Try.underlying29 hi hz0 hz1 hz2 rfl (by decide) _ _ _ rfl (World.ownsRow_made w #[] 0 (Nat.le_refl _) (Nat.zero_le _) (by simp)) ad l.length c (nums .i64 l) rfl ?qc1 ?qc2 ?qc3 ?qc4 ?qc5 ?qc6 ?_)
    case qc1 => simp [nums]
    case qc2 =>
      intro j u hj
      exact pw_cell_below (below_alloc (Below.refl _ _) _) (row_cells H.out j u hj)
    case qc3 =>
      intro u hu
      simp only [nums, List.mem_map] at hu
      obtain ⟨x, _, rfl⟩ := hu
      rfl
    case qc4 => unfold maxLen; omega
    case qc5 => omega
    case qc6 => simp
    intro v' w1 hown hgrow hnil _
    go_wp2
    go_ret
    refine ⟨v', rfl, ⟨fun _ _ => trivial, nums .i64 l, hown, Kd.reps_scalar (enc := Value.int .i64) l⟩, ?_⟩
    exact ((Below.refl _ w).alloc (Nat.le_refl _) _).grown hgrow (by simp) (by intro k hk; simp [Value.ownBlock] at hk; omega)
end Go.Proofs.Ytieijoclahcipaa.Ch
