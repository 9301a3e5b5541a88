/- A channel is written over: the walk of spoil. Condition: the channel's rows lie in blocks from a base on. -/
import Derived.Test.YtieijoclahcipaaChR
set_option linter.unusedSimpArgs false
set_option linter.unusedVariables false
namespace Go.Proofs.Ytieijoclahcipaa.Ch
open Go.RowKit Go.Proofs.YtieijoclahcipaaW.PrintWords Go.Proofs.YtieijoclahcipaaW.PrintLast Go.Proofs.YtieijoclahcipaaW.PrintMore Go.Proofs.Ytieijoclahcipaa.PChansPut Go.Proofs.Ytieijoclahcipaa.Vm

theorem OwnRows.on {w w1 : World} {base i n : Nat} {A : Option Addr} (h : OwnRows w base i A n) (hb : Below w.heap.size w w1) : OwnRows w1 base i A n := by
  rcases h with h | ⟨g, cs0, e, hg, hcs, hr⟩
  · exact Or.inl h
  · refine Or.inr ⟨g, cs0, e, hg, blk_below hcs hb, fun k h1 h2 => ?_⟩
    obtain ⟨B, m, c, hc, hm, hr⟩ := hr k h1 h2
    refine ⟨B, m, c, hc, hm, ?_⟩
    rcases hr with hr | ⟨b2, cs2, e2, hb2, hcs2, hl2⟩
    · exact Or.inl hr
    · exact Or.inr ⟨b2, cs2, e2, hb2, blk_below hcs2 hb, hl2⟩

/-- The inner loop's row. -/
def OwnRow1 (w : World) (base m : Nat) (B : Option Addr) : Prop := m = 0 ∨ ∃ b cs', B = some ⟨b, 0, none⟩ ∧ base ≤ b ∧ w.heap[b]? = some (.cells cs' 2 (0, 0)) ∧ m ≤ cs'.size

set_option maxHeartbeats 1000000 in
set_option maxRecDepth 100000 in
theorem spoil_walk (w : World) (base n c : Nat) (sh : Int) (A : Option Addr) (h : OwnRows w base 0 A n) (hb : base ≤ w.heap.size) (hn : n ≤ 9223372036854775807) :
    Calls Try.prog 11 #[.agg #[.int .i64 sh, .slice A n c]] w fun e w' => e = .returned (.tuple #[]) ∧ Below base w w' := by
  have HO := Aside0.mk h
  have HB := Aside0.mk hb
  clear h hb
  go_enter Try.func11, Try.ntmps11
  go_wp2
  go_loopg [2] n (fun gg s2 wz => ∃ (i : Nat), i ≤ n ∧ n - i ≤ gg ∧ s2 = .int .i64 i ∧ Aside0 (wz.heap[w.heap.size]? = some (.cells #[.int .i64 sh, .slice A n c] 27 (0, 0)) ∧ OwnRows wz base i A n ∧ Below base w wz))
  case atStart =>
    refine ⟨0, Nat.zero_le _, Nat.le_of_eq (Nat.sub_zero _), rfl, ⟨blk_new _ _, ?_, ?_⟩⟩
    · exact HO.out.on (below_alloc (Below.refl _ _) _)
    · exact (below_alloc (Below.refl _ _) _).mono HB.out
  case round =>
    obtain ⟨i, hi, hg, rfl, HW⟩ := hrel
    have cb0 := (blk_cell HW.out.1 0).trans rfl
    have cb1 := (blk_cell HW.out.1 1).trans rfl
    by_cases hlt : i < n
    · have d0 : ((i : Int) < (n : Int)) = True := eq_true (by omega)
      rcases HW.out.2.1 with h0 | ⟨g, cs, rfl, hbg, hcs, hr⟩
      · omega
      obtain ⟨B, m, cm, hcell, hm, hr⟩ := hr i (Nat.le_refl _) hlt
      have HCS := Aside0.mk (And.intro hbg (And.intro hcell hr))
      clear hbg hcell hr
      have HCW := Aside0.mk hcs
      clear hcs
      go_wp2
      go_loopg [3] m (fun gg s3 wz => ∃ (k : Nat), k ≤ m ∧ m - k ≤ gg ∧ s3 = .int .i64 k ∧ Aside0 (wz.heap[w.heap.size]? = some (.cells #[.int .i64 sh, .slice (some ⟨g, 0, none⟩) n c] 27 (0, 0)) ∧ wz.heap[g]? = some (.cells cs 29 (0, 0)) ∧ OwnRow1 wz base m B ∧ OwnRows wz base i (some ⟨g, 0, none⟩) n ∧ Below base w wz))
      case atStart => exact ⟨0, Nat.zero_le _, Nat.le_of_eq (Nat.sub_zero _), rfl, ⟨HW.out.1, HCW.out, HCS.out.2.2, HW.out.2.1, HW.out.2.2⟩⟩
      case round =>
        obtain ⟨k, hk, hg2, rfl, HZ⟩ := hrel
        have cb0 := (blk_cell HZ.out.1 0).trans rfl
        have cb1 := (blk_cell HZ.out.1 1).trans rfl
        have cg := (blk_cell HZ.out.2.1 i).trans HCS.out.2.1
        have fg := blk_frozen HZ.out.2.1 i
        by_cases hkm : k < m
        · have d1 : ((k : Int) < (m : Int)) = True := eq_true (by omega)
          rcases HZ.out.2.2.1 with h0 | ⟨b, cs', rfl, hbb, hcs', hsz⟩
          · omega
          have ck := (blk_cell hcs' k).trans (Array.getElem?_eq_getElem (show k < cs'.size by omega))
          generalize cs'[k] = u at ck
          have fk := blk_frozen hcs' k
          have HH := Aside0.mk (And.intro hbb (And.intro hcs' hsz))
          clear hbb hcs' hsz
          go_wp2
          go_roundg (m - (k + 1))
          case measure => omega
          case rel =>
            obtain ⟨hbb, hcs', hsz⟩ := HH.out
            have hne : w.heap.size ≠ b := blk_ne HZ.out.1 hcs' (by decide)
            have hne2 : g ≠ b := blk_ne HZ.out.2.1 hcs' (by decide)
            exact ⟨k + 1, by omega, by omega, by go_num, ⟨blk_far (p := ⟨b, k, none⟩) HZ.out.1 hne _, blk_far (p := ⟨b, k, none⟩) HZ.out.2.1 hne2 _, Or.inr ⟨b, _, rfl, hbb, blk_set hcs' k _, by simpa using hsz⟩, HZ.out.2.2.2.1.over hcs' k _, HZ.out.2.2.2.2.setCell hbb _⟩⟩
        · have d1 : ((k : Int) < (m : Int)) = False := eq_false (by omega)
          clear hg2 hkm hk
          go_wp2
          go_roundg (n - (i + 1))
          case measure => omega
          case rel =>
            have hne : w.heap.size ≠ g := blk_ne HZ.out.1 HZ.out.2.1 (by decide)
            exact ⟨i + 1, by omega, by omega, by go_num, ⟨blk_far (p := ⟨g, i, none⟩) HZ.out.1 hne _, HZ.out.2.2.2.1.next _, HZ.out.2.2.2.2.setCell HCS.out.1 _⟩⟩
    · have d0 : ((i : Int) < (n : Int)) = False := eq_false (by omega)
      go_wp2
      exact ⟨rfl, .tuple #[], (by simp [results, Try.results11, go_sem]), rfl, HW.out.2.2⟩
end Go.Proofs.Ytieijoclahcipaa.Ch
