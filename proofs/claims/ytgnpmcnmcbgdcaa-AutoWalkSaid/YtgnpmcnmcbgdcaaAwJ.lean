/- How the reference meets a place: (*Graph).meet. Condition: rows within the form's reach. -/
import Derived.Test.YtgnpmcnmcbgdcaaAwH
import Derived.Test.YtgnpmcnmcbgdcaaAwI
import Derived.StillTailTactics
set_option linter.unusedSimpArgs false
set_option linter.unusedVariables false
namespace Go.Proofs.Ytgnpmcnmcbgdcaa.Aw
open Go.RowKit Go.Proofs.YtgnpmcnmcbgdcaaW.PrintWords Go.Proofs.YtgnpmcnmcbgdcaaW.PrintLast Go.Proofs.YtgnpmcnmcbgdcaaW.PrintMore Go.Proofs.Ytgnpmcnmcbgdcaa.PAutoWalk

/-- The numbers and the order, as the reference has them. -/
structure GW (base : Nat) (W : World) (g : Nat) (B O : Option Addr) (n b m o : Nat) (s : List Int × List Int) : Prop where
  blk : W.heap[g]? = some (.cells #[.slice B n b, .slice O m o] 51 (0, 0))
  le : base ≤ g
  num : k1.R 3 W base (fun k => some k ≠ (Value.slice O m o).ownBlock) (.slice B n b) s.1
  ord : k1.R 3 W base (fun _ => True) (.slice O m o) s.2
theorem GW.on {base : Nat} {W W1 : World} {g : Nat} {B O : Option Addr} {n b m o : Nat} {s : List Int × List Int} (h : GW base W g B O n b m o s) (hb : Below W.heap.size W W1) : GW base W1 g B O n b m o s := ⟨blk_below h.blk hb, h.le, Kd.R_below h.num hb, Kd.R_below h.ord hb⟩
theorem GW.lens {base : Nat} {W : World} {g : Nat} {B O : Option Addr} {n b m o : Nat} {s : List Int × List Int} (h : GW base W g B O n b m o s) : n = s.1.length ∧ m = s.2.length := ⟨(Kd.R_reads' h.num).1, (Kd.R_reads' h.ord).1⟩

/-- What a meeting leaves. -/
structure GMet (base : Nat) (W w' : World) (g : Nat) (B : Option Addr) (n b : Nat) (s : List Int × List Int) : Prop where
  ex : ∃ O m o, GW base w' g B O n b m o s
  below : Below base W w'
  keep : KeepT [3, 51] W w'

set_option maxHeartbeats 1000000 in
set_option maxRecDepth 100000 in
theorem gmeet_walk (base : Nat) (W : World) (g : Nat) (B O : Option Addr) (n b m o : Nat) (s : List Int × List Int) (h : GW base W g B O n b m o s) (i : Int) (h0 : 0 ≤ i) (h1 : i < n) (hm : m + 1 ≤ 17592186044416) (hbase : base ≤ W.heap.size) :
    Calls Try.prog 17 #[.pointer (some ⟨g, 0, none⟩), .int .i64 i] W fun e w' => e = .returned (.tuple #[]) ∧ GMet base W w' g B n b (meetL s i) := by
  have H := Aside0.mk h
  obtain ⟨gb, cb, e, hgb, _, cells, hcs⟩ := Kd.R_form h.num (by have := h.lens.1; omega)
  injection e with e1 e2 e3
  subst e1
  subst e3
  have hn := h.lens.1
  obtain ⟨hcell, hfz⟩ := Kd.R_celln (0 : Int) h.num i h0 h1
  have c0 : W.cell? ⟨g, 0, none⟩ = some (.slice (some ⟨gb, 0, none⟩) n b) := (blk_cell h.blk 0).trans rfl
  have c1 : W.cell? ⟨g, 1, none⟩ = some (.slice O m o) := (blk_cell h.blk 1).trans rfl
  have f1 := blk_frozen h.blk 1
  have d0 : ((0 : Int) ≤ i) = True := eq_true h0
  have d1 : (i < (n : Int)) = True := eq_true h1
  have hrd : rdOf (0 : Int) s.1 i = s.1.getD i.toNat 0 := rfl
  rw [hrd] at hcell
  have HM := Aside0.mk (show meetL s i = if s.1.getD i.toNat 0 < 0 then (s.1.set i.toNat s.2.length, s.2 ++ [i]) else s from rfl)
  generalize s.1.getD i.toNat 0 = v at hcell HM
  have HCS := Aside0.mk (And.intro hgb hcs)
  have HLM := Aside0.mk h.lens.2
  have HHM := Aside0.mk hm
  clear hgb hcs hrd h hn e2
  by_cases hv : v < 0
  · have d2 : (v < (0 : Int)) = True := eq_true hv
    have hne : some gb ≠ (Value.slice O m o).ownBlock := H.out.num.1 gb (by simp [Value.ownBlock])
    have hO1 : k1.R 3 (W.setCell ⟨gb, i.toNat, none⟩ (.int .i64 m)) base (fun _ => True) (.slice O m o) s.2 := Kd.R_mono (Kd.R_far (p := ⟨gb, i.toNat, none⟩) (Kd.R_far1 H.out.ord rfl hne) (fun k hk => hk.2) _) (fun _ _ => trivial)
    have hN1 := Kd.R_putn H.out.num i (m : Int)
    have hB1 : Below base W (W.setCell ⟨gb, i.toNat, none⟩ (.int .i64 m)) := (Below.refl _ _).setCell HCS.out.1 _
    have hG1 := blk_far (p := ⟨gb, i.toNat, none⟩) H.out.blk (blk_ne H.out.blk HCS.out.2 (by decide)) (.int .i64 m)
    have hK1 : KeepT [3, 51] W (W.setCell ⟨gb, i.toNat, none⟩ (.int .i64 m)) := (KeepT.refl _ _).set HCS.out.2 (by decide) _ _
    have H0 := Aside0.mk (And.intro hO1 (And.intro hN1 (And.intro hB1 (And.intro hG1 hK1))))
    clear hO1 hN1 hB1 hG1 hK1 hne
    go_enter Try.func17, Try.ntmps17
    go_upto_region 1 with fail
    go_still_tail 10, (by kernel_rfl)
    change wpList _ _ _ _ _ W.drew
    go_upto_region 2 with fail
    refine wp_world (fun W1 => Aside0 (k1.R 3 W1 base (fun _ => True) (.slice O m o) s.2 ∧ k1.R 3 W1 base (fun k => some k ≠ (Value.slice O m o).ownBlock) (.slice (some ⟨gb, 0, none⟩) n b) (s.1.set i.toNat m) ∧ Below base W W1 ∧ W1.heap[g]? = some (.cells #[.slice (some ⟨gb, 0, none⟩) n b, .slice O m o] 51 (0, 0)) ∧ KeepT [3, 51] W W1)) ⟨Kd.R_drew H0.out.1, Kd.R_drew H0.out.2.1, H0.out.2.2.1.drew, H0.out.2.2.2.1, H0.out.2.2.2.2.drewN 1⟩ (fun W1 H1 => ?_)
    have c1' : W1.cell? ⟨g, 1, none⟩ = some (.slice O m o) := (blk_cell H1.out.2.2.2.1 1).trans rfl
    have hsz : base ≤ W1.heap.size := Nat.le_trans hbase H1.out.2.2.1.size
    clear H0 c0 c1 f1
    go_wp2_with (at_builtin; refine Kd.R_append k1 (w0 := W) base rfl (.tmp 27) (.tmp 29) 27 3 (.int .i64 0) 8 rfl Try.underlying27 info3 rfl (by decide) (by decide) (.slice O m o) s.2 i [.int .i64 i] (fun _ => True) (fun k => True ∧ some k ≠ (Value.slice O m o).ownBlock) rfl rfl rfl (fun k hk => hk) (fun _ _ => trivial) H1.out.1 H1.out.2.2.1 hsz (by rw [← HLM.out]; have := HHM.out; omega) ?_; intro v1 w3 hR3 hB3 hG3 hat3; have hb3 := blk_grown H1.out.2.2.2.1 hG3 (Kd.R_ne H1.out.1 H1.out.2.2.2.1 (by decide)); have H3 := Aside0.mk (And.intro hR3 (And.intro hB3 (And.intro hG3 (And.intro hat3 hb3)))); obtain ⟨A3, c3, rfl⟩ := Kd.R_slice hR3; have f13 := blk_frozen hb3 1; have c13 : w3.cell? ⟨g, 1, none⟩ = some (.slice O m o) := (blk_cell hb3 1).trans rfl; clear hR3 hB3 hG3 hat3 hb3)
    refine ⟨rfl, .tuple #[], (by simp [results, Try.results17, go_sem]), rfl, ⟨⟨A3, s.2.length + 1, c3, ?_⟩, H3.out.2.1.setCell H.out.le _, ?_⟩⟩
    · rw [HM.out, if_pos hv]
      obtain ⟨hR3, hB3, hG3, hat3, hb3⟩ := H3.out
      rw [show (s.2 ++ [i]).length = s.2.length + 1 by simp] at hR3 hat3
      have hnum3 := Kd.R_grown H1.out.2.1 hG3 (fun k hk => hk)
      refine ⟨blk_set hb3 1 _, H.out.le, ?_, Kd.R_set hR3 hb3 (by decide) 1 _⟩
      rw [← HLM.out]
      refine Kd.R_set (Kd.R_mono (Kd.R_tight rfl hnum3) (fun k hk => ?_)) hb3 (by decide) 1 _
      have hkb : k = gb := by simpa [Value.ownBlock] using hk
      subst hkb
      rw [HLM.out]
      rcases hat3 with hat3 | ⟨b1, hb1, hle1⟩
      · rw [hat3]
        exact H.out.num.1 k (by simp [Value.ownBlock])
      · rw [hb1]
        intro e
        cases e
        have := blk_lt HCS.out.2
        have := H1.out.2.2.1.size
        omega
    · obtain ⟨hR3, hB3, hG3, hat3, hb3⟩ := H3.out
      exact (H1.out.2.2.2.2.grown hG3 hG3.size (fun k hk => by
        obtain ⟨cs, hcs⟩ := Kd.R_typed H1.out.1 k hk
        exact ⟨cs, 3, by decide, hcs⟩)).set hb3 (by decide) _ _
  · have d2 : (v < (0 : Int)) = False := eq_false hv
    go_enter Try.func17, Try.ntmps17
    go_wp2
    refine ⟨rfl, .tuple #[], (by simp [results, Try.results17, go_sem]), rfl, ⟨⟨O, m, o, ?_⟩, Below.refl _ _, KeepT.refl _ _⟩⟩
    rw [HM.out, if_neg (by omega)]
    exact H.out
end Go.Proofs.Ytgnpmcnmcbgdcaa.Aw
