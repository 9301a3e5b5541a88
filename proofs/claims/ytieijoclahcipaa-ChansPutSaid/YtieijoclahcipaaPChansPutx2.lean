-- PRINTED BY print.sh 35421559b90ae4d0a3588c463048766b98c2df88dd9212a6774a882060cdf62d: not written by this session
import Derived.Test.YtieijoclahcipaaPChansPutx0
namespace Go.Proofs.Ytieijoclahcipaa.PChansPut
open Go.RowKit Go.Proofs.YtieijoclahcipaaW.PrintWords Go.Proofs.YtieijoclahcipaaW.PrintLast Go.Proofs.YtieijoclahcipaaW.PrintMore
attribute [local go_sem] max2_int min2_int max_two min_two max_three min_three max_four min_four   -- for this text's walks alone
set_option linter.unusedVariables false
set_option linter.unusedSimpArgs false

/-! ### spinneretref12_Copy: function 18 -/
mutual
def spinneretref12_Copy.l0 : Nat → Int → List Int → List (S27) → List (S62) → Int → Int → Int → List Int → List (S27) → Int → Int → Int → Option (List Int × (List (S27)) × (List (S62)) × Int × Int × Int)
  | 0, _, _, _, _, _, _, _, _, _, _, _, _ => none
  | k + 1, x4, x142000, x142001, x142002, x142003, x142004, x142005, x144000, x144001, x144003, x144004, x144005 => if x4 < (x142001.length : Int) then (if 0 ≤ x4 then (spinneretref12_Copy.l1 k x4 0 x142000 x142001 x142002 x142003 x142004 x142005 x144000 x144001 x144003 x144004 x144005 ((rd_T27 x142001 x4).f0) ([] : List (List Int))) else (none)) else (spinneretref12_Copy.l2 k 0 x142000 x142001 x142002 x142003 x142004 x142005 x144000 x144001 ([] : List (S62)) x144003 x144004 x144005)
def spinneretref12_Copy.l1 : Nat → Int → Int → List Int → List (S27) → List (S62) → Int → Int → Int → List Int → List (S27) → Int → Int → Int → Int → List (List Int) → Option (List Int × (List (S27)) × (List (S62)) × Int × Int × Int)
  | 0, _, _, _, _, _, _, _, _, _, _, _, _, _, _, _ => none
  | k + 1, x4, x6, x142000, x142001, x142002, x142003, x142004, x142005, x144000, x144001, x144003, x144004, x144005, x149000, x149001 => if 0 ≤ x4 then (if x4 < (x142001.length : Int) then (if x6 < (((rd_T27 x142001 x4).f1).length : Int) then (if 0 ≤ x6 then (if ([] : List Int).length + (rd_L1 ((rd_T27 x142001 x4).f1) x6).length < 17592186044416 then (if x149001.length < 5864062014805 then (spinneretref12_Copy.l1 k x4 (wrap64 (x6 + 1)) x142000 x142001 x142002 x142003 x142004 x142005 x144000 x144001 x144003 x144004 x144005 x149000 (x149001 ++ [(([] : List Int) ++ (rd_L1 ((rd_T27 x142001 x4).f1) x6))])) else (none)) else (none)) else (none)) else (if x144001.length < 4398046511104 then (spinneretref12_Copy.l0 k (wrap64 (x4 + 1)) x142000 x142001 x142002 x142003 x142004 x142005 x144000 (x144001 ++ [(⟨x149000, x149001⟩ : S27)]) x144003 x144004 x144005) else (none))) else (none)) else (none)
def spinneretref12_Copy.l2 : Nat → Int → List Int → List (S27) → List (S62) → Int → Int → Int → List Int → List (S27) → List (S62) → Int → Int → Int → Option (List Int × (List (S27)) × (List (S62)) × Int × Int × Int)
  | 0, _, _, _, _, _, _, _, _, _, _, _, _, _ => none
  | k + 1, x8, x142000, x142001, x142002, x142003, x142004, x142005, x144000, x144001, x144002, x144003, x144004, x144005 => if x8 < (x142002.length : Int) then (if 0 ≤ x8 then (if ([] : List Int).length + ((rd_T62 x142002 x8).f3).length < 17592186044416 then (if x144002.length < 2932031007402 then (spinneretref12_Copy.l2 k (wrap64 (x8 + 1)) x142000 x142001 x142002 x142003 x142004 x142005 x144000 x144001 (x144002 ++ [(⟨(rd_T62 x142002 x8).f0, (rd_T62 x142002 x8).f1, (rd_T62 x142002 x8).f2, (([] : List Int) ++ ((rd_T62 x142002 x8).f3))⟩ : S62)]) x144003 x144004 x144005) else (none)) else (none)) else (none)) else (some (x144000, x144001, x144002, x144003, x144004, x144005))
end
def spinneretref12_Copy.f (k : Nat) (l0_0 : List Int) (l0_1 : List (S27)) (l0_2 : List (S62)) (a0_3 : Int) (a0_4 : Int) (a0_5 : Int) : Option (List Int × (List (S27)) × (List (S62)) × Int × Int × Int) := if ([] : List Int).length + l0_0.length < 17592186044416 then (spinneretref12_Copy.l0 k 0 l0_0 l0_1 l0_2 a0_3 a0_4 a0_5 (([] : List Int) ++ l0_0) ([] : List (S27)) a0_3 a0_4 a0_5) else (none)
theorem spinneretref12_Copy.mono_l : ∀ k, (∀ y0 y1 y2 y3 y4 y5 y6 y7 y8 y9 y10 y11, LeO (spinneretref12_Copy.l0 k y0 y1 y2 y3 y4 y5 y6 y7 y8 y9 y10 y11) (spinneretref12_Copy.l0 (k + 1) y0 y1 y2 y3 y4 y5 y6 y7 y8 y9 y10 y11)) ∧ (∀ y0 y1 y2 y3 y4 y5 y6 y7 y8 y9 y10 y11 y12 y13 y14, LeO (spinneretref12_Copy.l1 k y0 y1 y2 y3 y4 y5 y6 y7 y8 y9 y10 y11 y12 y13 y14) (spinneretref12_Copy.l1 (k + 1) y0 y1 y2 y3 y4 y5 y6 y7 y8 y9 y10 y11 y12 y13 y14)) ∧ (∀ y0 y1 y2 y3 y4 y5 y6 y7 y8 y9 y10 y11 y12, LeO (spinneretref12_Copy.l2 k y0 y1 y2 y3 y4 y5 y6 y7 y8 y9 y10 y11 y12) (spinneretref12_Copy.l2 (k + 1) y0 y1 y2 y3 y4 y5 y6 y7 y8 y9 y10 y11 y12))
  | 0 => ⟨fun _ _ _ _ _ _ _ _ _ _ _ _ r h => by simp [spinneretref12_Copy.l0] at h, fun _ _ _ _ _ _ _ _ _ _ _ _ _ _ _ r h => by simp [spinneretref12_Copy.l1] at h, fun _ _ _ _ _ _ _ _ _ _ _ _ _ r h => by simp [spinneretref12_Copy.l2] at h⟩
  | k + 1 => by
    obtain ⟨ih0, ih1, ih2⟩ := spinneretref12_Copy.mono_l k
    refine ⟨?_, ?_, ?_⟩
    · intro y0 y1 y2 y3 y4 y5 y6 y7 y8 y9 y10 y11
      unfold spinneretref12_Copy.l0
      repeat' first
      | (with_reducible exact ih0 _ _ _ _ _ _ _ _ _ _ _ _)
      | (with_reducible exact ih1 _ _ _ _ _ _ _ _ _ _ _ _ _ _ _)
      | (with_reducible exact ih2 _ _ _ _ _ _ _ _ _ _ _ _ _)
      | (with_reducible exact LeO.refl _)
      | (with_reducible exact LeO.none _)
      | (with_reducible refine LeO.ite ?_ ?_)
      | (with_reducible refine LeO.bind ?_ (fun _ => ?_))
      | exact ih0 _ _ _ _ _ _ _ _ _ _ _ _
      | exact ih1 _ _ _ _ _ _ _ _ _ _ _ _ _ _ _
      | exact ih2 _ _ _ _ _ _ _ _ _ _ _ _ _
      | exact LeO.none _
      | refine LeO.ite ?_ ?_
      | refine LeO.bind ?_ (fun _ => ?_)
    · intro y0 y1 y2 y3 y4 y5 y6 y7 y8 y9 y10 y11 y12 y13 y14
      unfold spinneretref12_Copy.l1
      repeat' first
      | (with_reducible exact ih0 _ _ _ _ _ _ _ _ _ _ _ _)
      | (with_reducible exact ih1 _ _ _ _ _ _ _ _ _ _ _ _ _ _ _)
      | (with_reducible exact ih2 _ _ _ _ _ _ _ _ _ _ _ _ _)
      | (with_reducible exact LeO.refl _)
      | (with_reducible exact LeO.none _)
      | (with_reducible refine LeO.ite ?_ ?_)
      | (with_reducible refine LeO.bind ?_ (fun _ => ?_))
      | exact ih0 _ _ _ _ _ _ _ _ _ _ _ _
      | exact ih1 _ _ _ _ _ _ _ _ _ _ _ _ _ _ _
      | exact ih2 _ _ _ _ _ _ _ _ _ _ _ _ _
      | exact LeO.none _
      | refine LeO.ite ?_ ?_
      | refine LeO.bind ?_ (fun _ => ?_)
    · intro y0 y1 y2 y3 y4 y5 y6 y7 y8 y9 y10 y11 y12
      unfold spinneretref12_Copy.l2
      repeat' first
      | (with_reducible exact ih0 _ _ _ _ _ _ _ _ _ _ _ _)
      | (with_reducible exact ih1 _ _ _ _ _ _ _ _ _ _ _ _ _ _ _)
      | (with_reducible exact ih2 _ _ _ _ _ _ _ _ _ _ _ _ _)
      | (with_reducible exact LeO.refl _)
      | (with_reducible exact LeO.none _)
      | (with_reducible refine LeO.ite ?_ ?_)
      | (with_reducible refine LeO.bind ?_ (fun _ => ?_))
      | exact ih0 _ _ _ _ _ _ _ _ _ _ _ _
      | exact ih1 _ _ _ _ _ _ _ _ _ _ _ _ _ _ _
      | exact ih2 _ _ _ _ _ _ _ _ _ _ _ _ _
      | exact LeO.none _
      | refine LeO.ite ?_ ?_
      | refine LeO.bind ?_ (fun _ => ?_)
theorem spinneretref12_Copy.mono : ∀ a0 a1 a2 a3 a4 a5 k, LeO (spinneretref12_Copy.f k a0 a1 a2 a3 a4 a5) (spinneretref12_Copy.f (k + 1) a0 a1 a2 a3 a4 a5) := by
  intro a0 a1 a2 a3 a4 a5 k
  obtain ⟨ih0, ih1, ih2⟩ := spinneretref12_Copy.mono_l k
  unfold spinneretref12_Copy.f
  repeat' first
      | (with_reducible exact ih0 _ _ _ _ _ _ _ _ _ _ _ _)
      | (with_reducible exact ih1 _ _ _ _ _ _ _ _ _ _ _ _ _ _ _)
      | (with_reducible exact ih2 _ _ _ _ _ _ _ _ _ _ _ _ _)
      | (with_reducible exact LeO.refl _)
      | (with_reducible exact LeO.none _)
      | (with_reducible refine LeO.ite ?_ ?_)
      | (with_reducible refine LeO.bind ?_ (fun _ => ?_))
      | exact ih0 _ _ _ _ _ _ _ _ _ _ _ _
      | exact ih1 _ _ _ _ _ _ _ _ _ _ _ _ _ _ _
      | exact ih2 _ _ _ _ _ _ _ _ _ _ _ _ _
      | exact LeO.none _
      | refine LeO.ite ?_ ?_
      | refine LeO.bind ?_ (fun _ => ?_)
def spinneretref12_Copy.T19 : Bool × List (List Nat × List Nat) := (true, [([], []), ([0], [0]), ([], []), ([2], [2]), ([], []), ([3, 4], [3, 4]), ([5], [5]), ([6], [6]), ([1, 7], [1, 7]), ([0, 1, 2, 3, 4, 5, 6, 7, 8], []), ([9, 8, 8, 0, 1, 2, 3, 4, 5, 6, 7, 8], [8, 9])])
def spinneretref12_Copy.B19 : List Nat := [0, 1, 0, 4, 0, 28, 60, 124, 255, 511, 1023]
theorem spinneretref12_Copy.tab19 : rtab .any (opsOf Try.f18 19) = spinneretref12_Copy.T19 := by kernel_rfl
theorem spinneretref12_Copy.bits19 : waitsOk spinneretref12_Copy.T19.2 spinneretref12_Copy.B19 = true := by kernel_rfl
set_option maxHeartbeats 8000000 in
set_option maxRecDepth 100000 in
theorem spinneretref12_Copy.calls (k : Nat) (A0_0 : Option Addr) (c0_0 : Nat) (l0_0 : List Int) (A0_1 : Option Addr) (c0_1 : Nat) (l0_1 : List (S27)) (A0_2 : Option Addr) (c0_2 : Nat) (l0_2 : List (S62)) (a0_3 : Int) (a0_4 : Int) (a0_5 : Int) (r1 : List Int) (r2 : List (S27)) (r3 : List (S62)) (r4 : Int) (r5 : Int) (r6 : Int) (w : World) (hr0_0 : Kd.C (Kd.int .i64) w A0_0 l0_0.length l0_0) (hc0_0 : l0_0.length ≤ c0_0) (hr0_1 : Kd.C k27 w A0_1 l0_1.length l0_1) (hc0_1 : l0_1.length ≤ c0_1) (hr0_2 : Kd.C k62 w A0_2 l0_2.length l0_2) (hc0_2 : l0_2.length ≤ c0_2) (h : spinneretref12_Copy.f k l0_0 l0_1 l0_2 a0_3 a0_4 a0_5 = some (r1, r2, r3, r4, r5, r6)) :
    Calls Try.prog 18 #[.agg #[.slice A0_0 l0_0.length c0_0, .slice A0_1 l0_1.length c0_1, .slice A0_2 l0_2.length c0_2, .int .i64 a0_3, .int .i64 a0_4, .int .i64 a0_5]] w fun e w' => ∃ v0_ v1_ v2_ : Value, e = .returned (.agg #[v0_, v1_, v2_, .int .i64 r4, .int .i64 r5, .int .i64 r6]) ∧ Kd.R (Kd.int .i64) 2 w' w.heap.size (fun _ => True) v0_ r1 ∧ Kd.R k27 27 w' w.heap.size (fun k_ => some k_ ≠ (v0_ : Value).ownBlock) v1_ r2 ∧ Kd.S k62 62 w' w.heap.size (fun k_ => some k_ ≠ (v0_ : Value).ownBlock) v2_ r3 ∧ Below w.heap.size w w' := by
  have hu53 := Try.underlying53
  have hu27 := Try.underlying27
  have hu62 := Try.underlying62
  have HR0_0 := Aside0.mk hr0_0
  have HC0_0 := Aside0.mk hc0_0
  clear hr0_0 hc0_0
  have HR0_1 := Aside0.mk hr0_1
  have HC0_1 := Aside0.mk hc0_1
  clear hr0_1 hc0_1
  have HR0_2 := Aside0.mk hr0_2
  have HC0_2 := Aside0.mk hc0_2
  clear hr0_2 hc0_2
  have HB := Aside0.mk (Below.refl w.heap.size w)
  have H : (if ([] : List Int).length + l0_0.length < 17592186044416 then (spinneretref12_Copy.l0 k 0 l0_0 l0_1 l0_2 a0_3 a0_4 a0_5 (([] : List Int) ++ l0_0) ([] : List (S27)) a0_3 a0_4 a0_5) else (none)) = some (r1, r2, r3, r4, r5, r6) := h
  clear h
  by_cases c2 : ([] : List Int).length + l0_0.length < 17592186044416
  · rw [if_pos c2] at H
    have LMc2 := Aside0.mk c2
    clear c2
    obtain ⟨y144, hy144⟩ : ∃ y_ : List Int, y_ = (([] : List Int) ++ l0_0) := ⟨_, rfl⟩
    replace H : (spinneretref12_Copy.l0 k 0 l0_0 l0_1 l0_2 a0_3 a0_4 a0_5 y144 ([] : List (S27)) a0_3 a0_4 a0_5) = some (r1, r2, r3, r4, r5, r6) := by first | (rw [hy144]; with_reducible exact H) | (have H2_ := (Option.bind_some _ _).symm.trans H; rw [hy144]; with_reducible exact H2_) | (have H2_ := (Option.bind_some _ _).symm.trans H; with_reducible exact H2_) | with_reducible exact H | (rw [hy144]; exact H) | exact H
    have Ny144 := Aside0.mk hy144
    clear hy144
    have H' := Aside0.mk H
    clear H
    go_enter Try.func18, Try.ntmps18
    go_wp2_with (first | ((with_reducible refine gate_dst (N := 1) rfl ?_); refine box_event ?hg (N := 1) ?hd (cs := #[.slice A0_0 l0_0.length c0_0, .slice A0_1 l0_1.length c0_1, .slice A0_2 l0_2.length c0_2, .int .i64 a0_3, .int .i64 a0_4, .int .i64 a0_5]) (t := 53) ?hr ?_; (case hd => rfl); (case hg => rfl); (case hr => first | (go_simp; done) | (go_simp; rfl)); intro gb141 hg w3 hbox hb; have n0_ := Aside0.mk (below_step (by repeat (first | (with_reducible first | exact HB.out | apply below_alloc | apply pw_below_drewN | apply below_drew1) | exact HB.out)) hb); have n1_ := Aside0.mk (hbox); have n2_ := Aside0.mk ((by rw [hg]; exact (below_size (by repeat (first | (with_reducible first | exact HB.out | apply below_alloc | apply pw_below_drewN | apply below_drew1) | exact HB.out))) : w.heap.size ≤ gb141)); have n3_ := Aside0.mk ((by rw [hg]; exact (below_size (by repeat (first | (with_reducible first | exact HB.out | apply below_alloc | apply pw_below_drewN | apply below_drew1) | exact HB.out))) : w.heap.size ≤ gb141)); clear HB; have HB := n0_; have BK141 := n1_; have GW141 := n2_; have GE141 := n3_; clear n0_ n1_ n2_ n3_; clear hb hbox hg) | ((with_reducible refine gate_dst (N := 2) rfl ?_); refine box_event ?hg (N := 2) ?hd (cs := #[.slice none 0 0, .slice none 0 0, .slice none 0 0, .int .i64 0, .int .i64 0, .int .i64 0]) (t := 53) ?hr ?_; (case hd => rfl); (case hg => rfl); (case hr => first | (go_simp; done) | (go_simp; rfl)); intro gb142 hg w4 hbox hb; have n0_ := Aside0.mk (blk_below (g := gb141) (o := .cells #[.slice A0_0 l0_0.length c0_0, .slice A0_1 l0_1.length c0_1, .slice A0_2 l0_2.length c0_2, .int .i64 a0_3, .int .i64 a0_4, .int .i64 a0_5] 53 (0, 0)) (by (with_reducible repeat (first | refine blk_drewN ?_ _ | refine blk_drew ?_ | refine blk_alloc ?_ _)); exact BK141.out) hb); have n1_ := Aside0.mk (below_step (by repeat (first | (with_reducible first | exact HB.out | apply below_alloc | apply pw_below_drewN | apply below_drew1 | refine below_set ?_ GE141.out) | exact HB.out)) hb); have n2_ := Aside0.mk (hbox); have n3_ := Aside0.mk ((by rw [hg]; exact (below_size (by repeat (first | (with_reducible first | exact HB.out | apply below_alloc | apply pw_below_drewN | apply below_drew1 | refine below_set ?_ GE141.out) | exact HB.out))) : w.heap.size ≤ gb142)); have n4_ := Aside0.mk ((by rw [hg]; exact (below_size (by repeat (first | (with_reducible first | exact HB.out | apply below_alloc | apply pw_below_drewN | apply below_drew1 | refine below_set ?_ GE141.out) | exact HB.out))) : w.heap.size ≤ gb142)); have n5_ := Aside0.mk ((by rw [hg]; exact Nat.ne_of_lt (blk_lt (g := gb141) (o := .cells #[.slice A0_0 l0_0.length c0_0, .slice A0_1 l0_1.length c0_1, .slice A0_2 l0_2.length c0_2, .int .i64 a0_3, .int .i64 a0_4, .int .i64 a0_5] 53 (0, 0)) (by (with_reducible repeat (first | refine blk_drewN ?_ _ | refine blk_drew ?_ | refine blk_alloc ?_ _)); exact BK141.out)) : gb141 ≠ gb142)); have n6_ := Aside0.mk ((by rw [hg]; exact Nat.ne_of_gt (blk_lt (g := gb141) (o := .cells #[.slice A0_0 l0_0.length c0_0, .slice A0_1 l0_1.length c0_1, .slice A0_2 l0_2.length c0_2, .int .i64 a0_3, .int .i64 a0_4, .int .i64 a0_5] 53 (0, 0)) (by (with_reducible repeat (first | refine blk_drewN ?_ _ | refine blk_drew ?_ | refine blk_alloc ?_ _)); exact BK141.out)) : gb142 ≠ gb141)); clear BK141; clear HB; have BK141 := n0_; have HB := n1_; have BK142 := n2_; have GW142 := n3_; have GE142 := n4_; have NB141_142 := n5_; have NB142_141 := n6_; clear n0_ n1_ n2_ n3_ n4_ n5_ n6_; clear hb hbox hg; have hnb5 := NB141_142.out; have hnc5 := NB142_141.out; have hcz6_0 : w4.cell? ⟨gb141, 0, none⟩ = some (.slice A0_0 l0_0.length c0_0) := (blk_cell BK141.out 0).trans rfl; have hcz6_1 : w4.cell? ⟨gb141, 1, none⟩ = some (.slice A0_1 l0_1.length c0_1) := (blk_cell BK141.out 1).trans rfl; have hcz6_2 : w4.cell? ⟨gb141, 2, none⟩ = some (.slice A0_2 l0_2.length c0_2) := (blk_cell BK141.out 2).trans rfl; have hcz6_3 : w4.cell? ⟨gb141, 3, none⟩ = some (.int .i64 a0_3) := (blk_cell BK141.out 3).trans rfl; have hcz6_4 : w4.cell? ⟨gb141, 4, none⟩ = some (.int .i64 a0_4) := (blk_cell BK141.out 4).trans rfl; have hcz6_5 : w4.cell? ⟨gb141, 5, none⟩ = some (.int .i64 a0_5) := (blk_cell BK141.out 5).trans rfl; have hfz6_0 := blk_frozen BK141.out 0; have hfz6_1 := blk_frozen BK141.out 1; have hfz6_2 := blk_frozen BK141.out 2; have hfz6_3 := blk_frozen BK141.out 3; have hfz6_4 := blk_frozen BK141.out 4; have hfz6_5 := blk_frozen BK141.out 5) | ((with_reducible refine gate_dst (N := 3) rfl ?_); refine box_event ?hg (N := 3) ?hd (cs := #[.slice none 0 0, .slice none 0 0, .slice none 0 0, .int .i64 0, .int .i64 0, .int .i64 0]) (t := 53) ?hr ?_; (case hd => rfl); (case hg => rfl); (case hr => first | (go_simp; done) | (go_simp; rfl)); intro gb143 hg w7 hbox hb; have n0_ := Aside0.mk (blk_below (g := gb141) (o := .cells #[.slice A0_0 l0_0.length c0_0, .slice A0_1 l0_1.length c0_1, .slice A0_2 l0_2.length c0_2, .int .i64 a0_3, .int .i64 a0_4, .int .i64 a0_5] 53 (0, 0)) (by (with_reducible repeat (first | refine blk_drewN ?_ _ | refine blk_drew ?_ | refine blk_alloc ?_ _)); exact BK141.out) hb); have n1_ := Aside0.mk (blk_below (g := gb142) (o := .cells #[.slice none 0 0, .slice none 0 0, .slice none 0 0, .int .i64 0, .int .i64 0, .int .i64 0] 53 (0, 0)) (by (with_reducible repeat (first | refine blk_drewN ?_ _ | refine blk_drew ?_ | refine blk_alloc ?_ _)); exact BK142.out) hb); have n2_ := Aside0.mk (below_step (by repeat (first | (with_reducible first | exact HB.out | apply below_alloc | apply pw_below_drewN | apply below_drew1 | refine below_set ?_ GE141.out | refine below_set ?_ GE142.out) | exact HB.out)) hb); have n3_ := Aside0.mk (hbox); have n4_ := Aside0.mk ((by rw [hg]; exact (below_size (by repeat (first | (with_reducible first | exact HB.out | apply below_alloc | apply pw_below_drewN | apply below_drew1 | refine below_set ?_ GE141.out | refine below_set ?_ GE142.out) | exact HB.out))) : w.heap.size ≤ gb143)); have n5_ := Aside0.mk ((by rw [hg]; exact (below_size (by repeat (first | (with_reducible first | exact HB.out | apply below_alloc | apply pw_below_drewN | apply below_drew1 | refine below_set ?_ GE141.out | refine below_set ?_ GE142.out) | exact HB.out))) : w.heap.size ≤ gb143)); have n6_ := Aside0.mk ((by rw [hg]; exact Nat.ne_of_lt (blk_lt (g := gb141) (o := .cells #[.slice A0_0 l0_0.length c0_0, .slice A0_1 l0_1.length c0_1, .slice A0_2 l0_2.length c0_2, .int .i64 a0_3, .int .i64 a0_4, .int .i64 a0_5] 53 (0, 0)) (by (with_reducible repeat (first | refine blk_drewN ?_ _ | refine blk_drew ?_ | refine blk_alloc ?_ _)); exact BK141.out)) : gb141 ≠ gb143)); have n7_ := Aside0.mk ((by rw [hg]; exact Nat.ne_of_gt (blk_lt (g := gb141) (o := .cells #[.slice A0_0 l0_0.length c0_0, .slice A0_1 l0_1.length c0_1, .slice A0_2 l0_2.length c0_2, .int .i64 a0_3, .int .i64 a0_4, .int .i64 a0_5] 53 (0, 0)) (by (with_reducible repeat (first | refine blk_drewN ?_ _ | refine blk_drew ?_ | refine blk_alloc ?_ _)); exact BK141.out)) : gb143 ≠ gb141)); have n8_ := Aside0.mk ((by rw [hg]; exact Nat.ne_of_lt (blk_lt (g := gb142) (o := .cells #[.slice none 0 0, .slice none 0 0, .slice none 0 0, .int .i64 0, .int .i64 0, .int .i64 0] 53 (0, 0)) (by (with_reducible repeat (first | refine blk_drewN ?_ _ | refine blk_drew ?_ | refine blk_alloc ?_ _)); exact BK142.out)) : gb142 ≠ gb143)); have n9_ := Aside0.mk ((by rw [hg]; exact Nat.ne_of_gt (blk_lt (g := gb142) (o := .cells #[.slice none 0 0, .slice none 0 0, .slice none 0 0, .int .i64 0, .int .i64 0, .int .i64 0] 53 (0, 0)) (by (with_reducible repeat (first | refine blk_drewN ?_ _ | refine blk_drew ?_ | refine blk_alloc ?_ _)); exact BK142.out)) : gb143 ≠ gb142)); clear BK141; clear BK142; clear HB; have BK141 := n0_; have BK142 := n1_; have HB := n2_; have BK143 := n3_; have GW143 := n4_; have GE143 := n5_; have NB141_143 := n6_; have NB143_141 := n7_; have NB142_143 := n8_; have NB143_142 := n9_; clear n0_ n1_ n2_ n3_ n4_ n5_ n6_ n7_ n8_ n9_; clear hb hbox hg; have hnb8 := NB143_141.out; have hnc8 := NB141_143.out; have hnb9 := NB143_142.out; have hnc9 := NB142_143.out; have hcz10_0 : w7.cell? ⟨gb143, 0, none⟩ = some (.slice none 0 0) := (blk_cell BK143.out 0).trans rfl; have hcz10_1 : w7.cell? ⟨gb143, 1, none⟩ = some (.slice none 0 0) := (blk_cell BK143.out 1).trans rfl; have hcz10_2 : w7.cell? ⟨gb143, 2, none⟩ = some (.slice none 0 0) := (blk_cell BK143.out 2).trans rfl; have hcz10_3 : w7.cell? ⟨gb143, 3, none⟩ = some (.int .i64 0) := (blk_cell BK143.out 3).trans rfl; have hcz10_4 : w7.cell? ⟨gb143, 4, none⟩ = some (.int .i64 0) := (blk_cell BK143.out 4).trans rfl; have hcz10_5 : w7.cell? ⟨gb143, 5, none⟩ = some (.int .i64 0) := (blk_cell BK143.out 5).trans rfl; have hfz10_0 := blk_frozen BK143.out 0; have hfz10_1 := blk_frozen BK143.out 1; have hfz10_2 := blk_frozen BK143.out 2; have hfz10_3 := blk_frozen BK143.out 3; have hfz10_4 := blk_frozen BK143.out 4; have hfz10_5 := blk_frozen BK143.out 5; have hcz11_0 : w7.cell? ⟨gb141, 0, none⟩ = some (.slice A0_0 l0_0.length c0_0) := (blk_cell BK141.out 0).trans rfl; have hcz11_1 : w7.cell? ⟨gb141, 1, none⟩ = some (.slice A0_1 l0_1.length c0_1) := (blk_cell BK141.out 1).trans rfl; have hcz11_2 : w7.cell? ⟨gb141, 2, none⟩ = some (.slice A0_2 l0_2.length c0_2) := (blk_cell BK141.out 2).trans rfl; have hcz11_3 : w7.cell? ⟨gb141, 3, none⟩ = some (.int .i64 a0_3) := (blk_cell BK141.out 3).trans rfl; have hcz11_4 : w7.cell? ⟨gb141, 4, none⟩ = some (.int .i64 a0_4) := (blk_cell BK141.out 4).trans rfl; have hcz11_5 : w7.cell? ⟨gb141, 5, none⟩ = some (.int .i64 a0_5) := (blk_cell BK141.out 5).trans rfl; have hfz11_0 := blk_frozen BK141.out 0; have hfz11_1 := blk_frozen BK141.out 1; have hfz11_2 := blk_frozen BK141.out 2; have hfz11_3 := blk_frozen BK141.out 3; have hfz11_4 := blk_frozen BK141.out 4; have hfz11_5 := blk_frozen BK141.out 5) | ((with_reducible refine gate_builtin (b := .append) (xs := #[.tmp 18, .tmp 20]) rfl ?_); at_builtin; refine Kd.R_append_rows (Kd.int .i64) (w0 := w) w.heap.size rfl (.tmp 18) (.tmp 20) 28 2 (.int .i64 0) 8 rfl Try.underlying28 info2 rfl (by decide) (by omega) (.slice none 0 0) ([] : List Int) l0_0 _ _ _ (fun _ => True) (fun _ => False) rfl rfl ?aO ?aR (fun _ _ h => h) (fun _ h => h.elim) ?aF ?aB ?aS ?aL ?_; (case aR => exact Kd.C_below HR0_0.out (by repeat (first | (with_reducible first | exact HB.out | apply below_alloc | apply pw_below_drewN | apply below_drew1 | refine below_set ?_ GE141.out | refine below_set ?_ GE142.out | refine below_set ?_ GE143.out) | exact HB.out))); (case aB => exact (by repeat (first | (with_reducible first | exact HB.out | apply below_alloc | apply pw_below_drewN | apply below_drew1 | refine below_set ?_ GE141.out | refine below_set ?_ GE142.out | refine below_set ?_ GE143.out) | exact HB.out))); (case aF => exact (fun _ _ => trivial)); (case aO => exact ((Kd.R_nil _ _ _ _ (fun _ => True)))); (case aS => exact (below_size (by repeat (first | (with_reducible first | exact HB.out | apply below_alloc | apply pw_below_drewN | apply below_drew1 | refine below_set ?_ GE141.out | refine below_set ?_ GE142.out | refine below_set ?_ GE143.out) | exact HB.out)))); (case aL => have := LMc2.out; omega); intro v145 w12 ho hb hg hat; rw [← Ny144.out] at ho; have n0_ := Aside0.mk (blk_grown (g := gb141) (o := .cells #[.slice A0_0 l0_0.length c0_0, .slice A0_1 l0_1.length c0_1, .slice A0_2 l0_2.length c0_2, .int .i64 a0_3, .int .i64 a0_4, .int .i64 a0_5] 53 (0, 0)) (by (with_reducible repeat (first | refine blk_drewN ?_ _ | refine blk_drew ?_ | refine blk_alloc ?_ _)); refine blk_far ?_ NB141_143.out _; (with_reducible repeat (first | refine blk_drewN ?_ _ | refine blk_drew ?_ | refine blk_alloc ?_ _)); refine blk_far ?_ NB141_143.out _; (with_reducible repeat (first | refine blk_drewN ?_ _ | refine blk_drew ?_ | refine blk_alloc ?_ _)); refine blk_far ?_ NB141_143.out _; (with_reducible repeat (first | refine blk_drewN ?_ _ | refine blk_drew ?_ | refine blk_alloc ?_ _)); refine blk_far ?_ NB141_143.out _; (with_reducible repeat (first | refine blk_drewN ?_ _ | refine blk_drew ?_ | refine blk_alloc ?_ _)); refine blk_far ?_ NB141_143.out _; (with_reducible repeat (first | refine blk_drewN ?_ _ | refine blk_drew ?_ | refine blk_alloc ?_ _)); refine blk_far ?_ NB141_143.out _; (with_reducible repeat (first | refine blk_drewN ?_ _ | refine blk_drew ?_ | refine blk_alloc ?_ _)); exact BK141.out) hg (by simp [Value.ownBlock])); have n1_ := Aside0.mk (blk_grown (g := gb142) (o := .cells #[.slice none 0 0, .slice none 0 0, .slice none 0 0, .int .i64 0, .int .i64 0, .int .i64 0] 53 (0, 0)) (by (with_reducible repeat (first | refine blk_drewN ?_ _ | refine blk_drew ?_ | refine blk_alloc ?_ _)); refine blk_far ?_ NB142_143.out _; (with_reducible repeat (first | refine blk_drewN ?_ _ | refine blk_drew ?_ | refine blk_alloc ?_ _)); refine blk_far ?_ NB142_143.out _; (with_reducible repeat (first | refine blk_drewN ?_ _ | refine blk_drew ?_ | refine blk_alloc ?_ _)); refine blk_far ?_ NB142_143.out _; (with_reducible repeat (first | refine blk_drewN ?_ _ | refine blk_drew ?_ | refine blk_alloc ?_ _)); refine blk_far ?_ NB142_143.out _; (with_reducible repeat (first | refine blk_drewN ?_ _ | refine blk_drew ?_ | refine blk_alloc ?_ _)); refine blk_far ?_ NB142_143.out _; (with_reducible repeat (first | refine blk_drewN ?_ _ | refine blk_drew ?_ | refine blk_alloc ?_ _)); refine blk_far ?_ NB142_143.out _; (with_reducible repeat (first | refine blk_drewN ?_ _ | refine blk_drew ?_ | refine blk_alloc ?_ _)); exact BK142.out) hg (by simp [Value.ownBlock])); have n2_ := Aside0.mk (blk_grown (g := gb143) (o := .cells #[.slice none 0 0, .slice none 0 0, .slice none 0 0, .int .i64 a0_3, .int .i64 a0_4, .int .i64 a0_5] 53 (0, 0)) (by (with_reducible repeat (first | refine blk_drewN ?_ _ | refine blk_drew ?_ | refine blk_alloc ?_ _)); refine blk_put (cs := #[.slice none 0 0, .slice none 0 0, .slice none 0 0, .int .i64 a0_3, .int .i64 a0_4, .int .i64 0]) ?_ 5 _ rfl; (with_reducible repeat (first | refine blk_drewN ?_ _ | refine blk_drew ?_ | refine blk_alloc ?_ _)); refine blk_put (cs := #[.slice none 0 0, .slice none 0 0, .slice none 0 0, .int .i64 a0_3, .int .i64 0, .int .i64 0]) ?_ 4 _ rfl; (with_reducible repeat (first | refine blk_drewN ?_ _ | refine blk_drew ?_ | refine blk_alloc ?_ _)); refine blk_put (cs := #[.slice none 0 0, .slice none 0 0, .slice none 0 0, .int .i64 0, .int .i64 0, .int .i64 0]) ?_ 3 _ rfl; (with_reducible repeat (first | refine blk_drewN ?_ _ | refine blk_drew ?_ | refine blk_alloc ?_ _)); refine blk_put (cs := #[.slice none 0 0, .slice none 0 0, .slice none 0 0, .int .i64 0, .int .i64 0, .int .i64 0]) ?_ 2 _ rfl; (with_reducible repeat (first | refine blk_drewN ?_ _ | refine blk_drew ?_ | refine blk_alloc ?_ _)); refine blk_put (cs := #[.slice none 0 0, .slice none 0 0, .slice none 0 0, .int .i64 0, .int .i64 0, .int .i64 0]) ?_ 1 _ rfl; (with_reducible repeat (first | refine blk_drewN ?_ _ | refine blk_drew ?_ | refine blk_alloc ?_ _)); refine blk_put (cs := #[.slice none 0 0, .slice none 0 0, .slice none 0 0, .int .i64 0, .int .i64 0, .int .i64 0]) ?_ 0 _ rfl; (with_reducible repeat (first | refine blk_drewN ?_ _ | refine blk_drew ?_ | refine blk_alloc ?_ _)); exact BK143.out) hg (by simp [Value.ownBlock])); have n3_ := Aside0.mk (hb); have n4_ := Aside0.mk (ho); clear BK141; clear BK142; clear BK143; clear HB; have BK141 := n0_; have BK142 := n1_; have BK143 := n2_; have HB := n3_; have HO146 := n4_; clear n0_ n1_ n2_ n3_ n4_; clear ho hb hg hat; obtain ⟨Ao13, co13, eo13⟩ := Kd.R_slice HO146.out; subst eo13; have hcz14_0 : w12.cell? ⟨gb143, 0, none⟩ = some (.slice none 0 0) := (blk_cell BK143.out 0).trans rfl; have hcz14_1 : w12.cell? ⟨gb143, 1, none⟩ = some (.slice none 0 0) := (blk_cell BK143.out 1).trans rfl; have hcz14_2 : w12.cell? ⟨gb143, 2, none⟩ = some (.slice none 0 0) := (blk_cell BK143.out 2).trans rfl; have hcz14_3 : w12.cell? ⟨gb143, 3, none⟩ = some (.int .i64 a0_3) := (blk_cell BK143.out 3).trans rfl; have hcz14_4 : w12.cell? ⟨gb143, 4, none⟩ = some (.int .i64 a0_4) := (blk_cell BK143.out 4).trans rfl; have hcz14_5 : w12.cell? ⟨gb143, 5, none⟩ = some (.int .i64 a0_5) := (blk_cell BK143.out 5).trans rfl; have hfz14_0 := blk_frozen BK143.out 0; have hfz14_1 := blk_frozen BK143.out 1; have hfz14_2 := blk_frozen BK143.out 2; have hfz14_3 := blk_frozen BK143.out 3; have hfz14_4 := blk_frozen BK143.out 4; have hfz14_5 := blk_frozen BK143.out 5))
    go_loopg [4] k (fun kq v4 w' => ∃ (x4_1 : Int) (x144001_1 : List (S27)) (u144001 : Value), v4 = .int .i64 x4_1 ∧ Aside0 (spinneretref12_Copy.l0 kq x4_1 l0_0 l0_1 l0_2 a0_3 a0_4 a0_5 y144 x144001_1 a0_3 a0_4 a0_5 = some (r1, r2, r3, r4, r5, r6)) ∧ Aside0 (kq ≤ k) ∧ Aside0 (Kd.R (Kd.int .i64) 2 w' w.heap.size (fun _ => True) (.slice Ao13 y144.length co13) y144) ∧ Aside0 (Kd.R k27 27 w' w.heap.size (fun k_ => some k_ ≠ ((.slice Ao13 y144.length co13) : Value).ownBlock) u144001 x144001_1) ∧ Aside0 (w'.heap[gb141]? = some (.cells #[(.slice A0_0 l0_0.length c0_0), (.slice A0_1 l0_1.length c0_1), (.slice A0_2 l0_2.length c0_2), .int .i64 a0_3, .int .i64 a0_4, .int .i64 a0_5] 53 (0, 0))) ∧ Aside0 (w'.heap[gb142]? = some (.cells #[(.slice none 0 0), (.slice none 0 0), (.slice none 0 0), .int .i64 0, .int .i64 0, .int .i64 0] 53 (0, 0))) ∧ Aside0 (w'.heap[gb143]? = some (.cells #[(.slice Ao13 y144.length co13), u144001, (.slice none 0 0), .int .i64 a0_3, .int .i64 a0_4, .int .i64 a0_5] 53 (0, 0))) ∧ Aside0 (Below w.heap.size w w'))
    case atStart => exact ⟨(0), (([] : List (S27))), (.slice none 0 0), (by first | rfl | (simp; done) | (simp [*]; done)), H', ⟨Nat.le_refl _⟩, ⟨by (with_reducible repeat (first | apply Kd.R_alloc | apply Kd.R_drewN | apply Kd.R_drew)); exact Kd.R_mono (Kd.R_far (p := ⟨gb143, 0, none⟩) (Kd.R_types HO146.out BK143.out (by decide)) (fun _ hk => hk.2) (.slice Ao13 y144.length co13)) (fun _ hk => trivial)⟩, ⟨by first | exact Kd.R_nil _ _ _ _ _ | exact Kd.N_nil _ _ _ _ _ | exact Kd.V_nil _ _ _ _ _ | exact Kd.Q_nil _ _ _ _ _ | exact Kd.S_nil _ _ _ _ _⟩, ⟨by (with_reducible repeat (first | refine blk_drewN ?_ _ | refine blk_drew ?_ | refine blk_alloc ?_ _)); refine blk_far ?_ NB141_143.out _; (with_reducible repeat (first | refine blk_drewN ?_ _ | refine blk_drew ?_ | refine blk_alloc ?_ _)); exact BK141.out⟩, ⟨by (with_reducible repeat (first | refine blk_drewN ?_ _ | refine blk_drew ?_ | refine blk_alloc ?_ _)); refine blk_far ?_ NB142_143.out _; (with_reducible repeat (first | refine blk_drewN ?_ _ | refine blk_drew ?_ | refine blk_alloc ?_ _)); exact BK142.out⟩, ⟨by (with_reducible repeat (first | refine blk_drewN ?_ _ | refine blk_drew ?_ | refine blk_alloc ?_ _)); refine blk_put (cs := #[.slice none 0 0, .slice none 0 0, .slice none 0 0, .int .i64 a0_3, .int .i64 a0_4, .int .i64 a0_5]) ?_ 0 _ rfl; (with_reducible repeat (first | refine blk_drewN ?_ _ | refine blk_drew ?_ | refine blk_alloc ?_ _)); exact BK143.out⟩, ⟨by repeat (first | (with_reducible first | exact HB.out | apply below_alloc | apply pw_below_drewN | apply below_drew1 | refine below_set ?_ GE141.out | refine below_set ?_ GE142.out | refine below_set ?_ GE143.out) | exact HB.out)⟩⟩
    case round =>
      clear H'
      try clear c1
      try clear c2
      try clear p2
      try clear c5
      try clear c8
      try clear c9
      try clear hcz10_0
      try clear hcz10_1
      try clear hcz10_2
      try clear hcz10_3
      try clear hcz10_4
      try clear hcz10_5
      try clear hcz11_0
      try clear hcz11_1
      try clear hcz11_2
      try clear hcz11_3
      try clear hcz11_4
      try clear hcz11_5
      try clear hcz14_0
      try clear hcz14_1
      try clear hcz14_2
      try clear hcz14_3
      try clear hcz14_4
      try clear hcz14_5
      try clear hcz6_0
      try clear hcz6_1
      try clear hcz6_2
      try clear hcz6_3
      try clear hcz6_4
      try clear hcz6_5
      try clear hfz10_0
      try clear hfz10_1
      try clear hfz10_2
      try clear hfz10_3
      try clear hfz10_4
      try clear hfz10_5
      try clear hfz11_0
      try clear hfz11_1
      try clear hfz11_2
      try clear hfz11_3
      try clear hfz11_4
      try clear hfz11_5
      try clear hfz14_0
      try clear hfz14_1
      try clear hfz14_2
      try clear hfz14_3
      try clear hfz14_4
      try clear hfz14_5
      try clear hfz6_0
      try clear hfz6_1
      try clear hfz6_2
      try clear hfz6_3
      try clear hfz6_4
      try clear hfz6_5
      obtain ⟨x4_1, x144001_1, u144001, rfl, HA, HK1, HO_144000, HO_144001, BK141, BK142, BK143, HB⟩ := hrel
      cases gk with
      | zero => exact absurd HA.out (by simp [spinneretref12_Copy.l0])
      | succ k1 =>
        have H := HA.out
        clear HA
        simp only [spinneretref12_Copy.l0] at H
        by_cases c15 : x4_1 < (l0_1.length : Int)
        · rw [if_pos c15] at H
          have c15b0 : decide (x4_1 < (l0_1.length : Int)) = true := decide_eq_true c15
          clear c15
          by_cases c16 : 0 ≤ x4_1
          · rw [if_pos c16] at H
            have c16b0 : decide (0 ≤ x4_1) = true := decide_eq_true c16
            clear c16
            have H' := Aside0.mk H
            clear H
            have hnb17 := NB141_142.out
            have hnc17 := NB142_141.out
            have hnb18 := NB141_143.out
            have hnc18 := NB143_141.out
            have hcz19_0 : wr.cell? ⟨gb141, 0, none⟩ = some (.slice A0_0 l0_0.length c0_0) := (blk_cell BK141.out 0).trans rfl
            have hcz19_1 : wr.cell? ⟨gb141, 1, none⟩ = some (.slice A0_1 l0_1.length c0_1) := (blk_cell BK141.out 1).trans rfl
            have hcz19_2 : wr.cell? ⟨gb141, 2, none⟩ = some (.slice A0_2 l0_2.length c0_2) := (blk_cell BK141.out 2).trans rfl
            have hcz19_3 : wr.cell? ⟨gb141, 3, none⟩ = some (.int .i64 a0_3) := (blk_cell BK141.out 3).trans rfl
            have hcz19_4 : wr.cell? ⟨gb141, 4, none⟩ = some (.int .i64 a0_4) := (blk_cell BK141.out 4).trans rfl
            have hcz19_5 : wr.cell? ⟨gb141, 5, none⟩ = some (.int .i64 a0_5) := (blk_cell BK141.out 5).trans rfl
            have hfz19_0 := blk_frozen BK141.out 0
            have hfz19_1 := blk_frozen BK141.out 1
            have hfz19_2 := blk_frozen BK141.out 2
            have hfz19_3 := blk_frozen BK141.out 3
            have hfz19_4 := blk_frozen BK141.out 4
            have hfz19_5 := blk_frozen BK141.out 5
            have p147 : 0 ≤ (x4_1 : Int) := of_decide_eq_true (by first | (with_reducible assumption) | assumption)
            have q147 : x4_1 < (l0_1.length : Int) := of_decide_eq_true (by first | (with_reducible assumption) | assumption)
            obtain ⟨ad147, A147_1, c147_1, e147, hx147_0, hx147_1, hl147_1, hi147_1⟩ := at_T27 HR0_1.out x4_1 p147 q147
            cases e147
            replace hx147_0 := (HB.out.cell (World.block_lt_of_cell? w _ hx147_0)).trans hx147_0
            replace hx147_1 := (HB.out.cell (World.block_lt_of_cell? w _ hx147_1)).trans hx147_1
            have HR147_1 := Aside0.mk hi147_1
            have HC147_1 := Aside0.mk hl147_1
            clear hi147_1 hl147_1
            replace p147 := eq_true p147
            replace q147 := eq_true q147
            go_wp2_with (first | ((with_reducible refine gate_dst (N := 5) rfl ?_); refine box_event ?hg (N := 5) ?hd (cs := #[.int .i64 0, .slice none 0 0]) (t := 27) ?hr ?_; (case hd => rfl); (case hg => rfl); (case hr => first | (go_simp; done) | (go_simp; rfl)); intro gb148 hg w20 hbox hb; have n0_ := Aside0.mk (Kd.R_below (by (with_reducible repeat (first | apply Kd.R_alloc | apply Kd.R_drewN | apply Kd.R_drew)); exact HO_144000.out) hb); have n1_ := Aside0.mk (Kd.R_below (Kd.R_elderB (by (with_reducible repeat (first | apply Kd.R_alloc | apply Kd.R_drewN | apply Kd.R_drew)); exact HO_144001.out) gb148 (Nat.le_of_eq hg.symm)) hb); have n2_ := Aside0.mk (blk_below (g := gb141) (o := .cells #[.slice A0_0 l0_0.length c0_0, .slice (some ad147) l0_1.length c0_1, .slice A0_2 l0_2.length c0_2, .int .i64 a0_3, .int .i64 a0_4, .int .i64 a0_5] 53 (0, 0)) (by (with_reducible repeat (first | refine blk_drewN ?_ _ | refine blk_drew ?_ | refine blk_alloc ?_ _)); exact BK141.out) hb); have n3_ := Aside0.mk (blk_below (g := gb142) (o := .cells #[.slice none 0 0, .slice none 0 0, .slice none 0 0, .int .i64 0, .int .i64 0, .int .i64 0] 53 (0, 0)) (by (with_reducible repeat (first | refine blk_drewN ?_ _ | refine blk_drew ?_ | refine blk_alloc ?_ _)); exact BK142.out) hb); have n4_ := Aside0.mk (blk_below (g := gb143) (o := .cells #[.slice Ao13 y144.length co13, u144001, .slice none 0 0, .int .i64 a0_3, .int .i64 a0_4, .int .i64 a0_5] 53 (0, 0)) (by (with_reducible repeat (first | refine blk_drewN ?_ _ | refine blk_drew ?_ | refine blk_alloc ?_ _)); exact BK143.out) hb); have n5_ := Aside0.mk (below_step (by repeat (first | (with_reducible first | exact HB.out | apply below_alloc | apply pw_below_drewN | apply below_drew1 | refine below_set ?_ GE141.out | refine below_set ?_ GE142.out | refine below_set ?_ GE143.out) | exact HB.out)) hb); have n6_ := Aside0.mk (hbox); have n7_ := Aside0.mk ((by rw [hg]; exact (below_size (by repeat (first | (with_reducible first | exact HB.out | apply below_alloc | apply pw_below_drewN | apply below_drew1 | refine below_set ?_ GE141.out | refine below_set ?_ GE142.out | refine below_set ?_ GE143.out) | exact HB.out))) : w.heap.size ≤ gb148)); have n8_ := Aside0.mk ((by rw [hg]; exact (below_size (by repeat (first | (with_reducible first | exact HB.out | apply below_alloc | apply pw_below_drewN | apply below_drew1 | refine below_set ?_ GE141.out | refine below_set ?_ GE142.out | refine below_set ?_ GE143.out) | exact HB.out))) : w.heap.size ≤ gb148)); have n9_ := Aside0.mk ((by rw [hg]; exact Nat.ne_of_lt (blk_lt (g := gb141) (o := .cells #[.slice A0_0 l0_0.length c0_0, .slice (some ad147) l0_1.length c0_1, .slice A0_2 l0_2.length c0_2, .int .i64 a0_3, .int .i64 a0_4, .int .i64 a0_5] 53 (0, 0)) (by (with_reducible repeat (first | refine blk_drewN ?_ _ | refine blk_drew ?_ | refine blk_alloc ?_ _)); exact BK141.out)) : gb141 ≠ gb148)); have n10_ := Aside0.mk ((by rw [hg]; exact Nat.ne_of_gt (blk_lt (g := gb141) (o := .cells #[.slice A0_0 l0_0.length c0_0, .slice (some ad147) l0_1.length c0_1, .slice A0_2 l0_2.length c0_2, .int .i64 a0_3, .int .i64 a0_4, .int .i64 a0_5] 53 (0, 0)) (by (with_reducible repeat (first | refine blk_drewN ?_ _ | refine blk_drew ?_ | refine blk_alloc ?_ _)); exact BK141.out)) : gb148 ≠ gb141)); have n11_ := Aside0.mk ((by rw [hg]; exact Nat.ne_of_lt (blk_lt (g := gb142) (o := .cells #[.slice none 0 0, .slice none 0 0, .slice none 0 0, .int .i64 0, .int .i64 0, .int .i64 0] 53 (0, 0)) (by (with_reducible repeat (first | refine blk_drewN ?_ _ | refine blk_drew ?_ | refine blk_alloc ?_ _)); exact BK142.out)) : gb142 ≠ gb148)); have n12_ := Aside0.mk ((by rw [hg]; exact Nat.ne_of_gt (blk_lt (g := gb142) (o := .cells #[.slice none 0 0, .slice none 0 0, .slice none 0 0, .int .i64 0, .int .i64 0, .int .i64 0] 53 (0, 0)) (by (with_reducible repeat (first | refine blk_drewN ?_ _ | refine blk_drew ?_ | refine blk_alloc ?_ _)); exact BK142.out)) : gb148 ≠ gb142)); have n13_ := Aside0.mk ((by rw [hg]; exact Nat.ne_of_lt (blk_lt (g := gb143) (o := .cells #[.slice Ao13 y144.length co13, u144001, .slice none 0 0, .int .i64 a0_3, .int .i64 a0_4, .int .i64 a0_5] 53 (0, 0)) (by (with_reducible repeat (first | refine blk_drewN ?_ _ | refine blk_drew ?_ | refine blk_alloc ?_ _)); exact BK143.out)) : gb143 ≠ gb148)); have n14_ := Aside0.mk ((by rw [hg]; exact Nat.ne_of_gt (blk_lt (g := gb143) (o := .cells #[.slice Ao13 y144.length co13, u144001, .slice none 0 0, .int .i64 a0_3, .int .i64 a0_4, .int .i64 a0_5] 53 (0, 0)) (by (with_reducible repeat (first | refine blk_drewN ?_ _ | refine blk_drew ?_ | refine blk_alloc ?_ _)); exact BK143.out)) : gb148 ≠ gb143)); clear HO_144000; clear HO_144001; clear BK141; clear BK142; clear BK143; clear HB; have HO_144000 := n0_; have HO_144001 := n1_; have BK141 := n2_; have BK142 := n3_; have BK143 := n4_; have HB := n5_; have BK148 := n6_; have GW148 := n7_; have GE148 := n8_; have NB141_148 := n9_; have NB148_141 := n10_; have NB142_148 := n11_; have NB148_142 := n12_; have NB143_148 := n13_; have NB148_143 := n14_; clear n0_ n1_ n2_ n3_ n4_ n5_ n6_ n7_ n8_ n9_ n10_ n11_ n12_ n13_ n14_; clear hb hbox hg; have hnb21 := NB148_141.out; have hnc21 := NB141_148.out; have hnb22 := NB148_142.out; have hnc22 := NB142_148.out; have hnb23 := NB148_143.out; have hnc23 := NB143_148.out; have hcz24_0 : w20.cell? ⟨gb148, 0, none⟩ = some (.int .i64 0) := (blk_cell BK148.out 0).trans rfl; have hcz24_1 : w20.cell? ⟨gb148, 1, none⟩ = some (.slice none 0 0) := (blk_cell BK148.out 1).trans rfl; have hfz24_0 := blk_frozen BK148.out 0; have hfz24_1 := blk_frozen BK148.out 1))
            go_loopg [6] k1 (fun kq v6 w' => ∃ (x6_2 : Int) (x149001_2 : List (List Int)) (u149001 : Value), v6 = .int .i64 x6_2 ∧ Aside0 (spinneretref12_Copy.l1 kq x4_1 x6_2 l0_0 l0_1 l0_2 a0_3 a0_4 a0_5 y144 x144001_1 a0_3 a0_4 a0_5 ((rd_T27 l0_1 x4_1).f0) x149001_2 = some (r1, r2, r3, r4, r5, r6)) ∧ Aside0 (kq ≤ k1) ∧ Aside0 (Kd.R (Kd.int .i64) 2 w' w.heap.size (fun _ => True) (.slice Ao13 y144.length co13) y144) ∧ Aside0 (Kd.R k27 27 w' w.heap.size (fun k_ => some k_ ≠ ((.slice Ao13 y144.length co13) : Value).ownBlock ∧ some k_ ≠ (u149001 : Value).ownBlock ∧ k_ ≠ gb148) u144001 x144001_1) ∧ Aside0 (Kd.S (Kd.slice 2 (Kd.int .i64)) 29 w' w.heap.size (fun k_ => some k_ ≠ ((.slice Ao13 y144.length co13) : Value).ownBlock) u149001 x149001_2) ∧ Aside0 (w'.heap[gb141]? = some (.cells #[(.slice A0_0 l0_0.length c0_0), (.slice (some ad147) l0_1.length c0_1), (.slice A0_2 l0_2.length c0_2), .int .i64 a0_3, .int .i64 a0_4, .int .i64 a0_5] 53 (0, 0))) ∧ Aside0 (w'.heap[gb142]? = some (.cells #[(.slice none 0 0), (.slice none 0 0), (.slice none 0 0), .int .i64 0, .int .i64 0, .int .i64 0] 53 (0, 0))) ∧ Aside0 (w'.heap[gb143]? = some (.cells #[(.slice Ao13 y144.length co13), u144001, (.slice none 0 0), .int .i64 a0_3, .int .i64 a0_4, .int .i64 a0_5] 53 (0, 0))) ∧ Aside0 (w'.heap[gb148]? = some (.cells #[.int .i64 ((rd_T27 l0_1 x4_1).f0), u149001] 27 (0, 0))) ∧ Aside0 (Below w.heap.size w w'))
            case atStart => exact ⟨(0), (([] : List (List Int))), (.slice none 0 0), (by first | rfl | (simp; done) | (simp [*]; done)), H', ⟨Nat.le_refl _⟩, ⟨by (with_reducible repeat (first | apply Kd.R_alloc | apply Kd.R_drewN | apply Kd.R_drew)); exact Kd.R_mono (Kd.R_far (p := ⟨gb148, 1, none⟩) (Kd.R_far (p := ⟨gb148, 0, none⟩) (Kd.R_types HO_144000.out BK148.out (by decide)) (fun _ hk => hk.2) (.int .i64 ((rd_T27 l0_1 x4_1).f0))) (fun _ hk => hk.2) (.slice none 0 0)) (fun _ hk => trivial)⟩, ⟨by (with_reducible repeat (first | apply Kd.R_alloc | apply Kd.R_drewN | apply Kd.R_drew)); exact Kd.R_mono (Kd.R_far (p := ⟨gb148, 1, none⟩) (Kd.R_far (p := ⟨gb148, 0, none⟩) (Kd.R_mono HO_144001.out (fun k_ hk => (⟨hk, hk.2⟩ : _ ∧ k_ ≠ gb148))) (fun _ hk => hk.2) (.int .i64 ((rd_T27 l0_1 x4_1).f0))) (fun _ hk => hk.2) (.slice none 0 0)) (fun _ hk => ⟨hk.1.1, ⟨(by simp [Value.ownBlock]), hk.1.2⟩⟩)⟩, ⟨by first | exact Kd.S_nil _ _ _ _ _ | exact Kd.N_nil _ _ _ _ _ | exact Kd.V_nil _ _ _ _ _ | exact Kd.Q_nil _ _ _ _ _ | exact Kd.R_nil _ _ _ _ _⟩, ⟨by (with_reducible repeat (first | refine blk_drewN ?_ _ | refine blk_drew ?_ | refine blk_alloc ?_ _)); refine blk_far ?_ NB141_148.out _; (with_reducible repeat (first | refine blk_drewN ?_ _ | refine blk_drew ?_ | refine blk_alloc ?_ _)); refine blk_far ?_ NB141_148.out _; (with_reducible repeat (first | refine blk_drewN ?_ _ | refine blk_drew ?_ | refine blk_alloc ?_ _)); exact BK141.out⟩, ⟨by (with_reducible repeat (first | refine blk_drewN ?_ _ | refine blk_drew ?_ | refine blk_alloc ?_ _)); refine blk_far ?_ NB142_148.out _; (with_reducible repeat (first | refine blk_drewN ?_ _ | refine blk_drew ?_ | refine blk_alloc ?_ _)); refine blk_far ?_ NB142_148.out _; (with_reducible repeat (first | refine blk_drewN ?_ _ | refine blk_drew ?_ | refine blk_alloc ?_ _)); exact BK142.out⟩, ⟨by (with_reducible repeat (first | refine blk_drewN ?_ _ | refine blk_drew ?_ | refine blk_alloc ?_ _)); refine blk_far ?_ NB143_148.out _; (with_reducible repeat (first | refine blk_drewN ?_ _ | refine blk_drew ?_ | refine blk_alloc ?_ _)); refine blk_far ?_ NB143_148.out _; (with_reducible repeat (first | refine blk_drewN ?_ _ | refine blk_drew ?_ | refine blk_alloc ?_ _)); exact BK143.out⟩, ⟨by (with_reducible repeat (first | refine blk_drewN ?_ _ | refine blk_drew ?_ | refine blk_alloc ?_ _)); refine blk_put (cs := #[.int .i64 ((rd_T27 l0_1 x4_1).f0), .slice none 0 0]) ?_ 1 _ rfl; (with_reducible repeat (first | refine blk_drewN ?_ _ | refine blk_drew ?_ | refine blk_alloc ?_ _)); refine blk_put (cs := #[.int .i64 0, .slice none 0 0]) ?_ 0 _ rfl; (with_reducible repeat (first | refine blk_drewN ?_ _ | refine blk_drew ?_ | refine blk_alloc ?_ _)); exact BK148.out⟩, ⟨by repeat (first | (with_reducible first | exact HB.out | apply below_alloc | apply pw_below_drewN | apply below_drew1 | refine below_set ?_ GE141.out | refine below_set ?_ GE142.out | refine below_set ?_ GE143.out | refine below_set ?_ GE148.out) | exact HB.out)⟩⟩
            case round =>
              clear H'
              try clear c1
              try clear p1
              try clear q1
              try clear hx1
              try clear c2
              try clear p2
              try clear c5
              try clear c8
              try clear c9
              try clear c14
              try clear p14
              try clear q14
              try clear hx14
              try clear c15
              try clear c15b0
              try clear c16
              try clear c16b0
              try clear c17
              try clear c18
              try clear c21
              try clear c22
              try clear c23
              try clear hcz10_0
              try clear hcz10_1
              try clear hcz10_2
              try clear hcz10_3
              try clear hcz10_4
              try clear hcz10_5
              try clear hcz11_0
              try clear hcz11_1
              try clear hcz11_2
              try clear hcz11_3
              try clear hcz11_4
              try clear hcz11_5
              try clear hcz14_0
              try clear hcz14_1
              try clear hcz14_2
              try clear hcz14_3
              try clear hcz14_4
              try clear hcz14_5
              try clear hcz19_0
              try clear hcz19_1
              try clear hcz19_2
              try clear hcz19_3
              try clear hcz19_4
              try clear hcz19_5
              try clear hcz24_0
              try clear hcz24_1
              try clear hcz6_0
              try clear hcz6_1
              try clear hcz6_2
              try clear hcz6_3
              try clear hcz6_4
              try clear hcz6_5
              try clear hfz10_0
              try clear hfz10_1
              try clear hfz10_2
              try clear hfz10_3
              try clear hfz10_4
              try clear hfz10_5
              try clear hfz11_0
              try clear hfz11_1
              try clear hfz11_2
              try clear hfz11_3
              try clear hfz11_4
              try clear hfz11_5
              try clear hfz14_0
              try clear hfz14_1
              try clear hfz14_2
              try clear hfz14_3
              try clear hfz14_4
              try clear hfz14_5
              try clear hfz19_0
              try clear hfz19_1
              try clear hfz19_2
              try clear hfz19_3
              try clear hfz19_4
              try clear hfz19_5
              try clear hfz24_0
              try clear hfz24_1
              try clear hfz6_0
              try clear hfz6_1
              try clear hfz6_2
              try clear hfz6_3
              try clear hfz6_4
              try clear hfz6_5
              try clear hx147_0
              try clear hx147_1
              try clear p147
              try clear p2
              try clear q147
              obtain ⟨x6_2, x149001_2, u149001, rfl, HA, HK2, HO_144000, HO_144001, HO_149001, BK141, BK142, BK143, BK148, HB⟩ := hrel
              cases gk with
              | zero => exact absurd HA.out (by simp [spinneretref12_Copy.l1])
              | succ k2 =>
                have H := HA.out
                clear HA
                simp only [spinneretref12_Copy.l1] at H
                by_cases c25 : 0 ≤ x4_1
                · rw [if_pos c25] at H
                  have c25b0 : decide (0 ≤ x4_1) = true := decide_eq_true c25
                  clear c25
                  by_cases c26 : x4_1 < (l0_1.length : Int)
                  · rw [if_pos c26] at H
                    have c26b0 : decide (x4_1 < (l0_1.length : Int)) = true := decide_eq_true c26
                    clear c26
                    by_cases c27 : x6_2 < (((rd_T27 l0_1 x4_1).f1).length : Int)
                    · rw [if_pos c27] at H
                      have c27b0 : decide (x6_2 < (((rd_T27 l0_1 x4_1).f1).length : Int)) = true := decide_eq_true c27
                      clear c27
                      by_cases c28 : 0 ≤ x6_2
                      · rw [if_pos c28] at H
                        have c28b0 : decide (0 ≤ x6_2) = true := decide_eq_true c28
                        clear c28
                        by_cases c29 : ([] : List Int).length + (rd_L1 ((rd_T27 l0_1 x4_1).f1) x6_2).length < 17592186044416
                        · rw [if_pos c29] at H
                          have LMc29 := Aside0.mk c29
                          clear c29
                          obtain ⟨y152, hy152⟩ : ∃ y_ : List Int, y_ = (([] : List Int) ++ (rd_L1 ((rd_T27 l0_1 x4_1).f1) x6_2)) := ⟨_, rfl⟩
                          replace H : (if x149001_2.length < 5864062014805 then (spinneretref12_Copy.l1 k2 x4_1 (wrap64 (x6_2 + 1)) l0_0 l0_1 l0_2 a0_3 a0_4 a0_5 y144 x144001_1 a0_3 a0_4 a0_5 ((rd_T27 l0_1 x4_1).f0) (x149001_2 ++ [y152])) else (none)) = some (r1, r2, r3, r4, r5, r6) := by first | (rw [hy152]; with_reducible exact H) | (have H2_ := (Option.bind_some _ _).symm.trans H; rw [hy152]; with_reducible exact H2_) | (have H2_ := (Option.bind_some _ _).symm.trans H; with_reducible exact H2_) | with_reducible exact H | (rw [hy152]; exact H) | exact H
                          have Ny152 := Aside0.mk hy152
                          clear hy152
                          by_cases c30 : x149001_2.length < 5864062014805
                          · rw [if_pos c30] at H
                            have LMc30 := Aside0.mk c30
                            clear c30
                            obtain ⟨y155, hy155⟩ : ∃ y_ : List (List Int), y_ = (x149001_2 ++ [y152]) := ⟨_, rfl⟩
                            replace H : (spinneretref12_Copy.l1 k2 x4_1 (wrap64 (x6_2 + 1)) l0_0 l0_1 l0_2 a0_3 a0_4 a0_5 y144 x144001_1 a0_3 a0_4 a0_5 ((rd_T27 l0_1 x4_1).f0) y155) = some (r1, r2, r3, r4, r5, r6) := by first | (rw [hy155]; with_reducible exact H) | (have H2_ := (Option.bind_some _ _).symm.trans H; rw [hy155]; with_reducible exact H2_) | (have H2_ := (Option.bind_some _ _).symm.trans H; with_reducible exact H2_) | with_reducible exact H | (rw [hy155]; exact H) | exact H
                            have Ny155 := Aside0.mk hy155
                            clear hy155
                            have H' := Aside0.mk H
                            clear H
                            have hnb31 := NB141_142.out
                            have hnc31 := NB142_141.out
                            have hnb32 := NB141_143.out
                            have hnc32 := NB143_141.out
                            have hnb33 := NB141_148.out
                            have hnc33 := NB148_141.out
                            have hcz34_0 : wr.cell? ⟨gb141, 0, none⟩ = some (.slice A0_0 l0_0.length c0_0) := (blk_cell BK141.out 0).trans rfl
                            have hcz34_1 : wr.cell? ⟨gb141, 1, none⟩ = some (.slice (some ad147) l0_1.length c0_1) := (blk_cell BK141.out 1).trans rfl
                            have hcz34_2 : wr.cell? ⟨gb141, 2, none⟩ = some (.slice A0_2 l0_2.length c0_2) := (blk_cell BK141.out 2).trans rfl
                            have hcz34_3 : wr.cell? ⟨gb141, 3, none⟩ = some (.int .i64 a0_3) := (blk_cell BK141.out 3).trans rfl
                            have hcz34_4 : wr.cell? ⟨gb141, 4, none⟩ = some (.int .i64 a0_4) := (blk_cell BK141.out 4).trans rfl
                            have hcz34_5 : wr.cell? ⟨gb141, 5, none⟩ = some (.int .i64 a0_5) := (blk_cell BK141.out 5).trans rfl
                            have hfz34_0 := blk_frozen BK141.out 0
                            have hfz34_1 := blk_frozen BK141.out 1
                            have hfz34_2 := blk_frozen BK141.out 2
                            have hfz34_3 := blk_frozen BK141.out 3
                            have hfz34_4 := blk_frozen BK141.out 4
                            have hfz34_5 := blk_frozen BK141.out 5
                            have p149 : 0 ≤ (x4_1 : Int) := of_decide_eq_true (by first | (with_reducible assumption) | assumption)
                            have q149 : x4_1 < (l0_1.length : Int) := of_decide_eq_true (by first | (with_reducible assumption) | assumption)
                            obtain ⟨ad149, A149_1, c149_1, e149, hx149_0, hx149_1, hl149_1, hi149_1⟩ := at_T27 HR0_1.out x4_1 p149 q149
                            obtain rfl : ad147 = ad149 := (by injection e149)
                            replace hx149_0 := (HB.out.cell (World.block_lt_of_cell? w _ hx149_0)).trans hx149_0
                            replace hx149_1 := (HB.out.cell (World.block_lt_of_cell? w _ hx149_1)).trans hx149_1
                            have HR149_1 := Aside0.mk hi149_1
                            have HC149_1 := Aside0.mk hl149_1
                            clear hi149_1 hl149_1
                            replace p149 := eq_true p149
                            replace q149 := eq_true q149
                            have p150 : 0 ≤ (x4_1 : Int) := of_decide_eq_true (by first | (with_reducible assumption) | assumption)
                            have q150 : x4_1 < (l0_1.length : Int) := of_decide_eq_true (by first | (with_reducible assumption) | assumption)
                            obtain ⟨ad150, A150_1, c150_1, e150, hx150_0, hx150_1, hl150_1, hi150_1⟩ := at_T27 HR0_1.out x4_1 p150 q150
                            obtain rfl : ad147 = ad150 := (by injection e150)
                            replace hx150_0 := (HB.out.cell (World.block_lt_of_cell? w _ hx150_0)).trans hx150_0
                            replace hx150_1 := (HB.out.cell (World.block_lt_of_cell? w _ hx150_1)).trans hx150_1
                            have HR150_1 := Aside0.mk hi150_1
                            have HC150_1 := Aside0.mk hl150_1
                            clear hi150_1 hl150_1
                            replace p150 := eq_true p150
                            replace q150 := eq_true q150
                            have ea_ := Option.some.inj (hx149_1.symm.trans hx150_1)
                            injection ea_ with ea_ en_ ec_
                            subst ea_
                            subst ec_
                            clear en_
                            have p151 : 0 ≤ (x6_2 : Int) := of_decide_eq_true (by first | (with_reducible assumption) | assumption)
                            have q151 : x6_2 < (((rd_T27 l0_1 x4_1).f1).length : Int) := of_decide_eq_true (by first | (with_reducible assumption) | assumption)
                            obtain ⟨ad151, A151_0, c151_0, e151, hx151_0, hl151_0, hi151_0⟩ := at_L1 HR150_1.out x6_2 p151 q151
                            cases e151
                            replace hx151_0 := (HB.out.cell (World.block_lt_of_cell? w _ hx151_0)).trans hx151_0
                            have HR151_0 := Aside0.mk hi151_0
                            have HC151_0 := Aside0.mk hl151_0
                            clear hi151_0 hl151_0
                            replace p151 := eq_true p151
                            replace q151 := eq_true q151
                            go_wp2_with (first | ((with_reducible refine gate_builtin (b := .append) (xs := #[.tmp 48, .tmp 57]) rfl ?_); at_builtin; refine Kd.R_append_rows (Kd.int .i64) (w0 := w) w.heap.size rfl (.tmp 48) (.tmp 57) 29 2 (.int .i64 0) 8 rfl Try.underlying29 info2 rfl (by decide) (by omega) (.slice none 0 0) ([] : List Int) (rd_L1 ((rd_T27 l0_1 x4_1).f1) x6_2) _ _ _ (fun k_ => some k_ ≠ (.slice Ao13 y144.length co13 : Value).ownBlock) (fun _ => False) rfl rfl ?aO ?aR (fun _ _ h => h) (fun _ h => h.elim) ?aF ?aB ?aS ?aL ?_; (case aR => repeat (first | exact (Kd.C_below HR151_0.out HB.out) | (with_reducible refine Kd.C_alloc ?_ _) | (with_reducible refine Kd.C_drewN ?_ _) | (with_reducible refine Kd.C_drew ?_))); (case aB => exact (by repeat (first | (with_reducible first | exact HB.out | apply below_alloc | apply pw_below_drewN | apply below_drew1 | refine below_set ?_ GE141.out | refine below_set ?_ GE142.out | refine below_set ?_ GE143.out | refine below_set ?_ GE148.out) | exact HB.out))); (case aF => exact (fun k_ hk => Kd.fresh' (Kd.R_lt (by (with_reducible repeat (first | apply Kd.R_alloc | apply Kd.R_drewN | apply Kd.R_drew)); exact HO_144000.out)) k_ hk)); (case aO => exact ((Kd.R_nil _ _ _ _ (fun k_ => some k_ ≠ (.slice Ao13 y144.length co13 : Value).ownBlock)))); (case aS => exact (below_size (by repeat (first | (with_reducible first | exact HB.out | apply below_alloc | apply pw_below_drewN | apply below_drew1 | refine below_set ?_ GE141.out | refine below_set ?_ GE142.out | refine below_set ?_ GE143.out | refine below_set ?_ GE148.out) | exact HB.out)))); (case aL => have := LMc29.out; omega); intro v153 w35 ho hb hg hat; rw [← Ny152.out] at ho; have n0_ := Aside0.mk (Kd.R_after (Kd.R_apart_nil (by (with_reducible repeat (first | apply Kd.R_alloc | apply Kd.R_drewN | apply Kd.R_drew)); exact HO_144000.out)) hg hat); have n1_ := Aside0.mk (Kd.R_after (Kd.R_apart_nil (by (with_reducible repeat (first | apply Kd.R_alloc | apply Kd.R_drewN | apply Kd.R_drew)); exact HO_144001.out)) hg hat); have n2_ := Aside0.mk (Kd.S_after (Kd.S_apart_nil (by (with_reducible repeat (first | apply Kd.S_alloc | apply Kd.S_drewN | apply Kd.S_drew)); exact HO_149001.out)) hg hat); have n3_ := Aside0.mk (blk_grown (g := gb141) (o := .cells #[.slice A0_0 l0_0.length c0_0, .slice (some ad147) l0_1.length c0_1, .slice A0_2 l0_2.length c0_2, .int .i64 a0_3, .int .i64 a0_4, .int .i64 a0_5] 53 (0, 0)) (by (with_reducible repeat (first | refine blk_drewN ?_ _ | refine blk_drew ?_ | refine blk_alloc ?_ _)); exact BK141.out) hg (by simp [Value.ownBlock])); have n4_ := Aside0.mk (blk_grown (g := gb142) (o := .cells #[.slice none 0 0, .slice none 0 0, .slice none 0 0, .int .i64 0, .int .i64 0, .int .i64 0] 53 (0, 0)) (by (with_reducible repeat (first | refine blk_drewN ?_ _ | refine blk_drew ?_ | refine blk_alloc ?_ _)); exact BK142.out) hg (by simp [Value.ownBlock])); have n5_ := Aside0.mk (blk_grown (g := gb143) (o := .cells #[.slice Ao13 y144.length co13, u144001, .slice none 0 0, .int .i64 a0_3, .int .i64 a0_4, .int .i64 a0_5] 53 (0, 0)) (by (with_reducible repeat (first | refine blk_drewN ?_ _ | refine blk_drew ?_ | refine blk_alloc ?_ _)); exact BK143.out) hg (by simp [Value.ownBlock])); have n6_ := Aside0.mk (blk_grown (g := gb148) (o := .cells #[.int .i64 ((rd_T27 l0_1 x4_1).f0), u149001] 27 (0, 0)) (by (with_reducible repeat (first | refine blk_drewN ?_ _ | refine blk_drew ?_ | refine blk_alloc ?_ _)); exact BK148.out) hg (by simp [Value.ownBlock])); have n7_ := Aside0.mk (hb); have n8_ := Aside0.mk (ho); clear HO_144000; clear HO_144001; clear HO_149001; clear BK141; clear BK142; clear BK143; clear BK148; clear HB; have HO_144000 := n0_; have HO_144001 := n1_; have HO_149001 := n2_; have BK141 := n3_; have BK142 := n4_; have BK143 := n5_; have BK148 := n6_; have HB := n7_; have HO154 := n8_; clear n0_ n1_ n2_ n3_ n4_ n5_ n6_ n7_ n8_; clear ho hb hg hat; have hnb36 := NB148_142.out; have hnc36 := NB142_148.out; have hnb37 := NB148_143.out; have hnc37 := NB143_148.out; have hcz38_0 : w35.cell? ⟨gb148, 0, none⟩ = some (.int .i64 ((rd_T27 l0_1 x4_1).f0)) := (blk_cell BK148.out 0).trans rfl; have hcz38_1 : w35.cell? ⟨gb148, 1, none⟩ = some (u149001) := (blk_cell BK148.out 1).trans rfl; have hfz38_0 := blk_frozen BK148.out 0; have hfz38_1 := blk_frozen BK148.out 1; obtain ⟨Ao40, co40, eo40⟩ := Kd.R_slice HO154.out; subst eo40) | ((with_reducible refine gate_builtin (b := .append) (xs := #[.tmp 60, .tmp 62]) rfl ?_); at_builtin; refine Kd.S_append (Kd.slice 2 (Kd.int .i64)) (w0 := w) w.heap.size rfl (.tmp 60) (.tmp 62) 25 29 (.slice none 0 0) 24 rfl Try.underlying25 info29 rfl (by decide) (by omega) u149001 x149001_2 y152 [.slice Ao40 y152.length co40] (fun k_ => some k_ ≠ (.slice Ao13 y144.length co13 : Value).ownBlock) (fun k_ => some k_ = (.slice Ao40 y152.length co40 : Value).ownBlock) rfl rfl ?aP (fun k_ hk_ => ((Kd.R_mono (ok' := fun k_ => ((fun k_ => some k_ ≠ (.slice Ao13 y144.length co13 : Value).ownBlock)) k_ ∧ some k_ ≠ (u149001 : Value).ownBlock) (Kd.R_apart' (HO154.out) (Kd.S_typed HO_149001.out) (by decide)) (fun k_ hk => ⟨hk.1, hk.2⟩))).1 k_ hk_.symm) ?aF ?aO ?aB ?aS ?aL ?_; (case aP => exact Kd.M_row (Kd.R_mono (Kd.R_tight rfl (Kd.R_mono (ok' := fun k_ => ((fun k_ => some k_ ≠ (.slice Ao13 y144.length co13 : Value).ownBlock)) k_ ∧ some k_ ≠ (u149001 : Value).ownBlock) (Kd.R_apart' (HO154.out) (Kd.S_typed HO_149001.out) (by decide)) (fun k_ hk => ⟨hk.1, hk.2⟩))) (fun _ h_ => h_))); (case aB => exact (by repeat (first | (with_reducible first | exact HB.out | apply below_alloc | apply pw_below_drewN | apply below_drew1 | refine below_set ?_ GE141.out | refine below_set ?_ GE142.out | refine below_set ?_ GE143.out | refine below_set ?_ GE148.out) | exact HB.out))); (case aF => exact (fun k_ hk => Kd.fresh' (Kd.R_lt (by (with_reducible repeat (first | apply Kd.R_alloc | apply Kd.R_drewN | apply Kd.R_drew)); exact HO_144000.out)) k_ hk)); (case aO => exact (by (with_reducible repeat (first | apply Kd.S_alloc | apply Kd.S_drewN | apply Kd.S_drew)); exact Kd.S_mono HO_149001.out (fun k_ hk => ⟨hk.1, fun e_ => hk.2 e_⟩))); (case aS => exact (below_size (by repeat (first | (with_reducible first | exact HB.out | apply below_alloc | apply pw_below_drewN | apply below_drew1 | refine below_set ?_ GE141.out | refine below_set ?_ GE142.out | refine below_set ?_ GE143.out | refine below_set ?_ GE148.out) | exact HB.out)))); (case aL => have := LMc30.out; omega); intro v156 w39 ho hb hg hat; rw [← Ny155.out] at ho; have n0_ := Aside0.mk (Kd.R_over' (by (with_reducible repeat (first | apply Kd.R_alloc | apply Kd.R_drewN | apply Kd.R_drew)); exact HO_144000.out) (Kd.S_typed (by (with_reducible repeat (first | apply Kd.S_alloc | apply Kd.S_drewN | apply Kd.S_drew)); exact HO_149001.out)) (by decide) hg); have n1_ := Aside0.mk (Kd.R_after (ok := (fun k_ => some k_ ≠ (.slice Ao13 y144.length co13 : Value).ownBlock ∧ some k_ ≠ (.slice Ao40 y152.length co40 : Value).ownBlock ∧ k_ ≠ gb148)) (by (with_reducible repeat (first | apply Kd.R_alloc | apply Kd.R_drewN | apply Kd.R_drew)); exact Kd.R_mono HO_144001.out (fun _ hk => ⟨⟨hk.1.1, ⟨hk.2, hk.1.2.2⟩⟩, hk.1.2.1⟩)) hg hat); have n2_ := Aside0.mk (blk_grown (g := gb141) (o := .cells #[.slice A0_0 l0_0.length c0_0, .slice (some ad147) l0_1.length c0_1, .slice A0_2 l0_2.length c0_2, .int .i64 a0_3, .int .i64 a0_4, .int .i64 a0_5] 53 (0, 0)) (by (with_reducible repeat (first | refine blk_drewN ?_ _ | refine blk_drew ?_ | refine blk_alloc ?_ _)); exact BK141.out) hg (Kd.S_ne HO_149001.out BK141.out (by decide))); have n3_ := Aside0.mk (blk_grown (g := gb142) (o := .cells #[.slice none 0 0, .slice none 0 0, .slice none 0 0, .int .i64 0, .int .i64 0, .int .i64 0] 53 (0, 0)) (by (with_reducible repeat (first | refine blk_drewN ?_ _ | refine blk_drew ?_ | refine blk_alloc ?_ _)); exact BK142.out) hg (Kd.S_ne HO_149001.out BK142.out (by decide))); have n4_ := Aside0.mk (blk_grown (g := gb143) (o := .cells #[.slice Ao13 y144.length co13, u144001, .slice none 0 0, .int .i64 a0_3, .int .i64 a0_4, .int .i64 a0_5] 53 (0, 0)) (by (with_reducible repeat (first | refine blk_drewN ?_ _ | refine blk_drew ?_ | refine blk_alloc ?_ _)); exact BK143.out) hg (Kd.S_ne HO_149001.out BK143.out (by decide))); have n5_ := Aside0.mk (blk_grown (g := gb148) (o := .cells #[.int .i64 ((rd_T27 l0_1 x4_1).f0), u149001] 27 (0, 0)) (by (with_reducible repeat (first | refine blk_drewN ?_ _ | refine blk_drew ?_ | refine blk_alloc ?_ _)); exact BK148.out) hg (Kd.S_ne HO_149001.out BK148.out (by decide))); have n6_ := Aside0.mk (hb); have n7_ := Aside0.mk (ho); clear HO_144000; clear HO_144001; clear BK141; clear BK142; clear BK143; clear BK148; clear HB; clear HO_149001; clear HO154; have HO_144000 := n0_; have HO_144001 := n1_; have BK141 := n2_; have BK142 := n3_; have BK143 := n4_; have BK148 := n5_; have HB := n6_; have HO157 := n7_; clear n0_ n1_ n2_ n3_ n4_ n5_ n6_ n7_; clear ho hb hg hat; obtain ⟨Ao41, co41, eo41⟩ := Kd.S_slice HO157.out; subst eo41; have hcz42_0 : w39.cell? ⟨gb148, 0, none⟩ = some (.int .i64 ((rd_T27 l0_1 x4_1).f0)) := (blk_cell BK148.out 0).trans rfl; have hcz42_1 : w39.cell? ⟨gb148, 1, none⟩ = some (u149001) := (blk_cell BK148.out 1).trans rfl; have hfz42_0 := blk_frozen BK148.out 0; have hfz42_1 := blk_frozen BK148.out 1))
                            go_roundg k2
                            case measure => have := HK1.out; have := HK2.out; omega
                            case rel => exact ⟨(wrap64 (x6_2 + 1)), (y155), (.slice Ao41 y155.length co41), (by first | rfl | (simp; done) | (simp [*]; done)), H', ⟨by have := HK1.out; have := HK2.out; omega⟩, ⟨by (with_reducible repeat (first | apply Kd.R_alloc | apply Kd.R_drewN | apply Kd.R_drew)); exact Kd.R_mono (Kd.R_far (p := ⟨gb148, 1, none⟩) (Kd.R_types HO_144000.out BK148.out (by decide)) (fun _ hk => hk.2) (.slice Ao41 y155.length co41)) (fun _ hk => trivial)⟩, ⟨by (with_reducible repeat (first | apply Kd.R_alloc | apply Kd.R_drewN | apply Kd.R_drew)); exact Kd.R_mono (Kd.R_far (p := ⟨gb148, 1, none⟩) (Kd.R_mono HO_144001.out (fun k_ hk => (⟨hk, hk.1.2.2⟩ : _ ∧ k_ ≠ gb148))) (fun _ hk => hk.2) (.slice Ao41 y155.length co41)) (fun _ hk => ⟨hk.1.1.1, ⟨hk.1.2, hk.1.1.2.2⟩⟩)⟩, ⟨by (with_reducible repeat (first | apply Kd.S_alloc | apply Kd.S_drewN | apply Kd.S_drew)); exact Kd.S_mono (Kd.S_far (p := ⟨gb148, 1, none⟩) (Kd.S_types HO157.out BK148.out (by decide)) (fun _ hk => hk.2) (.slice Ao41 y155.length co41)) (fun _ hk => hk.1)⟩, ⟨by (with_reducible repeat (first | refine blk_drewN ?_ _ | refine blk_drew ?_ | refine blk_alloc ?_ _)); refine blk_far ?_ NB141_148.out _; (with_reducible repeat (first | refine blk_drewN ?_ _ | refine blk_drew ?_ | refine blk_alloc ?_ _)); exact BK141.out⟩, ⟨by (with_reducible repeat (first | refine blk_drewN ?_ _ | refine blk_drew ?_ | refine blk_alloc ?_ _)); refine blk_far ?_ NB142_148.out _; (with_reducible repeat (first | refine blk_drewN ?_ _ | refine blk_drew ?_ | refine blk_alloc ?_ _)); exact BK142.out⟩, ⟨by (with_reducible repeat (first | refine blk_drewN ?_ _ | refine blk_drew ?_ | refine blk_alloc ?_ _)); refine blk_far ?_ NB143_148.out _; (with_reducible repeat (first | refine blk_drewN ?_ _ | refine blk_drew ?_ | refine blk_alloc ?_ _)); exact BK143.out⟩, ⟨by (with_reducible repeat (first | refine blk_drewN ?_ _ | refine blk_drew ?_ | refine blk_alloc ?_ _)); refine blk_put (cs := #[.int .i64 ((rd_T27 l0_1 x4_1).f0), u149001]) ?_ 1 _ rfl; (with_reducible repeat (first | refine blk_drewN ?_ _ | refine blk_drew ?_ | refine blk_alloc ?_ _)); exact BK148.out⟩, ⟨by repeat (first | (with_reducible first | exact HB.out | apply below_alloc | apply pw_below_drewN | apply below_drew1 | refine below_set ?_ GE141.out | refine below_set ?_ GE142.out | refine below_set ?_ GE143.out | refine below_set ?_ GE148.out) | exact HB.out)⟩⟩
                          · rw [if_neg c30] at H
                            exact absurd H (by simp)
                        · rw [if_neg c29] at H
                          exact absurd H (by simp)
                      · rw [if_neg c28] at H
                        exact absurd H (by simp)
                    · rw [if_neg c27] at H
                      have c27b0 : decide (x6_2 < (((rd_T27 l0_1 x4_1).f1).length : Int)) = false := decide_eq_false c27
                      clear c27
                      by_cases c43 : x144001_1.length < 4398046511104
                      · rw [if_pos c43] at H
                        have LMc43 := Aside0.mk c43
                        clear c43
                        obtain ⟨y158, hy158⟩ : ∃ y_ : List (S27), y_ = (x144001_1 ++ [(⟨((rd_T27 l0_1 x4_1).f0), x149001_2⟩ : S27)]) := ⟨_, rfl⟩
                        replace H : (spinneretref12_Copy.l0 k2 (wrap64 (x4_1 + 1)) l0_0 l0_1 l0_2 a0_3 a0_4 a0_5 y144 y158 a0_3 a0_4 a0_5) = some (r1, r2, r3, r4, r5, r6) := by first | (rw [hy158]; with_reducible exact H) | (have H2_ := (Option.bind_some _ _).symm.trans H; rw [hy158]; with_reducible exact H2_) | (have H2_ := (Option.bind_some _ _).symm.trans H; with_reducible exact H2_) | with_reducible exact H | (rw [hy158]; exact H) | exact H
                        have Ny158 := Aside0.mk hy158
                        clear hy158
                        have H' := Aside0.mk H
                        clear H
                        have hnb44 := NB141_142.out
                        have hnc44 := NB142_141.out
                        have hnb45 := NB141_143.out
                        have hnc45 := NB143_141.out
                        have hnb46 := NB141_148.out
                        have hnc46 := NB148_141.out
                        have hcz47_0 : wr.cell? ⟨gb141, 0, none⟩ = some (.slice A0_0 l0_0.length c0_0) := (blk_cell BK141.out 0).trans rfl
                        have hcz47_1 : wr.cell? ⟨gb141, 1, none⟩ = some (.slice (some ad147) l0_1.length c0_1) := (blk_cell BK141.out 1).trans rfl
                        have hcz47_2 : wr.cell? ⟨gb141, 2, none⟩ = some (.slice A0_2 l0_2.length c0_2) := (blk_cell BK141.out 2).trans rfl
                        have hcz47_3 : wr.cell? ⟨gb141, 3, none⟩ = some (.int .i64 a0_3) := (blk_cell BK141.out 3).trans rfl
                        have hcz47_4 : wr.cell? ⟨gb141, 4, none⟩ = some (.int .i64 a0_4) := (blk_cell BK141.out 4).trans rfl
                        have hcz47_5 : wr.cell? ⟨gb141, 5, none⟩ = some (.int .i64 a0_5) := (blk_cell BK141.out 5).trans rfl
                        have hfz47_0 := blk_frozen BK141.out 0
                        have hfz47_1 := blk_frozen BK141.out 1
                        have hfz47_2 := blk_frozen BK141.out 2
                        have hfz47_3 := blk_frozen BK141.out 3
                        have hfz47_4 := blk_frozen BK141.out 4
                        have hfz47_5 := blk_frozen BK141.out 5
                        have p149 : 0 ≤ (x4_1 : Int) := of_decide_eq_true (by first | (with_reducible assumption) | assumption)
                        have q149 : x4_1 < (l0_1.length : Int) := of_decide_eq_true (by first | (with_reducible assumption) | assumption)
                        obtain ⟨ad149, A149_1, c149_1, e149, hx149_0, hx149_1, hl149_1, hi149_1⟩ := at_T27 HR0_1.out x4_1 p149 q149
                        obtain rfl : ad147 = ad149 := (by injection e149)
                        replace hx149_0 := (HB.out.cell (World.block_lt_of_cell? w _ hx149_0)).trans hx149_0
                        replace hx149_1 := (HB.out.cell (World.block_lt_of_cell? w _ hx149_1)).trans hx149_1
                        have HR149_1 := Aside0.mk hi149_1
                        have HC149_1 := Aside0.mk hl149_1
                        clear hi149_1 hl149_1
                        replace p149 := eq_true p149
                        replace q149 := eq_true q149
                        have hnb48 := NB143_142.out
                        have hnc48 := NB142_143.out
                        have hnb49 := NB143_148.out
                        have hnc49 := NB148_143.out
                        have hcz50_0 : wr.cell? ⟨gb143, 0, none⟩ = some (.slice Ao13 y144.length co13) := (blk_cell BK143.out 0).trans rfl
                        have hcz50_1 : wr.cell? ⟨gb143, 1, none⟩ = some (u144001) := (blk_cell BK143.out 1).trans rfl
                        have hcz50_2 : wr.cell? ⟨gb143, 2, none⟩ = some (.slice none 0 0) := (blk_cell BK143.out 2).trans rfl
                        have hcz50_3 : wr.cell? ⟨gb143, 3, none⟩ = some (.int .i64 a0_3) := (blk_cell BK143.out 3).trans rfl
                        have hcz50_4 : wr.cell? ⟨gb143, 4, none⟩ = some (.int .i64 a0_4) := (blk_cell BK143.out 4).trans rfl
                        have hcz50_5 : wr.cell? ⟨gb143, 5, none⟩ = some (.int .i64 a0_5) := (blk_cell BK143.out 5).trans rfl
                        have hfz50_0 := blk_frozen BK143.out 0
                        have hfz50_1 := blk_frozen BK143.out 1
                        have hfz50_2 := blk_frozen BK143.out 2
                        have hfz50_3 := blk_frozen BK143.out 3
                        have hfz50_4 := blk_frozen BK143.out 4
                        have hfz50_5 := blk_frozen BK143.out 5
                        have hnb51 := NB148_142.out
                        have hnc51 := NB142_148.out
                        have hcz52_0 : wr.cell? ⟨gb148, 0, none⟩ = some (.int .i64 ((rd_T27 l0_1 x4_1).f0)) := (blk_cell BK148.out 0).trans rfl
                        have hcz52_1 : wr.cell? ⟨gb148, 1, none⟩ = some (u149001) := (blk_cell BK148.out 1).trans rfl
                        have hfz52_0 := blk_frozen BK148.out 0
                        have hfz52_1 := blk_frozen BK148.out 1
                        obtain ⟨Ao54, co54, eo54⟩ := Kd.S_slice HO_149001.out
                        subst eo54
                        go_wp2_with (first | ((with_reducible refine gate_builtin (b := .append) (xs := #[.tmp 66, .tmp 68]) rfl ?_); at_builtin; refine Kd.R_append k27 (w0 := w) w.heap.size rfl (.tmp 66) (.tmp 68) 50 27 (.agg #[(.int .i64 0), (.slice none 0 0)]) 32 rfl Try.underlying50 info27 rfl (by decide) (by omega) u144001 x144001_1 (⟨((rd_T27 l0_1 x4_1).f0), x149001_2⟩ : S27) [.int .i64 ((rd_T27 l0_1 x4_1).f0), .slice Ao54 x149001_2.length co54] (fun k_ => some k_ ≠ (.slice Ao13 y144.length co13 : Value).ownBlock ∧ k_ ≠ gb148) (fun k_ => ((fun k_ => some k_ ≠ (.slice Ao13 y144.length co13 : Value).ownBlock ∧ k_ ≠ gb148)) k_ ∧ some k_ ≠ (u144001 : Value).ownBlock) rfl rfl ?aP (fun _ hk => hk) ?aF ?aO ?aB ?aS ?aL ?_; (case aP => exact k27_mkM _ _ _ (⟨((rd_T27 l0_1 x4_1).f0), x149001_2⟩ : S27) (Kd.R_mono (Kd.R_types (Kd.R_apart' ((Kd.S_R HO_149001.out)) (Kd.R_typed HO_144001.out) (by decide)) BK148.out (by decide)) (fun k_ hk => ⟨⟨hk.1.1, hk.2⟩, hk.1.2⟩))); (case aB => exact (by repeat (first | (with_reducible first | exact HB.out | apply below_alloc | apply pw_below_drewN | apply below_drew1 | refine below_set ?_ GE141.out | refine below_set ?_ GE142.out | refine below_set ?_ GE143.out | refine below_set ?_ GE148.out) | exact HB.out))); (case aF => exact (fun k_ hk => ⟨Kd.fresh' (Kd.R_lt (by (with_reducible repeat (first | apply Kd.R_alloc | apply Kd.R_drewN | apply Kd.R_drew)); exact HO_144000.out)) k_ hk, Kd.freshB (g := gb148) (o := .cells #[.int .i64 ((rd_T27 l0_1 x4_1).f0), .slice Ao54 x149001_2.length co54] 27 (0, 0)) (by (with_reducible repeat (first | refine blk_drewN ?_ _ | refine blk_drew ?_ | refine blk_alloc ?_ _)); exact BK148.out) k_ hk⟩)); (case aO => exact (by (with_reducible repeat (first | apply Kd.R_alloc | apply Kd.R_drewN | apply Kd.R_drew)); exact Kd.R_mono HO_144001.out (fun _ hk => ⟨hk.1, hk.2.2⟩))); (case aS => exact (below_size (by repeat (first | (with_reducible first | exact HB.out | apply below_alloc | apply pw_below_drewN | apply below_drew1 | refine below_set ?_ GE141.out | refine below_set ?_ GE142.out | refine below_set ?_ GE143.out | refine below_set ?_ GE148.out) | exact HB.out)))); (case aL => have := LMc43.out; omega); intro v159 w53 ho hb hg hat; rw [← Ny158.out] at ho; have n0_ := Aside0.mk (Kd.R_over' (by (with_reducible repeat (first | apply Kd.R_alloc | apply Kd.R_drewN | apply Kd.R_drew)); exact HO_144000.out) (Kd.R_typed (by (with_reducible repeat (first | apply Kd.R_alloc | apply Kd.R_drewN | apply Kd.R_drew)); exact HO_144001.out)) (by decide) hg); have n1_ := Aside0.mk (blk_grown (g := gb141) (o := .cells #[.slice A0_0 l0_0.length c0_0, .slice (some ad147) l0_1.length c0_1, .slice A0_2 l0_2.length c0_2, .int .i64 a0_3, .int .i64 a0_4, .int .i64 a0_5] 53 (0, 0)) (by (with_reducible repeat (first | refine blk_drewN ?_ _ | refine blk_drew ?_ | refine blk_alloc ?_ _)); exact BK141.out) hg (Kd.R_ne HO_144001.out BK141.out (by decide))); have n2_ := Aside0.mk (blk_grown (g := gb142) (o := .cells #[.slice none 0 0, .slice none 0 0, .slice none 0 0, .int .i64 0, .int .i64 0, .int .i64 0] 53 (0, 0)) (by (with_reducible repeat (first | refine blk_drewN ?_ _ | refine blk_drew ?_ | refine blk_alloc ?_ _)); exact BK142.out) hg (Kd.R_ne HO_144001.out BK142.out (by decide))); have n3_ := Aside0.mk (blk_grown (g := gb143) (o := .cells #[.slice Ao13 y144.length co13, u144001, .slice none 0 0, .int .i64 a0_3, .int .i64 a0_4, .int .i64 a0_5] 53 (0, 0)) (by (with_reducible repeat (first | refine blk_drewN ?_ _ | refine blk_drew ?_ | refine blk_alloc ?_ _)); exact BK143.out) hg (Kd.R_ne HO_144001.out BK143.out (by decide))); have n4_ := Aside0.mk (blk_grown (g := gb148) (o := .cells #[.int .i64 ((rd_T27 l0_1 x4_1).f0), .slice Ao54 x149001_2.length co54] 27 (0, 0)) (by (with_reducible repeat (first | refine blk_drewN ?_ _ | refine blk_drew ?_ | refine blk_alloc ?_ _)); exact BK148.out) hg (Kd.R_away HO_144001.out (fun _ hk => hk.2.2))); have n5_ := Aside0.mk (hb); have n6_ := Aside0.mk (ho); clear HO_144000; clear BK141; clear BK142; clear BK143; clear BK148; clear HB; clear HO_144001; clear HO_149001; have HO_144000 := n0_; have BK141 := n1_; have BK142 := n2_; have BK143 := n3_; have BK148 := n4_; have HB := n5_; have HO160 := n6_; clear n0_ n1_ n2_ n3_ n4_ n5_ n6_; clear ho hb hg hat; obtain ⟨Ao55, co55, eo55⟩ := Kd.R_slice HO160.out; subst eo55; have hcz56_0 : w53.cell? ⟨gb143, 0, none⟩ = some (.slice Ao13 y144.length co13) := (blk_cell BK143.out 0).trans rfl; have hcz56_1 : w53.cell? ⟨gb143, 1, none⟩ = some (u144001) := (blk_cell BK143.out 1).trans rfl; have hcz56_2 : w53.cell? ⟨gb143, 2, none⟩ = some (.slice none 0 0) := (blk_cell BK143.out 2).trans rfl; have hcz56_3 : w53.cell? ⟨gb143, 3, none⟩ = some (.int .i64 a0_3) := (blk_cell BK143.out 3).trans rfl; have hcz56_4 : w53.cell? ⟨gb143, 4, none⟩ = some (.int .i64 a0_4) := (blk_cell BK143.out 4).trans rfl; have hcz56_5 : w53.cell? ⟨gb143, 5, none⟩ = some (.int .i64 a0_5) := (blk_cell BK143.out 5).trans rfl; have hfz56_0 := blk_frozen BK143.out 0; have hfz56_1 := blk_frozen BK143.out 1; have hfz56_2 := blk_frozen BK143.out 2; have hfz56_3 := blk_frozen BK143.out 3; have hfz56_4 := blk_frozen BK143.out 4; have hfz56_5 := blk_frozen BK143.out 5))
                        go_roundg k2
                        case measure => have := HK1.out; have := HK2.out; omega
                        case rel => exact ⟨(wrap64 (x4_1 + 1)), (y158), (.slice Ao55 y158.length co55), (by first | rfl | (simp; done) | (simp [*]; done)), H', ⟨by have := HK1.out; have := HK2.out; omega⟩, ⟨by (with_reducible repeat (first | apply Kd.R_alloc | apply Kd.R_drewN | apply Kd.R_drew)); exact Kd.R_mono (Kd.R_far (p := ⟨gb143, 1, none⟩) (Kd.R_types HO_144000.out BK143.out (by decide)) (fun _ hk => hk.2) (.slice Ao55 y158.length co55)) (fun _ hk => trivial)⟩, ⟨by (with_reducible repeat (first | apply Kd.R_alloc | apply Kd.R_drewN | apply Kd.R_drew)); exact Kd.R_mono (Kd.R_far (p := ⟨gb143, 1, none⟩) (Kd.R_types HO160.out BK143.out (by decide)) (fun _ hk => hk.2) (.slice Ao55 y158.length co55)) (fun _ hk => hk.1.1)⟩, ⟨by (with_reducible repeat (first | refine blk_drewN ?_ _ | refine blk_drew ?_ | refine blk_alloc ?_ _)); refine blk_far ?_ NB141_143.out _; (with_reducible repeat (first | refine blk_drewN ?_ _ | refine blk_drew ?_ | refine blk_alloc ?_ _)); exact BK141.out⟩, ⟨by (with_reducible repeat (first | refine blk_drewN ?_ _ | refine blk_drew ?_ | refine blk_alloc ?_ _)); refine blk_far ?_ NB142_143.out _; (with_reducible repeat (first | refine blk_drewN ?_ _ | refine blk_drew ?_ | refine blk_alloc ?_ _)); exact BK142.out⟩, ⟨by (with_reducible repeat (first | refine blk_drewN ?_ _ | refine blk_drew ?_ | refine blk_alloc ?_ _)); refine blk_put (cs := #[.slice Ao13 y144.length co13, u144001, .slice none 0 0, .int .i64 a0_3, .int .i64 a0_4, .int .i64 a0_5]) ?_ 1 _ rfl; (with_reducible repeat (first | refine blk_drewN ?_ _ | refine blk_drew ?_ | refine blk_alloc ?_ _)); exact BK143.out⟩, ⟨by repeat (first | (with_reducible first | exact HB.out | apply below_alloc | apply pw_below_drewN | apply below_drew1 | refine below_set ?_ GE141.out | refine below_set ?_ GE142.out | refine below_set ?_ GE143.out | refine below_set ?_ GE148.out) | exact HB.out)⟩⟩
                      · rw [if_neg c43] at H
                        exact absurd H (by simp)
                  · rw [if_neg c26] at H
                    exact absurd H (by simp)
                · rw [if_neg c25] at H
                  exact absurd H (by simp)
          · rw [if_neg c16] at H
            exact absurd H (by simp)
        · rw [if_neg c15] at H
          have c15b0 : decide (x4_1 < (l0_1.length : Int)) = false := decide_eq_false c15
          clear c15
          have H' := Aside0.mk H
          clear H
          have hnb57 := NB141_142.out
          have hnc57 := NB142_141.out
          have hnb58 := NB141_143.out
          have hnc58 := NB143_141.out
          have hcz59_0 : wr.cell? ⟨gb141, 0, none⟩ = some (.slice A0_0 l0_0.length c0_0) := (blk_cell BK141.out 0).trans rfl
          have hcz59_1 : wr.cell? ⟨gb141, 1, none⟩ = some (.slice A0_1 l0_1.length c0_1) := (blk_cell BK141.out 1).trans rfl
          have hcz59_2 : wr.cell? ⟨gb141, 2, none⟩ = some (.slice A0_2 l0_2.length c0_2) := (blk_cell BK141.out 2).trans rfl
          have hcz59_3 : wr.cell? ⟨gb141, 3, none⟩ = some (.int .i64 a0_3) := (blk_cell BK141.out 3).trans rfl
          have hcz59_4 : wr.cell? ⟨gb141, 4, none⟩ = some (.int .i64 a0_4) := (blk_cell BK141.out 4).trans rfl
          have hcz59_5 : wr.cell? ⟨gb141, 5, none⟩ = some (.int .i64 a0_5) := (blk_cell BK141.out 5).trans rfl
          have hfz59_0 := blk_frozen BK141.out 0
          have hfz59_1 := blk_frozen BK141.out 1
          have hfz59_2 := blk_frozen BK141.out 2
          have hfz59_3 := blk_frozen BK141.out 3
          have hfz59_4 := blk_frozen BK141.out 4
          have hfz59_5 := blk_frozen BK141.out 5
          go_wp2
          go_loopg [8] k1 (fun kq v8 w' => ∃ (x8_2 : Int) (x144002_2 : List (S62)) (u144002 : Value), v8 = .int .i64 x8_2 ∧ Aside0 (spinneretref12_Copy.l2 kq x8_2 l0_0 l0_1 l0_2 a0_3 a0_4 a0_5 y144 x144001_1 x144002_2 a0_3 a0_4 a0_5 = some (r1, r2, r3, r4, r5, r6)) ∧ Aside0 (kq ≤ k1) ∧ Aside0 (Kd.R (Kd.int .i64) 2 w' w.heap.size (fun _ => True) (.slice Ao13 y144.length co13) y144) ∧ Aside0 (Kd.R k27 27 w' w.heap.size (fun k_ => some k_ ≠ ((.slice Ao13 y144.length co13) : Value).ownBlock) u144001 x144001_1) ∧ Aside0 (Kd.S k62 62 w' w.heap.size (fun k_ => some k_ ≠ ((.slice Ao13 y144.length co13) : Value).ownBlock) u144002 x144002_2) ∧ Aside0 (w'.heap[gb141]? = some (.cells #[(.slice A0_0 l0_0.length c0_0), (.slice A0_1 l0_1.length c0_1), (.slice A0_2 l0_2.length c0_2), .int .i64 a0_3, .int .i64 a0_4, .int .i64 a0_5] 53 (0, 0))) ∧ Aside0 (w'.heap[gb142]? = some (.cells #[(.slice none 0 0), (.slice none 0 0), (.slice none 0 0), .int .i64 0, .int .i64 0, .int .i64 0] 53 (0, 0))) ∧ Aside0 (w'.heap[gb143]? = some (.cells #[(.slice Ao13 y144.length co13), u144001, u144002, .int .i64 a0_3, .int .i64 a0_4, .int .i64 a0_5] 53 (0, 0))) ∧ Aside0 (Below w.heap.size w w'))
          case atStart => exact ⟨(0), (([] : List (S62))), (.slice none 0 0), (by first | rfl | (simp; done) | (simp [*]; done)), H', ⟨Nat.le_refl _⟩, ⟨by (with_reducible repeat (first | apply Kd.R_alloc | apply Kd.R_drewN | apply Kd.R_drew)); exact HO_144000.out⟩, ⟨by (with_reducible repeat (first | apply Kd.R_alloc | apply Kd.R_drewN | apply Kd.R_drew)); exact HO_144001.out⟩, ⟨by first | exact Kd.S_nil _ _ _ _ _ | exact Kd.N_nil _ _ _ _ _ | exact Kd.V_nil _ _ _ _ _ | exact Kd.Q_nil _ _ _ _ _ | exact Kd.R_nil _ _ _ _ _⟩, ⟨by (with_reducible repeat (first | refine blk_drewN ?_ _ | refine blk_drew ?_ | refine blk_alloc ?_ _)); exact BK141.out⟩, ⟨by (with_reducible repeat (first | refine blk_drewN ?_ _ | refine blk_drew ?_ | refine blk_alloc ?_ _)); exact BK142.out⟩, ⟨by (with_reducible repeat (first | refine blk_drewN ?_ _ | refine blk_drew ?_ | refine blk_alloc ?_ _)); exact BK143.out⟩, ⟨by repeat (first | (with_reducible first | exact HB.out | apply below_alloc | apply pw_below_drewN | apply below_drew1 | refine below_set ?_ GE141.out | refine below_set ?_ GE142.out | refine below_set ?_ GE143.out) | exact HB.out)⟩⟩
          case round =>
            clear H'
            try clear c1
            try clear p1
            try clear q1
            try clear hx1
            try clear c2
            try clear p2
            try clear c3
            try clear c4
            try clear c5
            try clear p6
            try clear c8
            try clear c9
            try clear c14
            try clear p14
            try clear q14
            try clear hx14
            try clear c15
            try clear c15b0
            try clear p15
            try clear q15
            try clear hx15
            try clear c16
            try clear c16b0
            try clear c17
            try clear c18
            try clear c21
            try clear c22
            try clear c23
            try clear c25
            try clear c25b0
            try clear c26
            try clear c26b0
            try clear c27
            try clear c27b0
            try clear c28
            try clear c28b0
            try clear c29
            try clear c30
            try clear c31
            try clear c32
            try clear c33
            try clear c36
            try clear c37
            try clear c43
            try clear c44
            try clear c45
            try clear c46
            try clear c48
            try clear c49
            try clear c51
            try clear c57
            try clear c58
            try clear hcz10_0
            try clear hcz10_1
            try clear hcz10_2
            try clear hcz10_3
            try clear hcz10_4
            try clear hcz10_5
            try clear hcz11_0
            try clear hcz11_1
            try clear hcz11_2
            try clear hcz11_3
            try clear hcz11_4
            try clear hcz11_5
            try clear hcz14_0
            try clear hcz14_1
            try clear hcz14_2
            try clear hcz14_3
            try clear hcz14_4
            try clear hcz14_5
            try clear hcz19_0
            try clear hcz19_1
            try clear hcz19_2
            try clear hcz19_3
            try clear hcz19_4
            try clear hcz19_5
            try clear hcz24_0
            try clear hcz24_1
            try clear hcz34_0
            try clear hcz34_1
            try clear hcz34_2
            try clear hcz34_3
            try clear hcz34_4
            try clear hcz34_5
            try clear hcz38_0
            try clear hcz38_1
            try clear hcz42_0
            try clear hcz42_1
            try clear hcz47_0
            try clear hcz47_1
            try clear hcz47_2
            try clear hcz47_3
            try clear hcz47_4
            try clear hcz47_5
            try clear hcz50_0
            try clear hcz50_1
            try clear hcz50_2
            try clear hcz50_3
            try clear hcz50_4
            try clear hcz50_5
            try clear hcz52_0
            try clear hcz52_1
            try clear hcz56_0
            try clear hcz56_1
            try clear hcz56_2
            try clear hcz56_3
            try clear hcz56_4
            try clear hcz56_5
            try clear hcz59_0
            try clear hcz59_1
            try clear hcz59_2
            try clear hcz59_3
            try clear hcz59_4
            try clear hcz59_5
            try clear hcz6_0
            try clear hcz6_1
            try clear hcz6_2
            try clear hcz6_3
            try clear hcz6_4
            try clear hcz6_5
            try clear hfz10_0
            try clear hfz10_1
            try clear hfz10_2
            try clear hfz10_3
            try clear hfz10_4
            try clear hfz10_5
            try clear hfz11_0
            try clear hfz11_1
            try clear hfz11_2
            try clear hfz11_3
            try clear hfz11_4
            try clear hfz11_5
            try clear hfz14_0
            try clear hfz14_1
            try clear hfz14_2
            try clear hfz14_3
            try clear hfz14_4
            try clear hfz14_5
            try clear hfz19_0
            try clear hfz19_1
            try clear hfz19_2
            try clear hfz19_3
            try clear hfz19_4
            try clear hfz19_5
            try clear hfz24_0
            try clear hfz24_1
            try clear hfz34_0
            try clear hfz34_1
            try clear hfz34_2
            try clear hfz34_3
            try clear hfz34_4
            try clear hfz34_5
            try clear hfz38_0
            try clear hfz38_1
            try clear hfz42_0
            try clear hfz42_1
            try clear hfz47_0
            try clear hfz47_1
            try clear hfz47_2
            try clear hfz47_3
            try clear hfz47_4
            try clear hfz47_5
            try clear hfz50_0
            try clear hfz50_1
            try clear hfz50_2
            try clear hfz50_3
            try clear hfz50_4
            try clear hfz50_5
            try clear hfz52_0
            try clear hfz52_1
            try clear hfz56_0
            try clear hfz56_1
            try clear hfz56_2
            try clear hfz56_3
            try clear hfz56_4
            try clear hfz56_5
            try clear hfz59_0
            try clear hfz59_1
            try clear hfz59_2
            try clear hfz59_3
            try clear hfz59_4
            try clear hfz59_5
            try clear hfz6_0
            try clear hfz6_1
            try clear hfz6_2
            try clear hfz6_3
            try clear hfz6_4
            try clear hfz6_5
            try clear hx147_0
            try clear hx147_1
            try clear hx149_0
            try clear hx149_1
            try clear hx150_0
            try clear hx150_1
            try clear hx151_0
            try clear p1
            try clear p14
            try clear p147
            try clear p149
            try clear p150
            try clear p151
            try clear p2
            try clear q1
            try clear q14
            try clear q147
            try clear q149
            try clear q150
            try clear q151
            obtain ⟨x8_2, x144002_2, u144002, rfl, HA, HK2, HO_144000, HO_144001, HO_144002, BK141, BK142, BK143, HB⟩ := hrel
            cases gk with
            | zero => exact absurd HA.out (by simp [spinneretref12_Copy.l2])
            | succ k2 =>
              have H := HA.out
              clear HA
              simp only [spinneretref12_Copy.l2] at H
              by_cases c60 : x8_2 < (l0_2.length : Int)
              · rw [if_pos c60] at H
                have c60b0 : decide (x8_2 < (l0_2.length : Int)) = true := decide_eq_true c60
                clear c60
                by_cases c61 : 0 ≤ x8_2
                · rw [if_pos c61] at H
                  have c61b0 : decide (0 ≤ x8_2) = true := decide_eq_true c61
                  clear c61
                  by_cases c62 : ([] : List Int).length + ((rd_T62 l0_2 x8_2).f3).length < 17592186044416
                  · rw [if_pos c62] at H
                    have LMc62 := Aside0.mk c62
                    clear c62
                    obtain ⟨y164, hy164⟩ : ∃ y_ : List Int, y_ = (([] : List Int) ++ ((rd_T62 l0_2 x8_2).f3)) := ⟨_, rfl⟩
                    replace H : (if x144002_2.length < 2932031007402 then (spinneretref12_Copy.l2 k2 (wrap64 (x8_2 + 1)) l0_0 l0_1 l0_2 a0_3 a0_4 a0_5 y144 x144001_1 (x144002_2 ++ [(⟨(rd_T62 l0_2 x8_2).f0, (rd_T62 l0_2 x8_2).f1, (rd_T62 l0_2 x8_2).f2, y164⟩ : S62)]) a0_3 a0_4 a0_5) else (none)) = some (r1, r2, r3, r4, r5, r6) := by first | (rw [hy164]; with_reducible exact H) | (have H2_ := (Option.bind_some _ _).symm.trans H; rw [hy164]; with_reducible exact H2_) | (have H2_ := (Option.bind_some _ _).symm.trans H; with_reducible exact H2_) | with_reducible exact H | (rw [hy164]; exact H) | exact H
                    have Ny164 := Aside0.mk hy164
                    clear hy164
                    by_cases c63 : x144002_2.length < 2932031007402
                    · rw [if_pos c63] at H
                      have LMc63 := Aside0.mk c63
                      clear c63
                      obtain ⟨y167, hy167⟩ : ∃ y_ : List (S62), y_ = (x144002_2 ++ [(⟨(rd_T62 l0_2 x8_2).f0, (rd_T62 l0_2 x8_2).f1, (rd_T62 l0_2 x8_2).f2, y164⟩ : S62)]) := ⟨_, rfl⟩
                      replace H : (spinneretref12_Copy.l2 k2 (wrap64 (x8_2 + 1)) l0_0 l0_1 l0_2 a0_3 a0_4 a0_5 y144 x144001_1 y167 a0_3 a0_4 a0_5) = some (r1, r2, r3, r4, r5, r6) := by first | (rw [hy167]; with_reducible exact H) | (have H2_ := (Option.bind_some _ _).symm.trans H; rw [hy167]; with_reducible exact H2_) | (have H2_ := (Option.bind_some _ _).symm.trans H; with_reducible exact H2_) | with_reducible exact H | (rw [hy167]; exact H) | exact H
                      have Ny167 := Aside0.mk hy167
                      clear hy167
                      have H' := Aside0.mk H
                      clear H
                      have hnb64 := NB141_142.out
                      have hnc64 := NB142_141.out
                      have hnb65 := NB141_143.out
                      have hnc65 := NB143_141.out
                      have hcz66_0 : wr.cell? ⟨gb141, 0, none⟩ = some (.slice A0_0 l0_0.length c0_0) := (blk_cell BK141.out 0).trans rfl
                      have hcz66_1 : wr.cell? ⟨gb141, 1, none⟩ = some (.slice A0_1 l0_1.length c0_1) := (blk_cell BK141.out 1).trans rfl
                      have hcz66_2 : wr.cell? ⟨gb141, 2, none⟩ = some (.slice A0_2 l0_2.length c0_2) := (blk_cell BK141.out 2).trans rfl
                      have hcz66_3 : wr.cell? ⟨gb141, 3, none⟩ = some (.int .i64 a0_3) := (blk_cell BK141.out 3).trans rfl
                      have hcz66_4 : wr.cell? ⟨gb141, 4, none⟩ = some (.int .i64 a0_4) := (blk_cell BK141.out 4).trans rfl
                      have hcz66_5 : wr.cell? ⟨gb141, 5, none⟩ = some (.int .i64 a0_5) := (blk_cell BK141.out 5).trans rfl
                      have hfz66_0 := blk_frozen BK141.out 0
                      have hfz66_1 := blk_frozen BK141.out 1
                      have hfz66_2 := blk_frozen BK141.out 2
                      have hfz66_3 := blk_frozen BK141.out 3
                      have hfz66_4 := blk_frozen BK141.out 4
                      have hfz66_5 := blk_frozen BK141.out 5
                      have p161 : 0 ≤ (x8_2 : Int) := of_decide_eq_true (by first | (with_reducible assumption) | assumption)
                      have q161 : x8_2 < (l0_2.length : Int) := of_decide_eq_true (by first | (with_reducible assumption) | assumption)
                      obtain ⟨ad161, A161_3, c161_3, e161, hx161_0, hx161_1, hx161_2, hx161_3, hl161_3, hi161_3⟩ := at_T62 HR0_2.out x8_2 p161 q161
                      cases e161
                      replace hx161_0 := (HB.out.cell (World.block_lt_of_cell? w _ hx161_0)).trans hx161_0
                      replace hx161_1 := (HB.out.cell (World.block_lt_of_cell? w _ hx161_1)).trans hx161_1
                      replace hx161_2 := (HB.out.cell (World.block_lt_of_cell? w _ hx161_2)).trans hx161_2
                      replace hx161_3 := (HB.out.cell (World.block_lt_of_cell? w _ hx161_3)).trans hx161_3
                      have HR161_3 := Aside0.mk hi161_3
                      have HC161_3 := Aside0.mk hl161_3
                      clear hi161_3 hl161_3
                      replace p161 := eq_true p161
                      replace q161 := eq_true q161
                      try go_wp2_with (first | ((with_reducible refine gate_dst (N := 9) rfl ?_); refine box_event ?hg (N := 9) ?hd (cs := #[.int .i64 0, .int .i64 0, .int .i64 0, .slice none 0 0]) (t := 62) ?hr ?_; (case hd => rfl); (case hg => rfl); (case hr => first | (go_simp; done) | (go_simp; rfl)); intro gb162 hg w67 hbox hb; have n0_ := Aside0.mk (Kd.R_below (by (with_reducible repeat (first | apply Kd.R_alloc | apply Kd.R_drewN | apply Kd.R_drew)); exact HO_144000.out) hb); have n1_ := Aside0.mk (Kd.R_below (by (with_reducible repeat (first | apply Kd.R_alloc | apply Kd.R_drewN | apply Kd.R_drew)); exact HO_144001.out) hb); have n2_ := Aside0.mk (Kd.S_below (Kd.S_elderB (by (with_reducible repeat (first | apply Kd.S_alloc | apply Kd.S_drewN | apply Kd.S_drew)); exact HO_144002.out) gb162 (Nat.le_of_eq hg.symm)) hb); have n3_ := Aside0.mk (blk_below (g := gb141) (o := .cells #[.slice A0_0 l0_0.length c0_0, .slice A0_1 l0_1.length c0_1, .slice (some ad161) l0_2.length c0_2, .int .i64 a0_3, .int .i64 a0_4, .int .i64 a0_5] 53 (0, 0)) (by (with_reducible repeat (first | refine blk_drewN ?_ _ | refine blk_drew ?_ | refine blk_alloc ?_ _)); exact BK141.out) hb); have n4_ := Aside0.mk (blk_below (g := gb142) (o := .cells #[.slice none 0 0, .slice none 0 0, .slice none 0 0, .int .i64 0, .int .i64 0, .int .i64 0] 53 (0, 0)) (by (with_reducible repeat (first | refine blk_drewN ?_ _ | refine blk_drew ?_ | refine blk_alloc ?_ _)); exact BK142.out) hb); have n5_ := Aside0.mk (blk_below (g := gb143) (o := .cells #[.slice Ao13 y144.length co13, u144001, u144002, .int .i64 a0_3, .int .i64 a0_4, .int .i64 a0_5] 53 (0, 0)) (by (with_reducible repeat (first | refine blk_drewN ?_ _ | refine blk_drew ?_ | refine blk_alloc ?_ _)); exact BK143.out) hb); have n6_ := Aside0.mk (below_step (by repeat (first | (with_reducible first | exact HB.out | apply below_alloc | apply pw_below_drewN | apply below_drew1 | refine below_set ?_ GE141.out | refine below_set ?_ GE142.out | refine below_set ?_ GE143.out) | exact HB.out)) hb); have n7_ := Aside0.mk (hbox); have n8_ := Aside0.mk ((by rw [hg]; exact (below_size (by repeat (first | (with_reducible first | exact HB.out | apply below_alloc | apply pw_below_drewN | apply below_drew1 | refine below_set ?_ GE141.out | refine below_set ?_ GE142.out | refine below_set ?_ GE143.out) | exact HB.out))) : w.heap.size ≤ gb162)); have n9_ := Aside0.mk ((by rw [hg]; exact (below_size (by repeat (first | (with_reducible first | exact HB.out | apply below_alloc | apply pw_below_drewN | apply below_drew1 | refine below_set ?_ GE141.out | refine below_set ?_ GE142.out | refine below_set ?_ GE143.out) | exact HB.out))) : w.heap.size ≤ gb162)); have n10_ := Aside0.mk ((by rw [hg]; exact Nat.ne_of_lt (blk_lt (g := gb141) (o := .cells #[.slice A0_0 l0_0.length c0_0, .slice A0_1 l0_1.length c0_1, .slice (some ad161) l0_2.length c0_2, .int .i64 a0_3, .int .i64 a0_4, .int .i64 a0_5] 53 (0, 0)) (by (with_reducible repeat (first | refine blk_drewN ?_ _ | refine blk_drew ?_ | refine blk_alloc ?_ _)); exact BK141.out)) : gb141 ≠ gb162)); have n11_ := Aside0.mk ((by rw [hg]; exact Nat.ne_of_gt (blk_lt (g := gb141) (o := .cells #[.slice A0_0 l0_0.length c0_0, .slice A0_1 l0_1.length c0_1, .slice (some ad161) l0_2.length c0_2, .int .i64 a0_3, .int .i64 a0_4, .int .i64 a0_5] 53 (0, 0)) (by (with_reducible repeat (first | refine blk_drewN ?_ _ | refine blk_drew ?_ | refine blk_alloc ?_ _)); exact BK141.out)) : gb162 ≠ gb141)); have n12_ := Aside0.mk ((by rw [hg]; exact Nat.ne_of_lt (blk_lt (g := gb142) (o := .cells #[.slice none 0 0, .slice none 0 0, .slice none 0 0, .int .i64 0, .int .i64 0, .int .i64 0] 53 (0, 0)) (by (with_reducible repeat (first | refine blk_drewN ?_ _ | refine blk_drew ?_ | refine blk_alloc ?_ _)); exact BK142.out)) : gb142 ≠ gb162)); have n13_ := Aside0.mk ((by rw [hg]; exact Nat.ne_of_gt (blk_lt (g := gb142) (o := .cells #[.slice none 0 0, .slice none 0 0, .slice none 0 0, .int .i64 0, .int .i64 0, .int .i64 0] 53 (0, 0)) (by (with_reducible repeat (first | refine blk_drewN ?_ _ | refine blk_drew ?_ | refine blk_alloc ?_ _)); exact BK142.out)) : gb162 ≠ gb142)); have n14_ := Aside0.mk ((by rw [hg]; exact Nat.ne_of_lt (blk_lt (g := gb143) (o := .cells #[.slice Ao13 y144.length co13, u144001, u144002, .int .i64 a0_3, .int .i64 a0_4, .int .i64 a0_5] 53 (0, 0)) (by (with_reducible repeat (first | refine blk_drewN ?_ _ | refine blk_drew ?_ | refine blk_alloc ?_ _)); exact BK143.out)) : gb143 ≠ gb162)); have n15_ := Aside0.mk ((by rw [hg]; exact Nat.ne_of_gt (blk_lt (g := gb143) (o := .cells #[.slice Ao13 y144.length co13, u144001, u144002, .int .i64 a0_3, .int .i64 a0_4, .int .i64 a0_5] 53 (0, 0)) (by (with_reducible repeat (first | refine blk_drewN ?_ _ | refine blk_drew ?_ | refine blk_alloc ?_ _)); exact BK143.out)) : gb162 ≠ gb143)); clear HO_144000; clear HO_144001; clear HO_144002; clear BK141; clear BK142; clear BK143; clear HB; have HO_144000 := n0_; have HO_144001 := n1_; have HO_144002 := n2_; have BK141 := n3_; have BK142 := n4_; have BK143 := n5_; have HB := n6_; have BK162 := n7_; have GW162 := n8_; have GE162 := n9_; have NB141_162 := n10_; have NB162_141 := n11_; have NB142_162 := n12_; have NB162_142 := n13_; have NB143_162 := n14_; have NB162_143 := n15_; clear n0_ n1_ n2_ n3_ n4_ n5_ n6_ n7_ n8_ n9_ n10_ n11_ n12_ n13_ n14_ n15_; clear hb hbox hg; have hnb68 := NB162_141.out; have hnc68 := NB141_162.out; have hnb69 := NB162_142.out; have hnc69 := NB142_162.out; have hnb70 := NB162_143.out; have hnc70 := NB143_162.out; have hcz71_0 : w67.cell? ⟨gb162, 0, none⟩ = some (.int .i64 0) := (blk_cell BK162.out 0).trans rfl; have hcz71_1 : w67.cell? ⟨gb162, 1, none⟩ = some (.int .i64 0) := (blk_cell BK162.out 1).trans rfl; have hcz71_2 : w67.cell? ⟨gb162, 2, none⟩ = some (.int .i64 0) := (blk_cell BK162.out 2).trans rfl; have hcz71_3 : w67.cell? ⟨gb162, 3, none⟩ = some (.slice none 0 0) := (blk_cell BK162.out 3).trans rfl; have hfz71_0 := blk_frozen BK162.out 0; have hfz71_1 := blk_frozen BK162.out 1; have hfz71_2 := blk_frozen BK162.out 2; have hfz71_3 := blk_frozen BK162.out 3))
                      have n0_ : Aside0 (Kd.R (Kd.int .i64) 2 (((((w67.setCell ⟨gb162, 0, none⟩ (.int .i64 ((rd_T62 l0_2 x8_2).f0))).setCell ⟨gb162, 1, none⟩ (.int .i64 ((rd_T62 l0_2 x8_2).f1))).setCell ⟨gb162, 2, none⟩ (.int .i64 ((rd_T62 l0_2 x8_2).f2))).setCell ⟨gb162, 3, none⟩ (.slice A161_3 ((rd_T62 l0_2 x8_2).f3).length c161_3)).setCell ⟨gb162, 3, none⟩ (.slice none 0 0)) w.heap.size (fun _ => True) (.slice Ao13 y144.length co13) y144) := ⟨by (with_reducible repeat (first | apply Kd.R_alloc | apply Kd.R_drewN | apply Kd.R_drew)); exact Kd.R_mono (Kd.R_far (p := ⟨gb162, 3, none⟩) (Kd.R_far (p := ⟨gb162, 3, none⟩) (Kd.R_far (p := ⟨gb162, 2, none⟩) (Kd.R_far (p := ⟨gb162, 1, none⟩) (Kd.R_far (p := ⟨gb162, 0, none⟩) (Kd.R_types HO_144000.out BK162.out (by decide)) (fun _ hk => hk.2) (.int .i64 ((rd_T62 l0_2 x8_2).f0))) (fun _ hk => hk.2) (.int .i64 ((rd_T62 l0_2 x8_2).f1))) (fun _ hk => hk.2) (.int .i64 ((rd_T62 l0_2 x8_2).f2))) (fun _ hk => hk.2) (.slice A161_3 ((rd_T62 l0_2 x8_2).f3).length c161_3)) (fun _ hk => hk.2) (.slice none 0 0)) (fun _ hk => trivial)⟩
                      have n1_ : Aside0 (Kd.R k27 27 (((((w67.setCell ⟨gb162, 0, none⟩ (.int .i64 ((rd_T62 l0_2 x8_2).f0))).setCell ⟨gb162, 1, none⟩ (.int .i64 ((rd_T62 l0_2 x8_2).f1))).setCell ⟨gb162, 2, none⟩ (.int .i64 ((rd_T62 l0_2 x8_2).f2))).setCell ⟨gb162, 3, none⟩ (.slice A161_3 ((rd_T62 l0_2 x8_2).f3).length c161_3)).setCell ⟨gb162, 3, none⟩ (.slice none 0 0)) w.heap.size (fun k_ => some k_ ≠ (.slice Ao13 y144.length co13 : Value).ownBlock) u144001 x144001_1) := ⟨by (with_reducible repeat (first | apply Kd.R_alloc | apply Kd.R_drewN | apply Kd.R_drew)); exact Kd.R_mono (Kd.R_far (p := ⟨gb162, 3, none⟩) (Kd.R_far (p := ⟨gb162, 3, none⟩) (Kd.R_far (p := ⟨gb162, 2, none⟩) (Kd.R_far (p := ⟨gb162, 1, none⟩) (Kd.R_far (p := ⟨gb162, 0, none⟩) (Kd.R_types HO_144001.out BK162.out (by decide)) (fun _ hk => hk.2) (.int .i64 ((rd_T62 l0_2 x8_2).f0))) (fun _ hk => hk.2) (.int .i64 ((rd_T62 l0_2 x8_2).f1))) (fun _ hk => hk.2) (.int .i64 ((rd_T62 l0_2 x8_2).f2))) (fun _ hk => hk.2) (.slice A161_3 ((rd_T62 l0_2 x8_2).f3).length c161_3)) (fun _ hk => hk.2) (.slice none 0 0)) (fun _ hk => hk.1)⟩
                      have n2_ : Aside0 (Kd.S k62 62 (((((w67.setCell ⟨gb162, 0, none⟩ (.int .i64 ((rd_T62 l0_2 x8_2).f0))).setCell ⟨gb162, 1, none⟩ (.int .i64 ((rd_T62 l0_2 x8_2).f1))).setCell ⟨gb162, 2, none⟩ (.int .i64 ((rd_T62 l0_2 x8_2).f2))).setCell ⟨gb162, 3, none⟩ (.slice A161_3 ((rd_T62 l0_2 x8_2).f3).length c161_3)).setCell ⟨gb162, 3, none⟩ (.slice none 0 0)) w.heap.size (fun k_ => some k_ ≠ (.slice Ao13 y144.length co13 : Value).ownBlock ∧ k_ ≠ gb162) u144002 x144002_2) := ⟨by (with_reducible repeat (first | apply Kd.S_alloc | apply Kd.S_drewN | apply Kd.S_drew)); exact Kd.S_mono (Kd.S_far (p := ⟨gb162, 3, none⟩) (Kd.S_far (p := ⟨gb162, 3, none⟩) (Kd.S_far (p := ⟨gb162, 2, none⟩) (Kd.S_far (p := ⟨gb162, 1, none⟩) (Kd.S_far (p := ⟨gb162, 0, none⟩) (Kd.S_mono HO_144002.out (fun k_ hk => (⟨hk, hk.2⟩ : _ ∧ k_ ≠ gb162))) (fun _ hk => hk.2) (.int .i64 ((rd_T62 l0_2 x8_2).f0))) (fun _ hk => hk.2) (.int .i64 ((rd_T62 l0_2 x8_2).f1))) (fun _ hk => hk.2) (.int .i64 ((rd_T62 l0_2 x8_2).f2))) (fun _ hk => hk.2) (.slice A161_3 ((rd_T62 l0_2 x8_2).f3).length c161_3)) (fun _ hk => hk.2) (.slice none 0 0)) (fun _ hk => ⟨hk.1.1, hk.1.2⟩)⟩
                      have n3_ : Aside0 ((((((w67.setCell ⟨gb162, 0, none⟩ (.int .i64 ((rd_T62 l0_2 x8_2).f0))).setCell ⟨gb162, 1, none⟩ (.int .i64 ((rd_T62 l0_2 x8_2).f1))).setCell ⟨gb162, 2, none⟩ (.int .i64 ((rd_T62 l0_2 x8_2).f2))).setCell ⟨gb162, 3, none⟩ (.slice A161_3 ((rd_T62 l0_2 x8_2).f3).length c161_3)).setCell ⟨gb162, 3, none⟩ (.slice none 0 0)).heap[gb141]? = some (.cells #[.slice A0_0 l0_0.length c0_0, .slice A0_1 l0_1.length c0_1, .slice (some ad161) l0_2.length c0_2, .int .i64 a0_3, .int .i64 a0_4, .int .i64 a0_5] 53 (0, 0))) := ⟨by (with_reducible repeat (first | refine blk_drewN ?_ _ | refine blk_drew ?_ | refine blk_alloc ?_ _)); refine blk_far ?_ NB141_162.out _; (with_reducible repeat (first | refine blk_drewN ?_ _ | refine blk_drew ?_ | refine blk_alloc ?_ _)); refine blk_far ?_ NB141_162.out _; (with_reducible repeat (first | refine blk_drewN ?_ _ | refine blk_drew ?_ | refine blk_alloc ?_ _)); refine blk_far ?_ NB141_162.out _; (with_reducible repeat (first | refine blk_drewN ?_ _ | refine blk_drew ?_ | refine blk_alloc ?_ _)); refine blk_far ?_ NB141_162.out _; (with_reducible repeat (first | refine blk_drewN ?_ _ | refine blk_drew ?_ | refine blk_alloc ?_ _)); refine blk_far ?_ NB141_162.out _; (with_reducible repeat (first | refine blk_drewN ?_ _ | refine blk_drew ?_ | refine blk_alloc ?_ _)); exact BK141.out⟩
                      have n4_ : Aside0 ((((((w67.setCell ⟨gb162, 0, none⟩ (.int .i64 ((rd_T62 l0_2 x8_2).f0))).setCell ⟨gb162, 1, none⟩ (.int .i64 ((rd_T62 l0_2 x8_2).f1))).setCell ⟨gb162, 2, none⟩ (.int .i64 ((rd_T62 l0_2 x8_2).f2))).setCell ⟨gb162, 3, none⟩ (.slice A161_3 ((rd_T62 l0_2 x8_2).f3).length c161_3)).setCell ⟨gb162, 3, none⟩ (.slice none 0 0)).heap[gb142]? = some (.cells #[.slice none 0 0, .slice none 0 0, .slice none 0 0, .int .i64 0, .int .i64 0, .int .i64 0] 53 (0, 0))) := ⟨by (with_reducible repeat (first | refine blk_drewN ?_ _ | refine blk_drew ?_ | refine blk_alloc ?_ _)); refine blk_far ?_ NB142_162.out _; (with_reducible repeat (first | refine blk_drewN ?_ _ | refine blk_drew ?_ | refine blk_alloc ?_ _)); refine blk_far ?_ NB142_162.out _; (with_reducible repeat (first | refine blk_drewN ?_ _ | refine blk_drew ?_ | refine blk_alloc ?_ _)); refine blk_far ?_ NB142_162.out _; (with_reducible repeat (first | refine blk_drewN ?_ _ | refine blk_drew ?_ | refine blk_alloc ?_ _)); refine blk_far ?_ NB142_162.out _; (with_reducible repeat (first | refine blk_drewN ?_ _ | refine blk_drew ?_ | refine blk_alloc ?_ _)); refine blk_far ?_ NB142_162.out _; (with_reducible repeat (first | refine blk_drewN ?_ _ | refine blk_drew ?_ | refine blk_alloc ?_ _)); exact BK142.out⟩
                      have n5_ : Aside0 ((((((w67.setCell ⟨gb162, 0, none⟩ (.int .i64 ((rd_T62 l0_2 x8_2).f0))).setCell ⟨gb162, 1, none⟩ (.int .i64 ((rd_T62 l0_2 x8_2).f1))).setCell ⟨gb162, 2, none⟩ (.int .i64 ((rd_T62 l0_2 x8_2).f2))).setCell ⟨gb162, 3, none⟩ (.slice A161_3 ((rd_T62 l0_2 x8_2).f3).length c161_3)).setCell ⟨gb162, 3, none⟩ (.slice none 0 0)).heap[gb143]? = some (.cells #[.slice Ao13 y144.length co13, u144001, u144002, .int .i64 a0_3, .int .i64 a0_4, .int .i64 a0_5] 53 (0, 0))) := ⟨by (with_reducible repeat (first | refine blk_drewN ?_ _ | refine blk_drew ?_ | refine blk_alloc ?_ _)); refine blk_far ?_ NB143_162.out _; (with_reducible repeat (first | refine blk_drewN ?_ _ | refine blk_drew ?_ | refine blk_alloc ?_ _)); refine blk_far ?_ NB143_162.out _; (with_reducible repeat (first | refine blk_drewN ?_ _ | refine blk_drew ?_ | refine blk_alloc ?_ _)); refine blk_far ?_ NB143_162.out _; (with_reducible repeat (first | refine blk_drewN ?_ _ | refine blk_drew ?_ | refine blk_alloc ?_ _)); refine blk_far ?_ NB143_162.out _; (with_reducible repeat (first | refine blk_drewN ?_ _ | refine blk_drew ?_ | refine blk_alloc ?_ _)); refine blk_far ?_ NB143_162.out _; (with_reducible repeat (first | refine blk_drewN ?_ _ | refine blk_drew ?_ | refine blk_alloc ?_ _)); exact BK143.out⟩
                      have n6_ : Aside0 ((((((w67.setCell ⟨gb162, 0, none⟩ (.int .i64 ((rd_T62 l0_2 x8_2).f0))).setCell ⟨gb162, 1, none⟩ (.int .i64 ((rd_T62 l0_2 x8_2).f1))).setCell ⟨gb162, 2, none⟩ (.int .i64 ((rd_T62 l0_2 x8_2).f2))).setCell ⟨gb162, 3, none⟩ (.slice A161_3 ((rd_T62 l0_2 x8_2).f3).length c161_3)).setCell ⟨gb162, 3, none⟩ (.slice none 0 0)).heap[gb162]? = some (.cells #[.int .i64 ((rd_T62 l0_2 x8_2).f0), .int .i64 ((rd_T62 l0_2 x8_2).f1), .int .i64 ((rd_T62 l0_2 x8_2).f2), .slice none 0 0] 62 (0, 0))) := ⟨by (with_reducible repeat (first | refine blk_drewN ?_ _ | refine blk_drew ?_ | refine blk_alloc ?_ _)); refine blk_put (cs := #[.int .i64 ((rd_T62 l0_2 x8_2).f0), .int .i64 ((rd_T62 l0_2 x8_2).f1), .int .i64 ((rd_T62 l0_2 x8_2).f2), .slice A161_3 ((rd_T62 l0_2 x8_2).f3).length c161_3]) ?_ 3 _ rfl; (with_reducible repeat (first | refine blk_drewN ?_ _ | refine blk_drew ?_ | refine blk_alloc ?_ _)); refine blk_put (cs := #[.int .i64 ((rd_T62 l0_2 x8_2).f0), .int .i64 ((rd_T62 l0_2 x8_2).f1), .int .i64 ((rd_T62 l0_2 x8_2).f2), .slice none 0 0]) ?_ 3 _ rfl; (with_reducible repeat (first | refine blk_drewN ?_ _ | refine blk_drew ?_ | refine blk_alloc ?_ _)); refine blk_put (cs := #[.int .i64 ((rd_T62 l0_2 x8_2).f0), .int .i64 ((rd_T62 l0_2 x8_2).f1), .int .i64 0, .slice none 0 0]) ?_ 2 _ rfl; (with_reducible repeat (first | refine blk_drewN ?_ _ | refine blk_drew ?_ | refine blk_alloc ?_ _)); refine blk_put (cs := #[.int .i64 ((rd_T62 l0_2 x8_2).f0), .int .i64 0, .int .i64 0, .slice none 0 0]) ?_ 1 _ rfl; (with_reducible repeat (first | refine blk_drewN ?_ _ | refine blk_drew ?_ | refine blk_alloc ?_ _)); refine blk_put (cs := #[.int .i64 0, .int .i64 0, .int .i64 0, .slice none 0 0]) ?_ 0 _ rfl; (with_reducible repeat (first | refine blk_drewN ?_ _ | refine blk_drew ?_ | refine blk_alloc ?_ _)); exact BK162.out⟩
                      have n7_ : Aside0 (Below w.heap.size w (((((w67.setCell ⟨gb162, 0, none⟩ (.int .i64 ((rd_T62 l0_2 x8_2).f0))).setCell ⟨gb162, 1, none⟩ (.int .i64 ((rd_T62 l0_2 x8_2).f1))).setCell ⟨gb162, 2, none⟩ (.int .i64 ((rd_T62 l0_2 x8_2).f2))).setCell ⟨gb162, 3, none⟩ (.slice A161_3 ((rd_T62 l0_2 x8_2).f3).length c161_3)).setCell ⟨gb162, 3, none⟩ (.slice none 0 0))) := ⟨by repeat (first | (with_reducible first | exact HB.out | apply below_alloc | apply pw_below_drewN | apply below_drew1 | refine below_set ?_ GE141.out | refine below_set ?_ GE142.out | refine below_set ?_ GE143.out | refine below_set ?_ GE162.out) | exact HB.out)⟩
                      (try clear HO_144000)
                      (try clear HO_144001)
                      (try clear HO_144002)
                      (try clear BK141)
                      (try clear BK142)
                      (try clear BK143)
                      (try clear BK162)
                      (try clear HB)
                      generalize (((((w67.setCell ⟨gb162, 0, none⟩ (.int .i64 ((rd_T62 l0_2 x8_2).f0))).setCell ⟨gb162, 1, none⟩ (.int .i64 ((rd_T62 l0_2 x8_2).f1))).setCell ⟨gb162, 2, none⟩ (.int .i64 ((rd_T62 l0_2 x8_2).f2))).setCell ⟨gb162, 3, none⟩ (.slice A161_3 ((rd_T62 l0_2 x8_2).f3).length c161_3)).setCell ⟨gb162, 3, none⟩ (.slice none 0 0)) = w72 at n0_ n1_ n2_ n3_ n4_ n5_ n6_ n7_ ⊢
                      have HO_144000 := n0_
                      have HO_144001 := n1_
                      have HO_144002 := n2_
                      have BK141 := n3_
                      have BK142 := n4_
                      have BK143 := n5_
                      have BK162 := n6_
                      have HB := n7_
                      clear n0_ n1_ n2_ n3_ n4_ n5_ n6_ n7_
                      have n0_ := Aside0.mk (Kd.R_drew HO_144000.out)
                      have n1_ := Aside0.mk (Kd.R_drew HO_144001.out)
                      have n2_ := Aside0.mk (Kd.S_drew HO_144002.out)
                      have n3_ := Aside0.mk (blk_drew BK141.out)
                      have n4_ := Aside0.mk (blk_drew BK142.out)
                      have n5_ := Aside0.mk (blk_drew BK143.out)
                      have n6_ := Aside0.mk (blk_drew BK162.out)
                      have n7_ := Aside0.mk (below_drew1 HB.out)
                      clear HO_144000
                      clear HO_144001
                      clear HO_144002
                      clear BK141
                      clear BK142
                      clear BK143
                      clear BK162
                      clear HB
                      have HO_144000 := n0_
                      have HO_144001 := n1_
                      have HO_144002 := n2_
                      have BK141 := n3_
                      have BK142 := n4_
                      have BK143 := n5_
                      have BK162 := n6_
                      have HB := n7_
                      clear n0_ n1_ n2_ n3_ n4_ n5_ n6_ n7_
                      have p163 : 0 ≤ (x8_2 : Int) := of_decide_eq_true (by first | (with_reducible assumption) | assumption)
                      have q163 : x8_2 < (l0_2.length : Int) := of_decide_eq_true (by first | (with_reducible assumption) | assumption)
                      obtain ⟨ad163, A163_3, c163_3, e163, hx163_0, hx163_1, hx163_2, hx163_3, hl163_3, hi163_3⟩ := at_T62 HR0_2.out x8_2 p163 q163
                      have hw163_3 := hx163_3
                      have hw163_2 := hx163_2
                      have hw163_1 := hx163_1
                      have hw163_0 := hx163_0
                      obtain rfl : ad161 = ad163 := (by injection e163)
                      replace hx163_0 := (HB.out.cell (World.block_lt_of_cell? w _ hx163_0)).trans hx163_0
                      replace hx163_1 := (HB.out.cell (World.block_lt_of_cell? w _ hx163_1)).trans hx163_1
                      replace hx163_2 := (HB.out.cell (World.block_lt_of_cell? w _ hx163_2)).trans hx163_2
                      replace hx163_3 := (HB.out.cell (World.block_lt_of_cell? w _ hx163_3)).trans hx163_3
                      have HR163_3 := Aside0.mk hi163_3
                      have HC163_3 := Aside0.mk hl163_3
                      clear hi163_3 hl163_3
                      replace p163 := eq_true p163
                      replace q163 := eq_true q163
                      refine start_ (n := 11) (S := fun w' => w'.cell? ⟨gb162, 0, none⟩ = some (.int .i64 ((rd_T62 l0_2 x8_2).f0)) ∧ w'.cell? ⟨gb162, 1, none⟩ = some (.int .i64 ((rd_T62 l0_2 x8_2).f1)) ∧ w'.cell? ⟨gb162, 2, none⟩ = some (.int .i64 ((rd_T62 l0_2 x8_2).f2)) ∧ w'.cell? ⟨gb162, 3, none⟩ = some (.slice none 0 0) ∧ w'.cell? ⟨gb141, 0, none⟩ = some (.slice A0_0 l0_0.length c0_0) ∧ w'.cell? ⟨gb141, 1, none⟩ = some (.slice A0_1 l0_1.length c0_1) ∧ w'.cell? ⟨gb141, 2, none⟩ = some (.slice (some ad161) l0_2.length c0_2) ∧ w'.cell? ⟨gb141, 3, none⟩ = some (.int .i64 a0_3) ∧ w'.cell? ⟨gb141, 4, none⟩ = some (.int .i64 a0_4) ∧ w'.cell? ⟨gb141, 5, none⟩ = some (.int .i64 a0_5) ∧ w'.cell? (ad161.add ((x8_2).toNat * 4)) = some (.int .i64 ((rd_T62 l0_2 x8_2).f0)) ∧ w'.cell? ⟨(ad161.add ((x8_2).toNat * 4)).block, (ad161.add ((x8_2).toNat * 4)).off + 1, none⟩ = some (.int .i64 ((rd_T62 l0_2 x8_2).f1)) ∧ w'.cell? ⟨(ad161.add ((x8_2).toNat * 4)).block, (ad161.add ((x8_2).toNat * 4)).off + 2, none⟩ = some (.int .i64 ((rd_T62 l0_2 x8_2).f2)) ∧ w'.cell? ⟨(ad161.add ((x8_2).toNat * 4)).block, (ad161.add ((x8_2).toNat * 4)).off + 3, none⟩ = some (.slice A163_3 ((rd_T62 l0_2 x8_2).f3).length c163_3)) (ds := [10]) #[false, false, false, false, false, false, false, false, false, false, false] (by kernel_rfl) rfl rfl ⟨(blk_cell BK162.out 0).trans rfl, (blk_cell BK162.out 1).trans rfl, (blk_cell BK162.out 2).trans rfl, (blk_cell BK162.out 3).trans rfl, (blk_cell BK141.out 0).trans rfl, (blk_cell BK141.out 1).trans rfl, (blk_cell BK141.out 2).trans rfl, (blk_cell BK141.out 3).trans rfl, (blk_cell BK141.out 4).trans rfl, (blk_cell BK141.out 5).trans rfl, ((HB.out.cell (World.block_lt_of_cell? w _ hw163_0)).trans hw163_0), ((HB.out.cell (World.block_lt_of_cell? w _ hw163_1)).trans hw163_1), ((HB.out.cell (World.block_lt_of_cell? w _ hw163_2)).trans hw163_2), ((HB.out.cell (World.block_lt_of_cell? w _ hw163_3)).trans hw163_3)⟩ (fun hHeld => ?_); refine with_tabW spinneretref12_Copy.tab19 spinneretref12_Copy.bits19 (fun HT_ HW_ => ?_)
                      generalize w72.drew = w73 at HO_144000 HO_144001 HO_144002 BK141 BK142 BK143 BK162 HB HR163_3 hx163_0 hx163_1 hx163_2 hx163_3 hHeld ⊢
                      refine pure_ (i := 0) (N := some 84) (v := ?_) (a' := ?_) #[true, false, false, false, false, false, false, false, false, false, false] rfl rfl (any_of HT_.out (by kernel_rfl)) (fun _ _ _ h => h) (Or.inl ⟨by rfl, ?_⟩) ?_ ?_
                      rotate_left
                      · intro w'
                        go_simp
                        with_reducible rfl
                      rotate_left
                      · simp only [Act.put, List.setIfInBounds_toArray, List.set_cons_zero, List.set_cons_succ, i64_w, i32_w]
                        rfl
                      refine pure_ (i := 2) (N := some 86) (v := ?_) (a' := ?_) #[true, false, true, false, false, false, false, false, false, false, false] rfl rfl (any_of HT_.out (by kernel_rfl)) (fun _ _ _ h => h) (Or.inl ⟨by rfl, ?_⟩) ?_ ?_
                      rotate_left
                      · intro w'
                        go_simp
                        with_reducible rfl
                      rotate_left
                      · simp only [Act.put, List.setIfInBounds_toArray, List.set_cons_zero, List.set_cons_succ, i64_w, i32_w]
                        rfl
                      refine pure_ (i := 4) (N := some 88) (v := ?_) (a' := ?_) #[true, false, true, false, true, false, false, false, false, false, false] rfl rfl (any_of HT_.out (by kernel_rfl)) (fun _ _ _ h => h) (Or.inl ⟨by rfl, ?_⟩) ?_ ?_
                      rotate_left
                      · intro w'
                        go_simp
                        with_reducible rfl
                      rotate_left
                      · simp only [Act.put, List.setIfInBounds_toArray, List.set_cons_zero, List.set_cons_succ, i64_w, i32_w]
                        rfl
                      refine take_ (i := 1) (N := some 85) (v := ?_) (a' := ?_) #[true, true, true, false, true, false, false, false, false, false, false] rfl rfl (take_ofW HT_.out HW_.out (by kernel_rfl)) (fun _ _ _ h => h) (Or.inl ⟨by rfl, ?_⟩) hHeld ?_ ?_
                      rotate_left
                      · rintro w' ⟨s0, s1, s2, s3, s4, s5, s6, s7, s8, s9, s10, s11, s12, s13⟩
                        go_simp
                        with_reducible rfl
                      rotate_left
                      · simp only [Act.put, List.setIfInBounds_toArray, List.set_cons_zero, List.set_cons_succ, i64_w, i32_w]
                        rfl
                      refine take_ (i := 3) (N := some 87) (v := ?_) (a' := ?_) #[true, true, true, true, true, false, false, false, false, false, false] rfl rfl (take_ofW HT_.out HW_.out (by kernel_rfl)) (fun _ _ _ h => h) (Or.inl ⟨by rfl, ?_⟩) hHeld ?_ ?_
                      rotate_left
                      · rintro w' ⟨s0, s1, s2, s3, s4, s5, s6, s7, s8, s9, s10, s11, s12, s13⟩
                        go_simp
                        with_reducible rfl
                      rotate_left
                      · simp only [Act.put, List.setIfInBounds_toArray, List.set_cons_zero, List.set_cons_succ, i64_w, i32_w]
                        rfl
                      refine pure_ (i := 5) (N := some 89) (v := ?_) (a' := ?_) #[true, true, true, true, true, true, false, false, false, false, false] rfl rfl (any_of HT_.out (by kernel_rfl)) (fun _ _ _ h => h) (Or.inl ⟨by rfl, ?_⟩) ?_ ?_
                      rotate_left
                      · intro w'
                        go_simp
                        with_reducible rfl
                      rotate_left
                      · simp only [Act.put, List.setIfInBounds_toArray, List.set_cons_zero, List.set_cons_succ, i64_w, i32_w]
                        rfl
                      refine pure_ (i := 6) (N := some 90) (v := ?_) (a' := ?_) #[true, true, true, true, true, true, true, false, false, false, false] rfl rfl (any_of HT_.out (by kernel_rfl)) (fun _ _ _ h => h) (Or.inl ⟨by rfl, ?_⟩) ?_ ?_
                      rotate_left
                      · intro w'
                        go_simp
                        with_reducible rfl
                      rotate_left
                      · simp only [Act.put, List.setIfInBounds_toArray, List.set_cons_zero, List.set_cons_succ, i64_w, i32_w]
                        rfl
                      refine take_ (i := 7) (N := some 91) (v := ?_) (a' := ?_) #[true, true, true, true, true, true, true, true, false, false, false] rfl rfl (take_ofW HT_.out HW_.out (by kernel_rfl)) (fun _ _ _ h => h) (Or.inl ⟨by rfl, ?_⟩) hHeld ?_ ?_
                      rotate_left
                      · rintro w' ⟨s0, s1, s2, s3, s4, s5, s6, s7, s8, s9, s10, s11, s12, s13⟩
                        go_simp
                        with_reducible rfl
                      rotate_left
                      · simp only [Act.put, List.setIfInBounds_toArray, List.set_cons_zero, List.set_cons_succ, i64_w, i32_w]
                        rfl
                      refine one_ (i := 8) (N := some 92) #[true, true, true, true, true, true, true, true, true, false, false] rfl rfl (one_of HT_.out (by kernel_rfl)) (by decide) (fun K hK => ?_)
                      refine Kd.R_append_rows_step (Kd.int .i64) (w0 := w) w.heap.size (by rfl) (.tmp 85) (.tmp 91) 28 2 (.int .i64 0) 8 rfl Try.underlying28 info2 rfl (by decide) (by omega) (.slice none 0 0) ([] : List Int) ((rd_T62 l0_2 x8_2).f3) _ _ _ (fun k_ => some k_ ≠ (.slice Ao13 y144.length co13 : Value).ownBlock) (fun _ => False) rfl rfl ?aO ?aR (fun _ _ h => h) (fun _ h => h.elim) ?aF ?aB ?aS ?aL ?_
                      (case aR => repeat (first | exact (Kd.C_below HR163_3.out HB.out) | (with_reducible refine Kd.C_alloc ?_ _) | (with_reducible refine Kd.C_drewN ?_ _) | (with_reducible refine Kd.C_drew ?_)))
                      (case aB => exact (by repeat (first | (with_reducible first | exact HB.out | apply below_alloc | apply pw_below_drewN | apply below_drew1 | refine below_set ?_ GE141.out | refine below_set ?_ GE142.out | refine below_set ?_ GE143.out | refine below_set ?_ GE162.out) | exact HB.out)))
                      (case aF => exact (fun k_ hk => Kd.fresh' (Kd.R_lt (by (with_reducible repeat (first | apply Kd.R_alloc | apply Kd.R_drewN | apply Kd.R_drew)); exact HO_144000.out)) k_ hk))
                      (case aO => exact ((Kd.R_nil _ _ _ _ (fun k_ => some k_ ≠ (.slice Ao13 y144.length co13 : Value).ownBlock))))
                      (case aS => exact (below_size (by repeat (first | (with_reducible first | exact HB.out | apply below_alloc | apply pw_below_drewN | apply below_drew1 | refine below_set ?_ GE141.out | refine below_set ?_ GE142.out | refine below_set ?_ GE143.out | refine below_set ?_ GE162.out) | exact HB.out))))
                      (case aL => have := LMc62.out; omega)
                      intro v165 w74 ho hb hg hat
                      rw [← Ny164.out] at ho
                      have n0_ := Aside0.mk (Kd.R_after (Kd.R_apart_nil (by (with_reducible repeat (first | apply Kd.R_alloc | apply Kd.R_drewN | apply Kd.R_drew)); exact HO_144000.out)) hg hat)
                      have n1_ := Aside0.mk (Kd.R_after (Kd.R_apart_nil (by (with_reducible repeat (first | apply Kd.R_alloc | apply Kd.R_drewN | apply Kd.R_drew)); exact HO_144001.out)) hg hat)
                      have n2_ := Aside0.mk (Kd.S_after (Kd.S_apart_nil (by (with_reducible repeat (first | apply Kd.S_alloc | apply Kd.S_drewN | apply Kd.S_drew)); exact HO_144002.out)) hg hat)
                      have n3_ := Aside0.mk (blk_grown (g := gb141) (o := .cells #[.slice A0_0 l0_0.length c0_0, .slice A0_1 l0_1.length c0_1, .slice (some ad161) l0_2.length c0_2, .int .i64 a0_3, .int .i64 a0_4, .int .i64 a0_5] 53 (0, 0)) (by (with_reducible repeat (first | refine blk_drewN ?_ _ | refine blk_drew ?_ | refine blk_alloc ?_ _)); exact BK141.out) hg (by simp [Value.ownBlock]))
                      have n4_ := Aside0.mk (blk_grown (g := gb142) (o := .cells #[.slice none 0 0, .slice none 0 0, .slice none 0 0, .int .i64 0, .int .i64 0, .int .i64 0] 53 (0, 0)) (by (with_reducible repeat (first | refine blk_drewN ?_ _ | refine blk_drew ?_ | refine blk_alloc ?_ _)); exact BK142.out) hg (by simp [Value.ownBlock]))
                      have n5_ := Aside0.mk (blk_grown (g := gb143) (o := .cells #[.slice Ao13 y144.length co13, u144001, u144002, .int .i64 a0_3, .int .i64 a0_4, .int .i64 a0_5] 53 (0, 0)) (by (with_reducible repeat (first | refine blk_drewN ?_ _ | refine blk_drew ?_ | refine blk_alloc ?_ _)); exact BK143.out) hg (by simp [Value.ownBlock]))
                      have n6_ := Aside0.mk (blk_grown (g := gb162) (o := .cells #[.int .i64 ((rd_T62 l0_2 x8_2).f0), .int .i64 ((rd_T62 l0_2 x8_2).f1), .int .i64 ((rd_T62 l0_2 x8_2).f2), .slice none 0 0] 62 (0, 0)) (by (with_reducible repeat (first | refine blk_drewN ?_ _ | refine blk_drew ?_ | refine blk_alloc ?_ _)); exact BK162.out) hg (by simp [Value.ownBlock]))
                      have n7_ := Aside0.mk (hb)
                      have n8_ := Aside0.mk (ho)
                      clear HO_144000
                      clear HO_144001
                      clear HO_144002
                      clear BK141
                      clear BK142
                      clear BK143
                      clear BK162
                      clear HB
                      have HO_144000 := n0_
                      have HO_144001 := n1_
                      have HO_144002 := n2_
                      have BK141 := n3_
                      have BK142 := n4_
                      have BK143 := n5_
                      have BK162 := n6_
                      have HB := n7_
                      have HO166 := n8_
                      clear n0_ n1_ n2_ n3_ n4_ n5_ n6_ n7_ n8_
                      clear ho hb hg hat
                      obtain ⟨Ao75, co75, eo75⟩ := Kd.R_slice HO166.out
                      (first | subst eo75 | (injection eo75 with f1_ f2_ f3_; have f4_ := f1_.symm; have f5_ := f3_.symm; clear f1_ f2_ f3_; subst f4_; subst f5_))
                      refine hK.out _ _ ⟨(blk_cell BK162.out 0).trans rfl, (blk_cell BK162.out 1).trans rfl, (blk_cell BK162.out 2).trans rfl, (blk_cell BK162.out 3).trans rfl, (blk_cell BK141.out 0).trans rfl, (blk_cell BK141.out 1).trans rfl, (blk_cell BK141.out 2).trans rfl, (blk_cell BK141.out 3).trans rfl, (blk_cell BK141.out 4).trans rfl, (blk_cell BK141.out 5).trans rfl, ((HB.out.cell (World.block_lt_of_cell? w _ hw163_0)).trans hw163_0), ((HB.out.cell (World.block_lt_of_cell? w _ hw163_1)).trans hw163_1), ((HB.out.cell (World.block_lt_of_cell? w _ hw163_2)).trans hw163_2), ((HB.out.cell (World.block_lt_of_cell? w _ hw163_3)).trans hw163_3)⟩ (fun hHeld => ?_)
                      clear hK K
                      refine norm_ (a' := ?_) ?_ ?_
                      rotate_left
                      · show Act.put _ (some 92) _ = _
                        simp only [Act.put, List.setIfInBounds_toArray, List.set_cons_zero, List.set_cons_succ, i64_w, i32_w]
                        rfl
                      refine pure_ (i := 9) (N := some 93) (v := ?_) (a' := ?_) #[true, true, true, true, true, true, true, true, true, true, false] rfl rfl (any_of HT_.out (by kernel_rfl)) (fun _ _ _ h => h) (Or.inl ⟨by rfl, ?_⟩) ?_ ?_
                      rotate_left
                      · intro w'
                        go_simp
                        with_reducible rfl
                      rotate_left
                      · simp only [Act.put, List.setIfInBounds_toArray, List.set_cons_zero, List.set_cons_succ, i64_w, i32_w]
                        rfl
                      refine last_ (i := 10) (N := none) #[true, true, true, true, true, true, true, true, true, true, true] rfl rfl (one_of HT_.out (by kernel_rfl)) (by decide) (fun K hK => ?_)
                      have hs76 : w74.cell? ⟨gb162, 3, none⟩ = some (.slice none 0 0) := (blk_cell BK162.out 3).trans rfl
                      have hfs76 := blk_frozen BK162.out 3
                      have hns76_0 := NB141_162.out
                      have hns76_1 := NB142_162.out
                      have hns76_2 := NB143_162.out
                      have hms76_0 := NB162_141.out
                      have hms76_1 := NB162_142.out
                      have hms76_2 := NB162_143.out
                      refine skip_ (w1 := ?_) (by rfl) rfl ?_ ?_
                      rotate_left
                      · go_simp
                        rfl
                      refine hK.out _ _ ?_
                      clear hK K
                      refine done_ (done_of HT_.out (by kernel_rfl)) ?_
                      have n0_ : Aside0 (Kd.R (Kd.int .i64) 2 (w74.setCell ⟨gb162, 3, none⟩ (.slice Ao75 y164.length co75)) w.heap.size (fun k_ => some k_ ≠ (.slice Ao75 y164.length co75 : Value).ownBlock) (.slice Ao13 y144.length co13) y144) := ⟨by (with_reducible repeat (first | apply Kd.R_alloc | apply Kd.R_drewN | apply Kd.R_drew)); exact Kd.R_mono (Kd.R_far (p := ⟨gb162, 3, none⟩) (Kd.R_types HO_144000.out BK162.out (by decide)) (fun _ hk => hk.2) (.slice Ao75 y164.length co75)) (fun _ hk => hk.1.2)⟩
                      have n1_ : Aside0 (Kd.R k27 27 (w74.setCell ⟨gb162, 3, none⟩ (.slice Ao75 y164.length co75)) w.heap.size (fun k_ => some k_ ≠ (.slice Ao13 y144.length co13 : Value).ownBlock ∧ some k_ ≠ (.slice Ao75 y164.length co75 : Value).ownBlock) u144001 x144001_1) := ⟨by (with_reducible repeat (first | apply Kd.R_alloc | apply Kd.R_drewN | apply Kd.R_drew)); exact Kd.R_mono (Kd.R_far (p := ⟨gb162, 3, none⟩) (Kd.R_types HO_144001.out BK162.out (by decide)) (fun _ hk => hk.2) (.slice Ao75 y164.length co75)) (fun _ hk => ⟨hk.1.1, hk.1.2⟩)⟩
                      have n2_ : Aside0 (Kd.S k62 62 (w74.setCell ⟨gb162, 3, none⟩ (.slice Ao75 y164.length co75)) w.heap.size (fun k_ => some k_ ≠ (.slice Ao13 y144.length co13 : Value).ownBlock ∧ some k_ ≠ (.slice Ao75 y164.length co75 : Value).ownBlock ∧ k_ ≠ gb162) u144002 x144002_2) := ⟨by (with_reducible repeat (first | apply Kd.S_alloc | apply Kd.S_drewN | apply Kd.S_drew)); exact Kd.S_mono (Kd.S_far (p := ⟨gb162, 3, none⟩) (Kd.S_mono HO_144002.out (fun k_ hk => (⟨hk, hk.1.2⟩ : _ ∧ k_ ≠ gb162))) (fun _ hk => hk.2) (.slice Ao75 y164.length co75)) (fun _ hk => ⟨hk.1.1.1, ⟨hk.1.2, hk.1.1.2⟩⟩)⟩
                      have n3_ : Aside0 (Kd.R (Kd.int .i64) 2 (w74.setCell ⟨gb162, 3, none⟩ (.slice Ao75 y164.length co75)) w.heap.size (fun k_ => some k_ ≠ (.slice Ao13 y144.length co13 : Value).ownBlock) (.slice Ao75 y164.length co75) y164) := ⟨by (with_reducible repeat (first | apply Kd.R_alloc | apply Kd.R_drewN | apply Kd.R_drew)); exact Kd.R_mono (Kd.R_far (p := ⟨gb162, 3, none⟩) (Kd.R_types HO166.out BK162.out (by decide)) (fun _ hk => hk.2) (.slice Ao75 y164.length co75)) (fun _ hk => hk.1)⟩
                      have n4_ : Aside0 ((w74.setCell ⟨gb162, 3, none⟩ (.slice Ao75 y164.length co75)).heap[gb141]? = some (.cells #[.slice A0_0 l0_0.length c0_0, .slice A0_1 l0_1.length c0_1, .slice (some ad161) l0_2.length c0_2, .int .i64 a0_3, .int .i64 a0_4, .int .i64 a0_5] 53 (0, 0))) := ⟨by (with_reducible repeat (first | refine blk_drewN ?_ _ | refine blk_drew ?_ | refine blk_alloc ?_ _)); refine blk_far ?_ NB141_162.out _; (with_reducible repeat (first | refine blk_drewN ?_ _ | refine blk_drew ?_ | refine blk_alloc ?_ _)); exact BK141.out⟩
                      have n5_ : Aside0 ((w74.setCell ⟨gb162, 3, none⟩ (.slice Ao75 y164.length co75)).heap[gb142]? = some (.cells #[.slice none 0 0, .slice none 0 0, .slice none 0 0, .int .i64 0, .int .i64 0, .int .i64 0] 53 (0, 0))) := ⟨by (with_reducible repeat (first | refine blk_drewN ?_ _ | refine blk_drew ?_ | refine blk_alloc ?_ _)); refine blk_far ?_ NB142_162.out _; (with_reducible repeat (first | refine blk_drewN ?_ _ | refine blk_drew ?_ | refine blk_alloc ?_ _)); exact BK142.out⟩
                      have n6_ : Aside0 ((w74.setCell ⟨gb162, 3, none⟩ (.slice Ao75 y164.length co75)).heap[gb143]? = some (.cells #[.slice Ao13 y144.length co13, u144001, u144002, .int .i64 a0_3, .int .i64 a0_4, .int .i64 a0_5] 53 (0, 0))) := ⟨by (with_reducible repeat (first | refine blk_drewN ?_ _ | refine blk_drew ?_ | refine blk_alloc ?_ _)); refine blk_far ?_ NB143_162.out _; (with_reducible repeat (first | refine blk_drewN ?_ _ | refine blk_drew ?_ | refine blk_alloc ?_ _)); exact BK143.out⟩
                      have n7_ : Aside0 ((w74.setCell ⟨gb162, 3, none⟩ (.slice Ao75 y164.length co75)).heap[gb162]? = some (.cells #[.int .i64 ((rd_T62 l0_2 x8_2).f0), .int .i64 ((rd_T62 l0_2 x8_2).f1), .int .i64 ((rd_T62 l0_2 x8_2).f2), .slice Ao75 y164.length co75] 62 (0, 0))) := ⟨by (with_reducible repeat (first | refine blk_drewN ?_ _ | refine blk_drew ?_ | refine blk_alloc ?_ _)); refine blk_put (cs := #[.int .i64 ((rd_T62 l0_2 x8_2).f0), .int .i64 ((rd_T62 l0_2 x8_2).f1), .int .i64 ((rd_T62 l0_2 x8_2).f2), .slice none 0 0]) ?_ 3 _ rfl; (with_reducible repeat (first | refine blk_drewN ?_ _ | refine blk_drew ?_ | refine blk_alloc ?_ _)); exact BK162.out⟩
                      have n8_ : Aside0 (Below w.heap.size w (w74.setCell ⟨gb162, 3, none⟩ (.slice Ao75 y164.length co75))) := ⟨by repeat (first | (with_reducible first | exact HB.out | apply below_alloc | apply pw_below_drewN | apply below_drew1 | refine below_set ?_ GE141.out | refine below_set ?_ GE142.out | refine below_set ?_ GE143.out | refine below_set ?_ GE162.out) | exact HB.out)⟩
                      (try clear HO_144000)
                      (try clear HO_144001)
                      (try clear HO_144002)
                      (try clear HO166)
                      (try clear BK141)
                      (try clear BK142)
                      (try clear BK143)
                      (try clear BK162)
                      (try clear HB)
                      generalize (w74.setCell ⟨gb162, 3, none⟩ (.slice Ao75 y164.length co75)) = w77 at n0_ n1_ n2_ n3_ n4_ n5_ n6_ n7_ n8_ ⊢
                      have HO_144000 := n0_
                      have HO_144001 := n1_
                      have HO_144002 := n2_
                      have HO166 := n3_
                      have BK141 := n4_
                      have BK142 := n5_
                      have BK143 := n6_
                      have BK162 := n7_
                      have HB := n8_
                      clear n0_ n1_ n2_ n3_ n4_ n5_ n6_ n7_ n8_
                      have hnb78 := NB143_142.out
                      have hnc78 := NB142_143.out
                      have hcz79_0 : w77.cell? ⟨gb143, 0, none⟩ = some (.slice Ao13 y144.length co13) := (blk_cell BK143.out 0).trans rfl
                      have hcz79_1 : w77.cell? ⟨gb143, 1, none⟩ = some (u144001) := (blk_cell BK143.out 1).trans rfl
                      have hcz79_2 : w77.cell? ⟨gb143, 2, none⟩ = some (u144002) := (blk_cell BK143.out 2).trans rfl
                      have hcz79_3 : w77.cell? ⟨gb143, 3, none⟩ = some (.int .i64 a0_3) := (blk_cell BK143.out 3).trans rfl
                      have hcz79_4 : w77.cell? ⟨gb143, 4, none⟩ = some (.int .i64 a0_4) := (blk_cell BK143.out 4).trans rfl
                      have hcz79_5 : w77.cell? ⟨gb143, 5, none⟩ = some (.int .i64 a0_5) := (blk_cell BK143.out 5).trans rfl
                      have hfz79_0 := blk_frozen BK143.out 0
                      have hfz79_1 := blk_frozen BK143.out 1
                      have hfz79_2 := blk_frozen BK143.out 2
                      have hfz79_3 := blk_frozen BK143.out 3
                      have hfz79_4 := blk_frozen BK143.out 4
                      have hfz79_5 := blk_frozen BK143.out 5
                      have hcz80_0 : w77.cell? ⟨gb162, 0, none⟩ = some (.int .i64 ((rd_T62 l0_2 x8_2).f0)) := (blk_cell BK162.out 0).trans rfl
                      have hcz80_1 : w77.cell? ⟨gb162, 1, none⟩ = some (.int .i64 ((rd_T62 l0_2 x8_2).f1)) := (blk_cell BK162.out 1).trans rfl
                      have hcz80_2 : w77.cell? ⟨gb162, 2, none⟩ = some (.int .i64 ((rd_T62 l0_2 x8_2).f2)) := (blk_cell BK162.out 2).trans rfl
                      have hcz80_3 : w77.cell? ⟨gb162, 3, none⟩ = some (.slice Ao75 y164.length co75) := (blk_cell BK162.out 3).trans rfl
                      have hfz80_0 := blk_frozen BK162.out 0
                      have hfz80_1 := blk_frozen BK162.out 1
                      have hfz80_2 := blk_frozen BK162.out 2
                      have hfz80_3 := blk_frozen BK162.out 3
                      try go_wp2_with (first | ((with_reducible refine gate_builtin (b := .append) (xs := #[.tmp 95, .tmp 97]) rfl ?_); at_builtin; refine Kd.S_append k62 (w0 := w) w.heap.size rfl (.tmp 95) (.tmp 97) 51 62 (.agg #[(.int .i64 0), (.int .i64 0), (.int .i64 0), (.slice none 0 0)]) 48 rfl Try.underlying51 info62 rfl (by decide) (by omega) u144002 x144002_2 (⟨(rd_T62 l0_2 x8_2).f0, (rd_T62 l0_2 x8_2).f1, (rd_T62 l0_2 x8_2).f2, y164⟩ : S62) [.int .i64 ((rd_T62 l0_2 x8_2).f0), .int .i64 ((rd_T62 l0_2 x8_2).f1), .int .i64 ((rd_T62 l0_2 x8_2).f2), .slice Ao75 y164.length co75] (fun k_ => some k_ ≠ (.slice Ao13 y144.length co13 : Value).ownBlock ∧ k_ ≠ gb162) (fun k_ => some k_ = (.slice Ao75 y164.length co75 : Value).ownBlock) rfl rfl ?aP (fun k_ hk_ => ((Kd.R_mono (ok' := fun k_ => ((fun k_ => some k_ ≠ (.slice Ao13 y144.length co13 : Value).ownBlock ∧ k_ ≠ gb162)) k_ ∧ some k_ ≠ (u144002 : Value).ownBlock) (Kd.R_types (Kd.R_apart' (HO166.out) (Kd.S_typed HO_144002.out) (by decide)) BK162.out (by decide)) (fun k_ hk => ⟨⟨hk.1.1, hk.2⟩, hk.1.2⟩))).1 k_ hk_.symm) ?aF ?aO ?aB ?aS ?aL ?_; (case aP => exact k62_mkM _ _ _ (⟨(rd_T62 l0_2 x8_2).f0, (rd_T62 l0_2 x8_2).f1, (rd_T62 l0_2 x8_2).f2, y164⟩ : S62) (Kd.R_mono (Kd.R_tight rfl (Kd.R_mono (ok' := fun k_ => ((fun k_ => some k_ ≠ (.slice Ao13 y144.length co13 : Value).ownBlock ∧ k_ ≠ gb162)) k_ ∧ some k_ ≠ (u144002 : Value).ownBlock) (Kd.R_types (Kd.R_apart' (HO166.out) (Kd.S_typed HO_144002.out) (by decide)) BK162.out (by decide)) (fun k_ hk => ⟨⟨hk.1.1, hk.2⟩, hk.1.2⟩))) (fun _ h_ => h_))); (case aB => exact (by repeat (first | (with_reducible first | exact HB.out | apply below_alloc | apply pw_below_drewN | apply below_drew1 | refine below_set ?_ GE141.out | refine below_set ?_ GE142.out | refine below_set ?_ GE143.out | refine below_set ?_ GE162.out) | exact HB.out))); (case aF => exact (fun k_ hk => ⟨Kd.fresh' (Kd.R_lt (by (with_reducible repeat (first | apply Kd.R_alloc | apply Kd.R_drewN | apply Kd.R_drew)); exact HO_144000.out)) k_ hk, Kd.freshB (g := gb162) (o := .cells #[.int .i64 ((rd_T62 l0_2 x8_2).f0), .int .i64 ((rd_T62 l0_2 x8_2).f1), .int .i64 ((rd_T62 l0_2 x8_2).f2), .slice Ao75 y164.length co75] 62 (0, 0)) (by (with_reducible repeat (first | refine blk_drewN ?_ _ | refine blk_drew ?_ | refine blk_alloc ?_ _)); exact BK162.out) k_ hk⟩)); (case aO => exact (by (with_reducible repeat (first | apply Kd.S_alloc | apply Kd.S_drewN | apply Kd.S_drew)); exact Kd.S_mono HO_144002.out (fun k_ hk => ⟨⟨hk.1, hk.2.2⟩, fun e_ => hk.2.1 e_⟩))); (case aS => exact (below_size (by repeat (first | (with_reducible first | exact HB.out | apply below_alloc | apply pw_below_drewN | apply below_drew1 | refine below_set ?_ GE141.out | refine below_set ?_ GE142.out | refine below_set ?_ GE143.out | refine below_set ?_ GE162.out) | exact HB.out)))); (case aL => have := LMc63.out; omega); intro v168 w81 ho hb hg hat; rw [← Ny167.out] at ho; have n0_ := Aside0.mk (Kd.R_over' (by (with_reducible repeat (first | apply Kd.R_alloc | apply Kd.R_drewN | apply Kd.R_drew)); exact HO_144000.out) (Kd.S_typed (by (with_reducible repeat (first | apply Kd.S_alloc | apply Kd.S_drewN | apply Kd.S_drew)); exact HO_144002.out)) (by decide) hg); have n1_ := Aside0.mk (Kd.R_over' (by (with_reducible repeat (first | apply Kd.R_alloc | apply Kd.R_drewN | apply Kd.R_drew)); exact HO_144001.out) (Kd.S_typed (by (with_reducible repeat (first | apply Kd.S_alloc | apply Kd.S_drewN | apply Kd.S_drew)); exact HO_144002.out)) (by decide) hg); have n2_ := Aside0.mk (blk_grown (g := gb141) (o := .cells #[.slice A0_0 l0_0.length c0_0, .slice A0_1 l0_1.length c0_1, .slice (some ad161) l0_2.length c0_2, .int .i64 a0_3, .int .i64 a0_4, .int .i64 a0_5] 53 (0, 0)) (by (with_reducible repeat (first | refine blk_drewN ?_ _ | refine blk_drew ?_ | refine blk_alloc ?_ _)); exact BK141.out) hg (Kd.S_ne HO_144002.out BK141.out (by decide))); have n3_ := Aside0.mk (blk_grown (g := gb142) (o := .cells #[.slice none 0 0, .slice none 0 0, .slice none 0 0, .int .i64 0, .int .i64 0, .int .i64 0] 53 (0, 0)) (by (with_reducible repeat (first | refine blk_drewN ?_ _ | refine blk_drew ?_ | refine blk_alloc ?_ _)); exact BK142.out) hg (Kd.S_ne HO_144002.out BK142.out (by decide))); have n4_ := Aside0.mk (blk_grown (g := gb143) (o := .cells #[.slice Ao13 y144.length co13, u144001, u144002, .int .i64 a0_3, .int .i64 a0_4, .int .i64 a0_5] 53 (0, 0)) (by (with_reducible repeat (first | refine blk_drewN ?_ _ | refine blk_drew ?_ | refine blk_alloc ?_ _)); exact BK143.out) hg (Kd.S_ne HO_144002.out BK143.out (by decide))); have n5_ := Aside0.mk (blk_grown (g := gb162) (o := .cells #[.int .i64 ((rd_T62 l0_2 x8_2).f0), .int .i64 ((rd_T62 l0_2 x8_2).f1), .int .i64 ((rd_T62 l0_2 x8_2).f2), .slice Ao75 y164.length co75] 62 (0, 0)) (by (with_reducible repeat (first | refine blk_drewN ?_ _ | refine blk_drew ?_ | refine blk_alloc ?_ _)); exact BK162.out) hg (Kd.S_away HO_144002.out (fun _ hk => hk.2.2))); have n6_ := Aside0.mk (hb); have n7_ := Aside0.mk (ho); clear HO_144000; clear HO_144001; clear BK141; clear BK142; clear BK143; clear BK162; clear HB; clear HO_144002; clear HO166; have HO_144000 := n0_; have HO_144001 := n1_; have BK141 := n2_; have BK142 := n3_; have BK143 := n4_; have BK162 := n5_; have HB := n6_; have HO169 := n7_; clear n0_ n1_ n2_ n3_ n4_ n5_ n6_ n7_; clear ho hb hg hat; obtain ⟨Ao82, co82, eo82⟩ := Kd.S_slice HO169.out; subst eo82; have hcz83_0 : w81.cell? ⟨gb143, 0, none⟩ = some (.slice Ao13 y144.length co13) := (blk_cell BK143.out 0).trans rfl; have hcz83_1 : w81.cell? ⟨gb143, 1, none⟩ = some (u144001) := (blk_cell BK143.out 1).trans rfl; have hcz83_2 : w81.cell? ⟨gb143, 2, none⟩ = some (u144002) := (blk_cell BK143.out 2).trans rfl; have hcz83_3 : w81.cell? ⟨gb143, 3, none⟩ = some (.int .i64 a0_3) := (blk_cell BK143.out 3).trans rfl; have hcz83_4 : w81.cell? ⟨gb143, 4, none⟩ = some (.int .i64 a0_4) := (blk_cell BK143.out 4).trans rfl; have hcz83_5 : w81.cell? ⟨gb143, 5, none⟩ = some (.int .i64 a0_5) := (blk_cell BK143.out 5).trans rfl; have hfz83_0 := blk_frozen BK143.out 0; have hfz83_1 := blk_frozen BK143.out 1; have hfz83_2 := blk_frozen BK143.out 2; have hfz83_3 := blk_frozen BK143.out 3; have hfz83_4 := blk_frozen BK143.out 4; have hfz83_5 := blk_frozen BK143.out 5))
                      go_roundg k2
                      case measure => have := HK1.out; have := HK2.out; omega
                      case rel => exact ⟨(wrap64 (x8_2 + 1)), (y167), (.slice Ao82 y167.length co82), (by first | rfl | (simp; done) | (simp [*]; done)), H', ⟨by have := HK1.out; have := HK2.out; omega⟩, ⟨by (with_reducible repeat (first | apply Kd.R_alloc | apply Kd.R_drewN | apply Kd.R_drew)); exact Kd.R_mono (Kd.R_far (p := ⟨gb143, 2, none⟩) (Kd.R_types HO_144000.out BK143.out (by decide)) (fun _ hk => hk.2) (.slice Ao82 y167.length co82)) (fun _ hk => trivial)⟩, ⟨by (with_reducible repeat (first | apply Kd.R_alloc | apply Kd.R_drewN | apply Kd.R_drew)); exact Kd.R_mono (Kd.R_far (p := ⟨gb143, 2, none⟩) (Kd.R_types HO_144001.out BK143.out (by decide)) (fun _ hk => hk.2) (.slice Ao82 y167.length co82)) (fun _ hk => hk.1.1)⟩, ⟨by (with_reducible repeat (first | apply Kd.S_alloc | apply Kd.S_drewN | apply Kd.S_drew)); exact Kd.S_mono (Kd.S_far (p := ⟨gb143, 2, none⟩) (Kd.S_types HO169.out BK143.out (by decide)) (fun _ hk => hk.2) (.slice Ao82 y167.length co82)) (fun _ hk => hk.1.1)⟩, ⟨by (with_reducible repeat (first | refine blk_drewN ?_ _ | refine blk_drew ?_ | refine blk_alloc ?_ _)); refine blk_far ?_ NB141_143.out _; (with_reducible repeat (first | refine blk_drewN ?_ _ | refine blk_drew ?_ | refine blk_alloc ?_ _)); exact BK141.out⟩, ⟨by (with_reducible repeat (first | refine blk_drewN ?_ _ | refine blk_drew ?_ | refine blk_alloc ?_ _)); refine blk_far ?_ NB142_143.out _; (with_reducible repeat (first | refine blk_drewN ?_ _ | refine blk_drew ?_ | refine blk_alloc ?_ _)); exact BK142.out⟩, ⟨by (with_reducible repeat (first | refine blk_drewN ?_ _ | refine blk_drew ?_ | refine blk_alloc ?_ _)); refine blk_put (cs := #[.slice Ao13 y144.length co13, u144001, u144002, .int .i64 a0_3, .int .i64 a0_4, .int .i64 a0_5]) ?_ 2 _ rfl; (with_reducible repeat (first | refine blk_drewN ?_ _ | refine blk_drew ?_ | refine blk_alloc ?_ _)); exact BK143.out⟩, ⟨by repeat (first | (with_reducible first | exact HB.out | apply below_alloc | apply pw_below_drewN | apply below_drew1 | refine below_set ?_ GE141.out | refine below_set ?_ GE142.out | refine below_set ?_ GE143.out | refine below_set ?_ GE162.out) | exact HB.out)⟩⟩
                    · rw [if_neg c63] at H
                      exact absurd H (by simp)
                  · rw [if_neg c62] at H
                    exact absurd H (by simp)
                · rw [if_neg c61] at H
                  exact absurd H (by simp)
              · rw [if_neg c60] at H
                have c60b0 : decide (x8_2 < (l0_2.length : Int)) = false := decide_eq_false c60
                clear c60
                simp only [Option.some.injEq, Prod.mk.injEq] at H
                obtain ⟨rfl, rfl, rfl, rfl, rfl, rfl⟩ := H
                have hnb84 := NB141_142.out
                have hnc84 := NB142_141.out
                have hnb85 := NB141_143.out
                have hnc85 := NB143_141.out
                have hcz86_0 : wr.cell? ⟨gb141, 0, none⟩ = some (.slice A0_0 l0_0.length c0_0) := (blk_cell BK141.out 0).trans rfl
                have hcz86_1 : wr.cell? ⟨gb141, 1, none⟩ = some (.slice A0_1 l0_1.length c0_1) := (blk_cell BK141.out 1).trans rfl
                have hcz86_2 : wr.cell? ⟨gb141, 2, none⟩ = some (.slice A0_2 l0_2.length c0_2) := (blk_cell BK141.out 2).trans rfl
                have hcz86_3 : wr.cell? ⟨gb141, 3, none⟩ = some (.int .i64 a0_3) := (blk_cell BK141.out 3).trans rfl
                have hcz86_4 : wr.cell? ⟨gb141, 4, none⟩ = some (.int .i64 a0_4) := (blk_cell BK141.out 4).trans rfl
                have hcz86_5 : wr.cell? ⟨gb141, 5, none⟩ = some (.int .i64 a0_5) := (blk_cell BK141.out 5).trans rfl
                have hfz86_0 := blk_frozen BK141.out 0
                have hfz86_1 := blk_frozen BK141.out 1
                have hfz86_2 := blk_frozen BK141.out 2
                have hfz86_3 := blk_frozen BK141.out 3
                have hfz86_4 := blk_frozen BK141.out 4
                have hfz86_5 := blk_frozen BK141.out 5
                have hnb87 := NB143_142.out
                have hnc87 := NB142_143.out
                have hcz88_0 : wr.cell? ⟨gb143, 0, none⟩ = some (.slice Ao13 y144.length co13) := (blk_cell BK143.out 0).trans rfl
                have hcz88_1 : wr.cell? ⟨gb143, 1, none⟩ = some (u144001) := (blk_cell BK143.out 1).trans rfl
                have hcz88_2 : wr.cell? ⟨gb143, 2, none⟩ = some (u144002) := (blk_cell BK143.out 2).trans rfl
                have hcz88_3 : wr.cell? ⟨gb143, 3, none⟩ = some (.int .i64 a0_3) := (blk_cell BK143.out 3).trans rfl
                have hcz88_4 : wr.cell? ⟨gb143, 4, none⟩ = some (.int .i64 a0_4) := (blk_cell BK143.out 4).trans rfl
                have hcz88_5 : wr.cell? ⟨gb143, 5, none⟩ = some (.int .i64 a0_5) := (blk_cell BK143.out 5).trans rfl
                have hfz88_0 := blk_frozen BK143.out 0
                have hfz88_1 := blk_frozen BK143.out 1
                have hfz88_2 := blk_frozen BK143.out 2
                have hfz88_3 := blk_frozen BK143.out 3
                have hfz88_4 := blk_frozen BK143.out 4
                have hfz88_5 := blk_frozen BK143.out 5
                have hcz89_0 : wr.cell? ⟨gb142, 0, none⟩ = some (.slice none 0 0) := (blk_cell BK142.out 0).trans rfl
                have hcz89_1 : wr.cell? ⟨gb142, 1, none⟩ = some (.slice none 0 0) := (blk_cell BK142.out 1).trans rfl
                have hcz89_2 : wr.cell? ⟨gb142, 2, none⟩ = some (.slice none 0 0) := (blk_cell BK142.out 2).trans rfl
                have hcz89_3 : wr.cell? ⟨gb142, 3, none⟩ = some (.int .i64 0) := (blk_cell BK142.out 3).trans rfl
                have hcz89_4 : wr.cell? ⟨gb142, 4, none⟩ = some (.int .i64 0) := (blk_cell BK142.out 4).trans rfl
                have hcz89_5 : wr.cell? ⟨gb142, 5, none⟩ = some (.int .i64 0) := (blk_cell BK142.out 5).trans rfl
                have hfz89_0 := blk_frozen BK142.out 0
                have hfz89_1 := blk_frozen BK142.out 1
                have hfz89_2 := blk_frozen BK142.out 2
                have hfz89_3 := blk_frozen BK142.out 3
                have hfz89_4 := blk_frozen BK142.out 4
                have hfz89_5 := blk_frozen BK142.out 5
                obtain ⟨Ao90, co90, eo90⟩ := Kd.R_slice HO_144001.out
                subst eo90
                obtain ⟨Ao91, co91, eo91⟩ := Kd.S_slice HO_144002.out
                subst eo91
                go_wp2
                refine bodyPost_ret (results_cell_row rfl _ _ gb142 53 #[.slice Ao13 y144.length co13, .slice Ao90 x144001_1.length co90, .slice Ao91 x144002_2.length co91, .int .i64 a0_3, .int .i64 a0_4, .int .i64 a0_5] (0, 0) _ rfl (by (with_reducible repeat (first | refine blk_drewN ?_ _ | refine blk_drew ?_ | refine blk_alloc ?_ _)); refine blk_put (cs := #[.slice Ao13 y144.length co13, .slice Ao90 x144001_1.length co90, .slice Ao91 x144002_2.length co91, .int .i64 a0_3, .int .i64 a0_4, .int .i64 0]) ?_ 5 _ rfl; (with_reducible repeat (first | refine blk_drewN ?_ _ | refine blk_drew ?_ | refine blk_alloc ?_ _)); refine blk_put (cs := #[.slice Ao13 y144.length co13, .slice Ao90 x144001_1.length co90, .slice Ao91 x144002_2.length co91, .int .i64 a0_3, .int .i64 0, .int .i64 0]) ?_ 4 _ rfl; (with_reducible repeat (first | refine blk_drewN ?_ _ | refine blk_drew ?_ | refine blk_alloc ?_ _)); refine blk_put (cs := #[.slice Ao13 y144.length co13, .slice Ao90 x144001_1.length co90, .slice Ao91 x144002_2.length co91, .int .i64 0, .int .i64 0, .int .i64 0]) ?_ 3 _ rfl; (with_reducible repeat (first | refine blk_drewN ?_ _ | refine blk_drew ?_ | refine blk_alloc ?_ _)); refine blk_put (cs := #[.slice Ao13 y144.length co13, .slice Ao90 x144001_1.length co90, .slice none 0 0, .int .i64 0, .int .i64 0, .int .i64 0]) ?_ 2 _ rfl; (with_reducible repeat (first | refine blk_drewN ?_ _ | refine blk_drew ?_ | refine blk_alloc ?_ _)); refine blk_put (cs := #[.slice Ao13 y144.length co13, .slice none 0 0, .slice none 0 0, .int .i64 0, .int .i64 0, .int .i64 0]) ?_ 1 _ rfl; (with_reducible repeat (first | refine blk_drewN ?_ _ | refine blk_drew ?_ | refine blk_alloc ?_ _)); refine blk_put (cs := #[.slice none 0 0, .slice none 0 0, .slice none 0 0, .int .i64 0, .int .i64 0, .int .i64 0]) ?_ 0 _ rfl; (with_reducible repeat (first | refine blk_drewN ?_ _ | refine blk_drew ?_ | refine blk_alloc ?_ _)); exact BK142.out) Try.underlying53 rfl (by kernel_rfl)) rfl ?_
                exact ⟨_, _, _, by first | rfl | (simp [errW_none, errW_some] <;> rfl) | (simp [*, errW_none, errW_some] <;> rfl), by (with_reducible repeat (first | apply Kd.R_alloc | apply Kd.R_drewN | apply Kd.R_drew)); exact Kd.R_mono (Kd.R_far (p := ⟨gb142, 5, none⟩) (Kd.R_far (p := ⟨gb142, 4, none⟩) (Kd.R_far (p := ⟨gb142, 3, none⟩) (Kd.R_far (p := ⟨gb142, 2, none⟩) (Kd.R_far (p := ⟨gb142, 1, none⟩) (Kd.R_far (p := ⟨gb142, 0, none⟩) (Kd.R_types HO_144000.out BK142.out (by decide)) (fun _ hk => hk.2) (.slice Ao13 y144.length co13)) (fun _ hk => hk.2) (.slice Ao90 x144001_1.length co90)) (fun _ hk => hk.2) (.slice Ao91 x144002_2.length co91)) (fun _ hk => hk.2) (.int .i64 a0_3)) (fun _ hk => hk.2) (.int .i64 a0_4)) (fun _ hk => hk.2) (.int .i64 a0_5)) (fun _ hk => trivial), by (with_reducible repeat (first | apply Kd.R_alloc | apply Kd.R_drewN | apply Kd.R_drew)); exact Kd.R_mono (Kd.R_far (p := ⟨gb142, 5, none⟩) (Kd.R_far (p := ⟨gb142, 4, none⟩) (Kd.R_far (p := ⟨gb142, 3, none⟩) (Kd.R_far (p := ⟨gb142, 2, none⟩) (Kd.R_far (p := ⟨gb142, 1, none⟩) (Kd.R_far (p := ⟨gb142, 0, none⟩) (Kd.R_types HO_144001.out BK142.out (by decide)) (fun _ hk => hk.2) (.slice Ao13 y144.length co13)) (fun _ hk => hk.2) (.slice Ao90 x144001_1.length co90)) (fun _ hk => hk.2) (.slice Ao91 x144002_2.length co91)) (fun _ hk => hk.2) (.int .i64 a0_3)) (fun _ hk => hk.2) (.int .i64 a0_4)) (fun _ hk => hk.2) (.int .i64 a0_5)) (fun _ hk => hk.1), by (with_reducible repeat (first | apply Kd.S_alloc | apply Kd.S_drewN | apply Kd.S_drew)); exact Kd.S_mono (Kd.S_far (p := ⟨gb142, 5, none⟩) (Kd.S_far (p := ⟨gb142, 4, none⟩) (Kd.S_far (p := ⟨gb142, 3, none⟩) (Kd.S_far (p := ⟨gb142, 2, none⟩) (Kd.S_far (p := ⟨gb142, 1, none⟩) (Kd.S_far (p := ⟨gb142, 0, none⟩) (Kd.S_types HO_144002.out BK142.out (by decide)) (fun _ hk => hk.2) (.slice Ao13 y144.length co13)) (fun _ hk => hk.2) (.slice Ao90 x144001_1.length co90)) (fun _ hk => hk.2) (.slice Ao91 x144002_2.length co91)) (fun _ hk => hk.2) (.int .i64 a0_3)) (fun _ hk => hk.2) (.int .i64 a0_4)) (fun _ hk => hk.2) (.int .i64 a0_5)) (fun _ hk => hk.1), by repeat (first | (with_reducible first | exact HB.out | apply below_alloc | apply pw_below_drewN | apply below_drew1 | refine below_set ?_ GE141.out | refine below_set ?_ GE142.out | refine below_set ?_ GE143.out) | exact HB.out)⟩
  · rw [if_neg c2] at H
    exact absurd H (by simp)

end Go.Proofs.Ytieijoclahcipaa.PChansPut
