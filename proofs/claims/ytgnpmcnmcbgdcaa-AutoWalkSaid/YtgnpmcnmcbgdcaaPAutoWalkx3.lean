-- PRINTED BY print.sh 35421559b90ae4d0a3588c463048766b98c2df88dd9212a6774a882060cdf62d: not written by this session
import Derived.Test.YtgnpmcnmcbgdcaaPAutoWalkx0
import Derived.Test.YtgnpmcnmcbgdcaaPAutoWalkx2
namespace Go.Proofs.Ytgnpmcnmcbgdcaa.PAutoWalk
open Go.RowKit Go.Proofs.YtgnpmcnmcbgdcaaW.PrintWords Go.Proofs.YtgnpmcnmcbgdcaaW.PrintLast Go.Proofs.YtgnpmcnmcbgdcaaW.PrintMore
attribute [local go_sem] max2_int min2_int max_two min_two max_three min_three max_four min_four   -- for this text's walks alone
set_option linter.unusedVariables false
set_option linter.unusedSimpArgs false

/-! ### spinneretref09_fits: function 16 -/
mutual
def spinneretref09_fits.j0 : Nat → List Int → Bool → ByteArray → Int → List (S62) → List Int → List (S36) → Int → Int → Int → Int → Int → Option (Bool)
  | 0, _, _, _, _, _, _, _, _, _, _, _, _ => none
  | k + 1, x1, x5, x114000, x114001, x114002, x114003, x114004, x114005, x114006, x114007, x114008, x114009 => spinneretref09_fits.l0 k x1 x5 0 x114000 x114001 x114002 x114003 x114004 x114005 x114006 x114007 x114008 x114009
def spinneretref09_fits.l0 : Nat → List Int → Bool → Int → ByteArray → Int → List (S62) → List Int → List (S36) → Int → Int → Int → Int → Int → Option (Bool)
  | 0, _, _, _, _, _, _, _, _, _, _, _, _, _ => none
  | k + 1, x1, x5, x6, x114000, x114001, x114002, x114003, x114004, x114005, x114006, x114007, x114008, x114009 => if x6 < (x1.length : Int) then (if 0 ≤ x6 then ((spinneretref09_inside.f x114000 x114001 x114002 x114003 x114004 x114005 x114006 x114007 x114008 x114009 (rd x1 x6)).bind fun t117 => (if x5 = true then (spinneretref09_fits.l0 k x1 t117 (wrap64 (x6 + 1)) x114000 x114001 x114002 x114003 x114004 x114005 x114006 x114007 x114008 x114009) else (spinneretref09_fits.l0 k x1 false (wrap64 (x6 + 1)) x114000 x114001 x114002 x114003 x114004 x114005 x114006 x114007 x114008 x114009))) else (none)) else (spinneretref09_fits.l1 k x5 0 x114000 x114001 x114002 x114003 x114004 x114005 x114006 x114007 x114008 x114009)
def spinneretref09_fits.l1 : Nat → Bool → Int → ByteArray → Int → List (S62) → List Int → List (S36) → Int → Int → Int → Int → Int → Option (Bool)
  | 0, _, _, _, _, _, _, _, _, _, _, _, _ => none
  | k + 1, x5, x8, x114000, x114001, x114002, x114003, x114004, x114005, x114006, x114007, x114008, x114009 => if x8 < (x114004.length : Int) then (if 0 ≤ x8 then ((spinneretref09_lists.f ((rd_T36 x114004 x8).f0) ((rd_T36 x114004 x8).f1) ((rd_T36 x114004 x8).f2) ((rd_T36 x114004 x8).f3) ((rd_T36 x114004 x8).f4) ((rd_T36 x114004 x8).f5) ((rd_T36 x114004 x8).f6)).bind fun t119 => (spinneretref09_fits.l2 k x5 x8 t119 0 x114000 x114001 x114002 x114003 x114004 x114005 x114006 x114007 x114008 x114009)) else (none)) else (some x5)
def spinneretref09_fits.l2 : Nat → Bool → Int → List (List (S40)) → Int → ByteArray → Int → List (S62) → List Int → List (S36) → Int → Int → Int → Int → Int → Option (Bool)
  | 0, _, _, _, _, _, _, _, _, _, _, _, _, _, _ => none
  | k + 1, x5, x8, x9, x10, x114000, x114001, x114002, x114003, x114004, x114005, x114006, x114007, x114008, x114009 => if x10 < (x9.length : Int) then (spinneretref09_fits.l3 k x5 x8 x9 x10 0 x114000 x114001 x114002 x114003 x114004 x114005 x114006 x114007 x114008 x114009) else (spinneretref09_fits.l1 k x5 (wrap64 (x8 + 1)) x114000 x114001 x114002 x114003 x114004 x114005 x114006 x114007 x114008 x114009)
def spinneretref09_fits.l3 : Nat → Bool → Int → List (List (S40)) → Int → Int → ByteArray → Int → List (S62) → List Int → List (S36) → Int → Int → Int → Int → Int → Option (Bool)
  | 0, _, _, _, _, _, _, _, _, _, _, _, _, _, _, _ => none
  | k + 1, x5, x8, x9, x10, x11, x114000, x114001, x114002, x114003, x114004, x114005, x114006, x114007, x114008, x114009 => if 0 ≤ x10 then (if x10 < (x9.length : Int) then (if x11 < ((rd_L5 x9 x10).length : Int) then (if 0 ≤ x11 then ((spinneretref09_inside.f x114000 x114001 x114002 x114003 x114004 x114005 x114006 x114007 x114008 x114009 ((rd_T40 (rd_L5 x9 x10) x11).f1)).bind fun t125 => (if x5 = true then (spinneretref09_fits.l3 k t125 x8 x9 x10 (wrap64 (x11 + 1)) x114000 x114001 x114002 x114003 x114004 x114005 x114006 x114007 x114008 x114009) else (spinneretref09_fits.l3 k false x8 x9 x10 (wrap64 (x11 + 1)) x114000 x114001 x114002 x114003 x114004 x114005 x114006 x114007 x114008 x114009))) else (none)) else (spinneretref09_fits.l2 k x5 x8 x9 (wrap64 (x10 + 1)) x114000 x114001 x114002 x114003 x114004 x114005 x114006 x114007 x114008 x114009)) else (none)) else (none)
end
def spinneretref09_fits.f (k : Nat) (a0_0 : ByteArray) (a0_1 : Int) (l0_2 : List (S62)) (l0_3 : List Int) (l0_4 : List (S36)) (a0_5 : Int) (a0_6 : Int) (a0_7 : Int) (a0_8 : Int) (a0_9 : Int) (l1 : List Int) : Option (Bool) := (spinneretref09_inside.f a0_0 a0_1 l0_2 l0_3 l0_4 a0_5 a0_6 a0_7 a0_8 a0_9 a0_5).bind fun t114 => (if t114 = true then ((spinneretref09_inside.f a0_0 a0_1 l0_2 l0_3 l0_4 a0_5 a0_6 a0_7 a0_8 a0_9 a0_6).bind fun t115 => (spinneretref09_fits.j0 k l1 t115 a0_0 a0_1 l0_2 l0_3 l0_4 a0_5 a0_6 a0_7 a0_8 a0_9)) else (spinneretref09_fits.j0 k l1 false a0_0 a0_1 l0_2 l0_3 l0_4 a0_5 a0_6 a0_7 a0_8 a0_9))
theorem spinneretref09_fits.mono_l : ∀ k, (∀ y0 y1 y2 y3 y4 y5 y6 y7 y8 y9 y10 y11, LeO (spinneretref09_fits.j0 k y0 y1 y2 y3 y4 y5 y6 y7 y8 y9 y10 y11) (spinneretref09_fits.j0 (k + 1) y0 y1 y2 y3 y4 y5 y6 y7 y8 y9 y10 y11)) ∧ (∀ y0 y1 y2 y3 y4 y5 y6 y7 y8 y9 y10 y11 y12, LeO (spinneretref09_fits.l0 k y0 y1 y2 y3 y4 y5 y6 y7 y8 y9 y10 y11 y12) (spinneretref09_fits.l0 (k + 1) y0 y1 y2 y3 y4 y5 y6 y7 y8 y9 y10 y11 y12)) ∧ (∀ y0 y1 y2 y3 y4 y5 y6 y7 y8 y9 y10 y11, LeO (spinneretref09_fits.l1 k y0 y1 y2 y3 y4 y5 y6 y7 y8 y9 y10 y11) (spinneretref09_fits.l1 (k + 1) y0 y1 y2 y3 y4 y5 y6 y7 y8 y9 y10 y11)) ∧ (∀ y0 y1 y2 y3 y4 y5 y6 y7 y8 y9 y10 y11 y12 y13, LeO (spinneretref09_fits.l2 k y0 y1 y2 y3 y4 y5 y6 y7 y8 y9 y10 y11 y12 y13) (spinneretref09_fits.l2 (k + 1) y0 y1 y2 y3 y4 y5 y6 y7 y8 y9 y10 y11 y12 y13)) ∧ (∀ y0 y1 y2 y3 y4 y5 y6 y7 y8 y9 y10 y11 y12 y13 y14, LeO (spinneretref09_fits.l3 k y0 y1 y2 y3 y4 y5 y6 y7 y8 y9 y10 y11 y12 y13 y14) (spinneretref09_fits.l3 (k + 1) y0 y1 y2 y3 y4 y5 y6 y7 y8 y9 y10 y11 y12 y13 y14))
  | 0 => ⟨fun _ _ _ _ _ _ _ _ _ _ _ _ r h => by simp [spinneretref09_fits.j0] at h, fun _ _ _ _ _ _ _ _ _ _ _ _ _ r h => by simp [spinneretref09_fits.l0] at h, fun _ _ _ _ _ _ _ _ _ _ _ _ r h => by simp [spinneretref09_fits.l1] at h, fun _ _ _ _ _ _ _ _ _ _ _ _ _ _ r h => by simp [spinneretref09_fits.l2] at h, fun _ _ _ _ _ _ _ _ _ _ _ _ _ _ _ r h => by simp [spinneretref09_fits.l3] at h⟩
  | k + 1 => by
    obtain ⟨ih0, ih1, ih2, ih3, ih4⟩ := spinneretref09_fits.mono_l k
    refine ⟨?_, ?_, ?_, ?_, ?_⟩
    · intro y0 y1 y2 y3 y4 y5 y6 y7 y8 y9 y10 y11
      unfold spinneretref09_fits.j0
      repeat' first
      | (with_reducible exact ih0 _ _ _ _ _ _ _ _ _ _ _ _)
      | (with_reducible exact ih1 _ _ _ _ _ _ _ _ _ _ _ _ _)
      | (with_reducible exact ih2 _ _ _ _ _ _ _ _ _ _ _ _)
      | (with_reducible exact ih3 _ _ _ _ _ _ _ _ _ _ _ _ _ _)
      | (with_reducible exact ih4 _ _ _ _ _ _ _ _ _ _ _ _ _ _ _)
      | (with_reducible exact LeO.refl _)
      | (with_reducible exact LeO.none _)
      | (with_reducible refine LeO.ite ?_ ?_)
      | (with_reducible refine LeO.bind ?_ (fun _ => ?_))
      | exact ih0 _ _ _ _ _ _ _ _ _ _ _ _
      | exact ih1 _ _ _ _ _ _ _ _ _ _ _ _ _
      | exact ih2 _ _ _ _ _ _ _ _ _ _ _ _
      | exact ih3 _ _ _ _ _ _ _ _ _ _ _ _ _ _
      | exact ih4 _ _ _ _ _ _ _ _ _ _ _ _ _ _ _
      | exact LeO.none _
      | refine LeO.ite ?_ ?_
      | refine LeO.bind ?_ (fun _ => ?_)
    · intro y0 y1 y2 y3 y4 y5 y6 y7 y8 y9 y10 y11 y12
      unfold spinneretref09_fits.l0
      repeat' first
      | (with_reducible exact ih0 _ _ _ _ _ _ _ _ _ _ _ _)
      | (with_reducible exact ih1 _ _ _ _ _ _ _ _ _ _ _ _ _)
      | (with_reducible exact ih2 _ _ _ _ _ _ _ _ _ _ _ _)
      | (with_reducible exact ih3 _ _ _ _ _ _ _ _ _ _ _ _ _ _)
      | (with_reducible exact ih4 _ _ _ _ _ _ _ _ _ _ _ _ _ _ _)
      | (with_reducible exact LeO.refl _)
      | (with_reducible exact LeO.none _)
      | (with_reducible refine LeO.ite ?_ ?_)
      | (with_reducible refine LeO.bind ?_ (fun _ => ?_))
      | exact ih0 _ _ _ _ _ _ _ _ _ _ _ _
      | exact ih1 _ _ _ _ _ _ _ _ _ _ _ _ _
      | exact ih2 _ _ _ _ _ _ _ _ _ _ _ _
      | exact ih3 _ _ _ _ _ _ _ _ _ _ _ _ _ _
      | exact ih4 _ _ _ _ _ _ _ _ _ _ _ _ _ _ _
      | exact LeO.none _
      | refine LeO.ite ?_ ?_
      | refine LeO.bind ?_ (fun _ => ?_)
    · intro y0 y1 y2 y3 y4 y5 y6 y7 y8 y9 y10 y11
      unfold spinneretref09_fits.l1
      repeat' first
      | (with_reducible exact ih0 _ _ _ _ _ _ _ _ _ _ _ _)
      | (with_reducible exact ih1 _ _ _ _ _ _ _ _ _ _ _ _ _)
      | (with_reducible exact ih2 _ _ _ _ _ _ _ _ _ _ _ _)
      | (with_reducible exact ih3 _ _ _ _ _ _ _ _ _ _ _ _ _ _)
      | (with_reducible exact ih4 _ _ _ _ _ _ _ _ _ _ _ _ _ _ _)
      | (with_reducible exact LeO.refl _)
      | (with_reducible exact LeO.none _)
      | (with_reducible refine LeO.ite ?_ ?_)
      | (with_reducible refine LeO.bind ?_ (fun _ => ?_))
      | exact ih0 _ _ _ _ _ _ _ _ _ _ _ _
      | exact ih1 _ _ _ _ _ _ _ _ _ _ _ _ _
      | exact ih2 _ _ _ _ _ _ _ _ _ _ _ _
      | exact ih3 _ _ _ _ _ _ _ _ _ _ _ _ _ _
      | exact ih4 _ _ _ _ _ _ _ _ _ _ _ _ _ _ _
      | exact LeO.none _
      | refine LeO.ite ?_ ?_
      | refine LeO.bind ?_ (fun _ => ?_)
    · intro y0 y1 y2 y3 y4 y5 y6 y7 y8 y9 y10 y11 y12 y13
      unfold spinneretref09_fits.l2
      repeat' first
      | (with_reducible exact ih0 _ _ _ _ _ _ _ _ _ _ _ _)
      | (with_reducible exact ih1 _ _ _ _ _ _ _ _ _ _ _ _ _)
      | (with_reducible exact ih2 _ _ _ _ _ _ _ _ _ _ _ _)
      | (with_reducible exact ih3 _ _ _ _ _ _ _ _ _ _ _ _ _ _)
      | (with_reducible exact ih4 _ _ _ _ _ _ _ _ _ _ _ _ _ _ _)
      | (with_reducible exact LeO.refl _)
      | (with_reducible exact LeO.none _)
      | (with_reducible refine LeO.ite ?_ ?_)
      | (with_reducible refine LeO.bind ?_ (fun _ => ?_))
      | exact ih0 _ _ _ _ _ _ _ _ _ _ _ _
      | exact ih1 _ _ _ _ _ _ _ _ _ _ _ _ _
      | exact ih2 _ _ _ _ _ _ _ _ _ _ _ _
      | exact ih3 _ _ _ _ _ _ _ _ _ _ _ _ _ _
      | exact ih4 _ _ _ _ _ _ _ _ _ _ _ _ _ _ _
      | exact LeO.none _
      | refine LeO.ite ?_ ?_
      | refine LeO.bind ?_ (fun _ => ?_)
    · intro y0 y1 y2 y3 y4 y5 y6 y7 y8 y9 y10 y11 y12 y13 y14
      unfold spinneretref09_fits.l3
      repeat' first
      | (with_reducible exact ih0 _ _ _ _ _ _ _ _ _ _ _ _)
      | (with_reducible exact ih1 _ _ _ _ _ _ _ _ _ _ _ _ _)
      | (with_reducible exact ih2 _ _ _ _ _ _ _ _ _ _ _ _)
      | (with_reducible exact ih3 _ _ _ _ _ _ _ _ _ _ _ _ _ _)
      | (with_reducible exact ih4 _ _ _ _ _ _ _ _ _ _ _ _ _ _ _)
      | (with_reducible exact LeO.refl _)
      | (with_reducible exact LeO.none _)
      | (with_reducible refine LeO.ite ?_ ?_)
      | (with_reducible refine LeO.bind ?_ (fun _ => ?_))
      | exact ih0 _ _ _ _ _ _ _ _ _ _ _ _
      | exact ih1 _ _ _ _ _ _ _ _ _ _ _ _ _
      | exact ih2 _ _ _ _ _ _ _ _ _ _ _ _
      | exact ih3 _ _ _ _ _ _ _ _ _ _ _ _ _ _
      | exact ih4 _ _ _ _ _ _ _ _ _ _ _ _ _ _ _
      | exact LeO.none _
      | refine LeO.ite ?_ ?_
      | refine LeO.bind ?_ (fun _ => ?_)
theorem spinneretref09_fits.mono : ∀ a0 a1 a2 a3 a4 a5 a6 a7 a8 a9 a10 k, LeO (spinneretref09_fits.f k a0 a1 a2 a3 a4 a5 a6 a7 a8 a9 a10) (spinneretref09_fits.f (k + 1) a0 a1 a2 a3 a4 a5 a6 a7 a8 a9 a10) := by
  intro a0 a1 a2 a3 a4 a5 a6 a7 a8 a9 a10 k
  obtain ⟨ih0, ih1, ih2, ih3, ih4⟩ := spinneretref09_fits.mono_l k
  unfold spinneretref09_fits.f
  repeat' first
      | (with_reducible exact ih0 _ _ _ _ _ _ _ _ _ _ _ _)
      | (with_reducible exact ih1 _ _ _ _ _ _ _ _ _ _ _ _ _)
      | (with_reducible exact ih2 _ _ _ _ _ _ _ _ _ _ _ _)
      | (with_reducible exact ih3 _ _ _ _ _ _ _ _ _ _ _ _ _ _)
      | (with_reducible exact ih4 _ _ _ _ _ _ _ _ _ _ _ _ _ _ _)
      | (with_reducible exact LeO.refl _)
      | (with_reducible exact LeO.none _)
      | (with_reducible refine LeO.ite ?_ ?_)
      | (with_reducible refine LeO.bind ?_ (fun _ => ?_))
      | exact ih0 _ _ _ _ _ _ _ _ _ _ _ _
      | exact ih1 _ _ _ _ _ _ _ _ _ _ _ _ _
      | exact ih2 _ _ _ _ _ _ _ _ _ _ _ _
      | exact ih3 _ _ _ _ _ _ _ _ _ _ _ _ _ _
      | exact ih4 _ _ _ _ _ _ _ _ _ _ _ _ _ _ _
      | exact LeO.none _
      | refine LeO.ite ?_ ?_
      | refine LeO.bind ?_ (fun _ => ?_)
def spinneretref09_fits.T17 : Bool × List (List Nat × List Nat) := (true, [([], []), ([], []), ([], []), ([1, 2], [1, 2]), ([3], [3]), ([], []), ([4, 5], [4, 5]), ([6], [6]), ([7], [7]), ([0, 8], [0, 8]), ([9, 9, 0, 1, 2, 3, 4, 5, 6, 7, 8, 9], [9])])
def spinneretref09_fits.B17 : List Nat := [0, 0, 0, 6, 14, 0, 62, 126, 254, 511, 1023]
theorem spinneretref09_fits.tab17 : rtab .any (opsOf Try.f16 17) = spinneretref09_fits.T17 := by kernel_rfl
theorem spinneretref09_fits.bits17 : waitsOk spinneretref09_fits.T17.2 spinneretref09_fits.B17 = true := by kernel_rfl
set_option maxHeartbeats 8000000 in
set_option maxRecDepth 100000 in
theorem spinneretref09_fits.calls (k : Nat) (a0_0 : ByteArray) (a0_1 : Int) (A0_2 : Option Addr) (c0_2 : Nat) (l0_2 : List (S62)) (A0_3 : Option Addr) (c0_3 : Nat) (l0_3 : List Int) (A0_4 : Option Addr) (c0_4 : Nat) (l0_4 : List (S36)) (a0_5 : Int) (a0_6 : Int) (a0_7 : Int) (a0_8 : Int) (a0_9 : Int) (A1 : Option Addr) (c1 : Nat) (l1 : List Int) (r : Bool) (w : World) (hr0_2 : Kd.C k62 w A0_2 l0_2.length l0_2) (hc0_2 : l0_2.length ≤ c0_2) (hr0_3 : Kd.C (Kd.int .i64) w A0_3 l0_3.length l0_3) (hc0_3 : l0_3.length ≤ c0_3) (hr0_4 : Kd.C k36 w A0_4 l0_4.length l0_4) (hc0_4 : l0_4.length ≤ c0_4) (hr1 : Kd.C (Kd.int .i64) w A1 l1.length l1) (hc1 : l1.length ≤ c1) (h : spinneretref09_fits.f k a0_0 a0_1 l0_2 l0_3 l0_4 a0_5 a0_6 a0_7 a0_8 a0_9 l1 = some r) :
    Calls Try.prog 16 #[.agg #[.string a0_0, .int .i64 a0_1, .slice A0_2 l0_2.length c0_2, .slice A0_3 l0_3.length c0_3, .slice A0_4 l0_4.length c0_4, .int .i64 a0_5, .int .i64 a0_6, .int .i64 a0_7, .int .i64 a0_8, .int .i64 a0_9], .slice A1 l1.length c1] w fun e w' => e = .returned (.bool r) ∧ Below w.heap.size w w' := by
  have hu26 := Try.underlying26
  have hu36 := Try.underlying36
  have HR0_2 := Aside0.mk hr0_2
  have HC0_2 := Aside0.mk hc0_2
  clear hr0_2 hc0_2
  have HR0_3 := Aside0.mk hr0_3
  have HC0_3 := Aside0.mk hc0_3
  clear hr0_3 hc0_3
  have HR0_4 := Aside0.mk hr0_4
  have HC0_4 := Aside0.mk hc0_4
  clear hr0_4 hc0_4
  have HR1 := Aside0.mk hr1
  have HC1 := Aside0.mk hc1
  clear hr1 hc1
  have HB := Aside0.mk (Below.refl w.heap.size w)
  have H : ((spinneretref09_inside.f a0_0 a0_1 l0_2 l0_3 l0_4 a0_5 a0_6 a0_7 a0_8 a0_9 a0_5).bind fun t114 => (if t114 = true then ((spinneretref09_inside.f a0_0 a0_1 l0_2 l0_3 l0_4 a0_5 a0_6 a0_7 a0_8 a0_9 a0_6).bind fun t115 => (spinneretref09_fits.j0 k l1 t115 a0_0 a0_1 l0_2 l0_3 l0_4 a0_5 a0_6 a0_7 a0_8 a0_9)) else (spinneretref09_fits.j0 k l1 false a0_0 a0_1 l0_2 l0_3 l0_4 a0_5 a0_6 a0_7 a0_8 a0_9))) = some r := h
  clear h
  have HC3 := Aside0.mk H
  clear H
  go_enter Try.func16, Try.ntmps16
  go_upto_region 1 with (first | ((with_reducible refine gate_dst (N := 2) rfl ?_); refine box_event ?hg (N := 2) ?hd (cs := #[.string a0_0, .int .i64 a0_1, .slice A0_2 l0_2.length c0_2, .slice A0_3 l0_3.length c0_3, .slice A0_4 l0_4.length c0_4, .int .i64 a0_5, .int .i64 a0_6, .int .i64 a0_7, .int .i64 a0_8, .int .i64 a0_9]) (t := 26) ?hr ?_; (case hd => rfl); (case hg => rfl); (case hr => first | (go_simp; done) | (go_simp; rfl)); intro gb113 hg w4 hbox hb; have n0_ := Aside0.mk (below_step (by repeat (first | (with_reducible first | exact HB.out | apply below_alloc | apply pw_below_drewN | apply below_drew1) | exact HB.out)) hb); have n1_ := Aside0.mk (hbox); have n2_ := Aside0.mk ((by rw [hg]; exact (below_size (by repeat (first | (with_reducible first | exact HB.out | apply below_alloc | apply pw_below_drewN | apply below_drew1) | exact HB.out))) : w.heap.size ≤ gb113)); have n3_ := Aside0.mk ((by rw [hg]; exact (below_size (by repeat (first | (with_reducible first | exact HB.out | apply below_alloc | apply pw_below_drewN | apply below_drew1) | exact HB.out))) : w.heap.size ≤ gb113)); clear HB; have HB := n0_; have BK113 := n1_; have GW113 := n2_; have GE113 := n3_; clear n0_ n1_ n2_ n3_; clear hb hbox hg))
  (try simp only [Act.put, List.setIfInBounds_toArray, List.set_cons_zero, List.set_cons_succ])
  go_cut [5] (fun v5 wc => ∃ (kq : Nat) (x5_2 : Bool), v5 = .bool x5_2 ∧ Aside0 (spinneretref09_fits.j0 kq l1 x5_2 a0_0 a0_1 l0_2 l0_3 l0_4 a0_5 a0_6 a0_7 a0_8 a0_9 = some r) ∧ Aside0 (kq ≤ k) ∧ Aside0 (wc.heap[gb113]? = some (.cells #[.string a0_0, .int .i64 a0_1, (.slice A0_2 l0_2.length c0_2), (.slice A0_3 l0_3.length c0_3), (.slice A0_4 l0_4.length c0_4), .int .i64 a0_5, .int .i64 a0_6, .int .i64 a0_7, .int .i64 a0_8, .int .i64 a0_9] 26 (0, 0))) ∧ Aside0 (Below w.heap.size w wc))
  case first =>
    have H := HC3.out
    clear HC3
    replace H := Option.bind_eq_some_iff.mp H
    obtain ⟨t114, A50, H⟩ := H
    replace H : (if t114 = true then ((spinneretref09_inside.f a0_0 a0_1 l0_2 l0_3 l0_4 a0_5 a0_6 a0_7 a0_8 a0_9 a0_6).bind fun t115 => (spinneretref09_fits.j0 k l1 t115 a0_0 a0_1 l0_2 l0_3 l0_4 a0_5 a0_6 a0_7 a0_8 a0_9)) else (spinneretref09_fits.j0 k l1 false a0_0 a0_1 l0_2 l0_3 l0_4 a0_5 a0_6 a0_7 a0_8 a0_9)) = some r := H
    have A5 := Aside0.mk A50
    clear A50
    by_cases c6 : t114 = true
    · subst c6
      have H1 : ((spinneretref09_inside.f a0_0 a0_1 l0_2 l0_3 l0_4 a0_5 a0_6 a0_7 a0_8 a0_9 a0_6).bind fun t115 => (spinneretref09_fits.j0 k l1 t115 a0_0 a0_1 l0_2 l0_3 l0_4 a0_5 a0_6 a0_7 a0_8 a0_9)) = some r := by rw [if_pos rfl] at H; exact H
      clear H
      have H := H1
      clear H1
      replace H := Option.bind_eq_some_iff.mp H
      obtain ⟨t115, A70, H⟩ := H
      replace H : (spinneretref09_fits.j0 k l1 t115 a0_0 a0_1 l0_2 l0_3 l0_4 a0_5 a0_6 a0_7 a0_8 a0_9) = some r := H
      have A7 := Aside0.mk A70
      clear A70
      have H' := Aside0.mk H
      clear H
      have hcz8_0 : w4.cell? ⟨gb113, 0, none⟩ = some (.string a0_0) := (blk_cell BK113.out 0).trans rfl
      have hcz8_1 : w4.cell? ⟨gb113, 1, none⟩ = some (.int .i64 a0_1) := (blk_cell BK113.out 1).trans rfl
      have hcz8_2 : w4.cell? ⟨gb113, 2, none⟩ = some (.slice A0_2 l0_2.length c0_2) := (blk_cell BK113.out 2).trans rfl
      have hcz8_3 : w4.cell? ⟨gb113, 3, none⟩ = some (.slice A0_3 l0_3.length c0_3) := (blk_cell BK113.out 3).trans rfl
      have hcz8_4 : w4.cell? ⟨gb113, 4, none⟩ = some (.slice A0_4 l0_4.length c0_4) := (blk_cell BK113.out 4).trans rfl
      have hcz8_5 : w4.cell? ⟨gb113, 5, none⟩ = some (.int .i64 a0_5) := (blk_cell BK113.out 5).trans rfl
      have hcz8_6 : w4.cell? ⟨gb113, 6, none⟩ = some (.int .i64 a0_6) := (blk_cell BK113.out 6).trans rfl
      have hcz8_7 : w4.cell? ⟨gb113, 7, none⟩ = some (.int .i64 a0_7) := (blk_cell BK113.out 7).trans rfl
      have hcz8_8 : w4.cell? ⟨gb113, 8, none⟩ = some (.int .i64 a0_8) := (blk_cell BK113.out 8).trans rfl
      have hcz8_9 : w4.cell? ⟨gb113, 9, none⟩ = some (.int .i64 a0_9) := (blk_cell BK113.out 9).trans rfl
      have hfz8_0 := blk_frozen BK113.out 0
      have hfz8_1 := blk_frozen BK113.out 1
      have hfz8_2 := blk_frozen BK113.out 2
      have hfz8_3 := blk_frozen BK113.out 3
      have hfz8_4 := blk_frozen BK113.out 4
      have hfz8_5 := blk_frozen BK113.out 5
      have hfz8_6 := blk_frozen BK113.out 6
      have hfz8_7 := blk_frozen BK113.out 7
      have hfz8_8 := blk_frozen BK113.out 8
      have hfz8_9 := blk_frozen BK113.out 9
      go_wp2_with (first | ((with_reducible refine gate_callee (f := 24) rfl ?_); refine goesL_ (some 16) rfl rfl Try.func24 (by kernel_rfl) rfl #[.agg #[.string a0_0, .int .i64 a0_1, .slice A0_2 l0_2.length c0_2, .slice A0_3 l0_3.length c0_3, .slice A0_4 l0_4.length c0_4, .int .i64 a0_5, .int .i64 a0_6, .int .i64 a0_7, .int .i64 a0_8, .int .i64 a0_9], .int .i64 a0_5] rfl (by (try simp only [List.map_toArray, List.map_cons, List.map_nil]); first | done | rfl | (simp only [List.length_drop, List.length_take]; rfl)) ?_; (with_reducible refine (spinneretref09_inside.calls a0_0 a0_1 _ _ l0_2 _ _ l0_3 _ _ l0_4 a0_5 a0_6 a0_7 a0_8 a0_9 a0_5 true _ ?side1 ?side2 ?side3 ?side4 ?side5 ?side6 A5.out).mono ?_); (case side1 => repeat (first | exact (Kd.C_below HR0_2.out HB.out) | (with_reducible refine Kd.C_alloc ?_ _) | (with_reducible refine Kd.C_drewN ?_ _) | (with_reducible refine Kd.C_drew ?_))); (case side2 => exact HC0_2.out); (case side3 => repeat (first | exact (Kd.C_below HR0_3.out HB.out) | (with_reducible refine Kd.C_alloc ?_ _) | (with_reducible refine Kd.C_drewN ?_ _) | (with_reducible refine Kd.C_drew ?_))); (case side4 => exact HC0_3.out); (case side5 => repeat (first | exact (Kd.C_below HR0_4.out HB.out) | (with_reducible refine Kd.C_alloc ?_ _) | (with_reducible refine Kd.C_drewN ?_ _) | (with_reducible refine Kd.C_drew ?_))); (case side6 => exact HC0_4.out); rintro e w9 ⟨rfl, hb⟩; refine ⟨_, rfl, ?_⟩; have n0_ := Aside0.mk (blk_below (g := gb113) (o := .cells #[.string a0_0, .int .i64 a0_1, .slice A0_2 l0_2.length c0_2, .slice A0_3 l0_3.length c0_3, .slice A0_4 l0_4.length c0_4, .int .i64 a0_5, .int .i64 a0_6, .int .i64 a0_7, .int .i64 a0_8, .int .i64 a0_9] 26 (0, 0)) (by (with_reducible repeat (first | refine blk_drewN ?_ _ | refine blk_drew ?_ | refine blk_alloc ?_ _)); exact BK113.out) hb); have n1_ := Aside0.mk (below_step (by repeat (first | (with_reducible first | exact HB.out | apply below_alloc | apply pw_below_drewN | apply below_drew1 | refine below_set ?_ GE113.out) | exact HB.out)) hb); clear BK113; clear HB; have BK113 := n0_; have HB := n1_; clear n0_ n1_; (try clear hb); (try clear hb2); (try clear hk); (try clear hi); have hcz10_0 : w9.cell? ⟨gb113, 0, none⟩ = some (.string a0_0) := (blk_cell BK113.out 0).trans rfl; have hcz10_1 : w9.cell? ⟨gb113, 1, none⟩ = some (.int .i64 a0_1) := (blk_cell BK113.out 1).trans rfl; have hcz10_2 : w9.cell? ⟨gb113, 2, none⟩ = some (.slice A0_2 l0_2.length c0_2) := (blk_cell BK113.out 2).trans rfl; have hcz10_3 : w9.cell? ⟨gb113, 3, none⟩ = some (.slice A0_3 l0_3.length c0_3) := (blk_cell BK113.out 3).trans rfl; have hcz10_4 : w9.cell? ⟨gb113, 4, none⟩ = some (.slice A0_4 l0_4.length c0_4) := (blk_cell BK113.out 4).trans rfl; have hcz10_5 : w9.cell? ⟨gb113, 5, none⟩ = some (.int .i64 a0_5) := (blk_cell BK113.out 5).trans rfl; have hcz10_6 : w9.cell? ⟨gb113, 6, none⟩ = some (.int .i64 a0_6) := (blk_cell BK113.out 6).trans rfl; have hcz10_7 : w9.cell? ⟨gb113, 7, none⟩ = some (.int .i64 a0_7) := (blk_cell BK113.out 7).trans rfl; have hcz10_8 : w9.cell? ⟨gb113, 8, none⟩ = some (.int .i64 a0_8) := (blk_cell BK113.out 8).trans rfl; have hcz10_9 : w9.cell? ⟨gb113, 9, none⟩ = some (.int .i64 a0_9) := (blk_cell BK113.out 9).trans rfl; have hfz10_0 := blk_frozen BK113.out 0; have hfz10_1 := blk_frozen BK113.out 1; have hfz10_2 := blk_frozen BK113.out 2; have hfz10_3 := blk_frozen BK113.out 3; have hfz10_4 := blk_frozen BK113.out 4; have hfz10_5 := blk_frozen BK113.out 5; have hfz10_6 := blk_frozen BK113.out 6; have hfz10_7 := blk_frozen BK113.out 7; have hfz10_8 := blk_frozen BK113.out 8; have hfz10_9 := blk_frozen BK113.out 9) | (go_at_call 24; (with_reducible refine (spinneretref09_inside.calls a0_0 a0_1 _ _ l0_2 _ _ l0_3 _ _ l0_4 a0_5 a0_6 a0_7 a0_8 a0_9 a0_6 t115 _ ?side1 ?side2 ?side3 ?side4 ?side5 ?side6 A7.out).mono ?_); (case side1 => repeat (first | exact (Kd.C_below HR0_2.out HB.out) | (with_reducible refine Kd.C_alloc ?_ _) | (with_reducible refine Kd.C_drewN ?_ _) | (with_reducible refine Kd.C_drew ?_))); (case side2 => exact HC0_2.out); (case side3 => repeat (first | exact (Kd.C_below HR0_3.out HB.out) | (with_reducible refine Kd.C_alloc ?_ _) | (with_reducible refine Kd.C_drewN ?_ _) | (with_reducible refine Kd.C_drew ?_))); (case side4 => exact HC0_3.out); (case side5 => repeat (first | exact (Kd.C_below HR0_4.out HB.out) | (with_reducible refine Kd.C_alloc ?_ _) | (with_reducible refine Kd.C_drewN ?_ _) | (with_reducible refine Kd.C_drew ?_))); (case side6 => exact HC0_4.out); rintro e w11 ⟨rfl, hb⟩; have n0_ := Aside0.mk (blk_below (g := gb113) (o := .cells #[.string a0_0, .int .i64 a0_1, .slice A0_2 l0_2.length c0_2, .slice A0_3 l0_3.length c0_3, .slice A0_4 l0_4.length c0_4, .int .i64 a0_5, .int .i64 a0_6, .int .i64 a0_7, .int .i64 a0_8, .int .i64 a0_9] 26 (0, 0)) (by (with_reducible repeat (first | refine blk_drewN ?_ _ | refine blk_drew ?_ | refine blk_alloc ?_ _)); exact BK113.out) hb); have n1_ := Aside0.mk (below_step (by repeat (first | (with_reducible first | exact HB.out | apply below_alloc | apply pw_below_drewN | apply below_drew1 | refine below_set ?_ GE113.out) | exact HB.out)) hb); clear BK113; clear HB; have BK113 := n0_; have HB := n1_; clear n0_ n1_; (try clear hb); (try clear hb2); (try clear hk); (try clear hi)))
      go_meet
      case rel => exact ⟨_, (t115), (by first | rfl | (simp; done) | (simp [*]; done)), H', ⟨by first | omega | exact Nat.le_refl _⟩, ⟨by (with_reducible repeat (first | refine blk_drewN ?_ _ | refine blk_drew ?_ | refine blk_alloc ?_ _)); exact BK113.out⟩, ⟨by repeat (first | (with_reducible first | exact HB.out | apply below_alloc | apply pw_below_drewN | apply below_drew1 | refine below_set ?_ GE113.out) | exact HB.out)⟩⟩
    · replace c6 := Bool.eq_false_iff.mpr c6
      subst c6
      have H1 : (spinneretref09_fits.j0 k l1 false a0_0 a0_1 l0_2 l0_3 l0_4 a0_5 a0_6 a0_7 a0_8 a0_9) = some r := by rw [if_neg (show ¬ (false = true) by decide)] at H; exact H
      clear H
      have H := H1
      clear H1
      have H' := Aside0.mk H
      clear H
      have hcz12_0 : w4.cell? ⟨gb113, 0, none⟩ = some (.string a0_0) := (blk_cell BK113.out 0).trans rfl
      have hcz12_1 : w4.cell? ⟨gb113, 1, none⟩ = some (.int .i64 a0_1) := (blk_cell BK113.out 1).trans rfl
      have hcz12_2 : w4.cell? ⟨gb113, 2, none⟩ = some (.slice A0_2 l0_2.length c0_2) := (blk_cell BK113.out 2).trans rfl
      have hcz12_3 : w4.cell? ⟨gb113, 3, none⟩ = some (.slice A0_3 l0_3.length c0_3) := (blk_cell BK113.out 3).trans rfl
      have hcz12_4 : w4.cell? ⟨gb113, 4, none⟩ = some (.slice A0_4 l0_4.length c0_4) := (blk_cell BK113.out 4).trans rfl
      have hcz12_5 : w4.cell? ⟨gb113, 5, none⟩ = some (.int .i64 a0_5) := (blk_cell BK113.out 5).trans rfl
      have hcz12_6 : w4.cell? ⟨gb113, 6, none⟩ = some (.int .i64 a0_6) := (blk_cell BK113.out 6).trans rfl
      have hcz12_7 : w4.cell? ⟨gb113, 7, none⟩ = some (.int .i64 a0_7) := (blk_cell BK113.out 7).trans rfl
      have hcz12_8 : w4.cell? ⟨gb113, 8, none⟩ = some (.int .i64 a0_8) := (blk_cell BK113.out 8).trans rfl
      have hcz12_9 : w4.cell? ⟨gb113, 9, none⟩ = some (.int .i64 a0_9) := (blk_cell BK113.out 9).trans rfl
      have hfz12_0 := blk_frozen BK113.out 0
      have hfz12_1 := blk_frozen BK113.out 1
      have hfz12_2 := blk_frozen BK113.out 2
      have hfz12_3 := blk_frozen BK113.out 3
      have hfz12_4 := blk_frozen BK113.out 4
      have hfz12_5 := blk_frozen BK113.out 5
      have hfz12_6 := blk_frozen BK113.out 6
      have hfz12_7 := blk_frozen BK113.out 7
      have hfz12_8 := blk_frozen BK113.out 8
      have hfz12_9 := blk_frozen BK113.out 9
      go_wp2_with (first | ((with_reducible refine gate_callee (f := 24) rfl ?_); refine goesL_ (some 16) rfl rfl Try.func24 (by kernel_rfl) rfl #[.agg #[.string a0_0, .int .i64 a0_1, .slice A0_2 l0_2.length c0_2, .slice A0_3 l0_3.length c0_3, .slice A0_4 l0_4.length c0_4, .int .i64 a0_5, .int .i64 a0_6, .int .i64 a0_7, .int .i64 a0_8, .int .i64 a0_9], .int .i64 a0_5] rfl (by (try simp only [List.map_toArray, List.map_cons, List.map_nil]); first | done | rfl | (simp only [List.length_drop, List.length_take]; rfl)) ?_; (with_reducible refine (spinneretref09_inside.calls a0_0 a0_1 _ _ l0_2 _ _ l0_3 _ _ l0_4 a0_5 a0_6 a0_7 a0_8 a0_9 a0_5 false _ ?side1 ?side2 ?side3 ?side4 ?side5 ?side6 A5.out).mono ?_); (case side1 => repeat (first | exact (Kd.C_below HR0_2.out HB.out) | (with_reducible refine Kd.C_alloc ?_ _) | (with_reducible refine Kd.C_drewN ?_ _) | (with_reducible refine Kd.C_drew ?_))); (case side2 => exact HC0_2.out); (case side3 => repeat (first | exact (Kd.C_below HR0_3.out HB.out) | (with_reducible refine Kd.C_alloc ?_ _) | (with_reducible refine Kd.C_drewN ?_ _) | (with_reducible refine Kd.C_drew ?_))); (case side4 => exact HC0_3.out); (case side5 => repeat (first | exact (Kd.C_below HR0_4.out HB.out) | (with_reducible refine Kd.C_alloc ?_ _) | (with_reducible refine Kd.C_drewN ?_ _) | (with_reducible refine Kd.C_drew ?_))); (case side6 => exact HC0_4.out); rintro e w13 ⟨rfl, hb⟩; refine ⟨_, rfl, ?_⟩; have n0_ := Aside0.mk (blk_below (g := gb113) (o := .cells #[.string a0_0, .int .i64 a0_1, .slice A0_2 l0_2.length c0_2, .slice A0_3 l0_3.length c0_3, .slice A0_4 l0_4.length c0_4, .int .i64 a0_5, .int .i64 a0_6, .int .i64 a0_7, .int .i64 a0_8, .int .i64 a0_9] 26 (0, 0)) (by (with_reducible repeat (first | refine blk_drewN ?_ _ | refine blk_drew ?_ | refine blk_alloc ?_ _)); exact BK113.out) hb); have n1_ := Aside0.mk (below_step (by repeat (first | (with_reducible first | exact HB.out | apply below_alloc | apply pw_below_drewN | apply below_drew1 | refine below_set ?_ GE113.out) | exact HB.out)) hb); clear BK113; clear HB; have BK113 := n0_; have HB := n1_; clear n0_ n1_; (try clear hb); (try clear hb2); (try clear hk); (try clear hi)))
      go_meet
      case rel => exact ⟨_, (false), (by first | rfl | (simp; done) | (simp [*]; done)), H', ⟨by first | omega | exact Nat.le_refl _⟩, ⟨by (with_reducible repeat (first | refine blk_drewN ?_ _ | refine blk_drew ?_ | refine blk_alloc ?_ _)); exact BK113.out⟩, ⟨by repeat (first | (with_reducible first | exact HB.out | apply below_alloc | apply pw_below_drewN | apply below_drew1 | refine below_set ?_ GE113.out) | exact HB.out)⟩⟩
  case rest =>
    clear HC3
    try clear c1
    try clear c2
    try clear p2
    try clear c6
    try clear hcz10_0
    try clear hcz10_1
    try clear hcz10_2
    try clear hcz10_3
    try clear hcz10_4
    try clear hcz10_5
    try clear hcz10_6
    try clear hcz10_7
    try clear hcz10_8
    try clear hcz10_9
    try clear hcz12_0
    try clear hcz12_1
    try clear hcz12_2
    try clear hcz12_3
    try clear hcz12_4
    try clear hcz12_5
    try clear hcz12_6
    try clear hcz12_7
    try clear hcz12_8
    try clear hcz12_9
    try clear hcz8_0
    try clear hcz8_1
    try clear hcz8_2
    try clear hcz8_3
    try clear hcz8_4
    try clear hcz8_5
    try clear hcz8_6
    try clear hcz8_7
    try clear hcz8_8
    try clear hcz8_9
    try clear hfz10_0
    try clear hfz10_1
    try clear hfz10_2
    try clear hfz10_3
    try clear hfz10_4
    try clear hfz10_5
    try clear hfz10_6
    try clear hfz10_7
    try clear hfz10_8
    try clear hfz10_9
    try clear hfz12_0
    try clear hfz12_1
    try clear hfz12_2
    try clear hfz12_3
    try clear hfz12_4
    try clear hfz12_5
    try clear hfz12_6
    try clear hfz12_7
    try clear hfz12_8
    try clear hfz12_9
    try clear hfz8_0
    try clear hfz8_1
    try clear hfz8_2
    try clear hfz8_3
    try clear hfz8_4
    try clear hfz8_5
    try clear hfz8_6
    try clear hfz8_7
    try clear hfz8_8
    try clear hfz8_9
    obtain ⟨kq, x5_2, rfl, HA, HJ2, BK113, HB⟩ := hcut
    cases kq with
    | zero => exact absurd HA.out (by simp [spinneretref09_fits.j0])
    | succ kj2 =>
      have H := HA.out
      clear HA
      simp only [spinneretref09_fits.j0] at H
      have H' := Aside0.mk H
      clear H
      go_wp2
      go_loopg [5, 6] kj2 (fun kq v5 v6 w' => ∃ (x5_2 : Bool) (x6_2 : Int), v5 = .bool x5_2 ∧ v6 = .int .i64 x6_2 ∧ Aside0 (spinneretref09_fits.l0 kq l1 x5_2 x6_2 a0_0 a0_1 l0_2 l0_3 l0_4 a0_5 a0_6 a0_7 a0_8 a0_9 = some r) ∧ Aside0 (kq ≤ kj2) ∧ Aside0 (w'.heap[gb113]? = some (.cells #[.string a0_0, .int .i64 a0_1, (.slice A0_2 l0_2.length c0_2), (.slice A0_3 l0_3.length c0_3), (.slice A0_4 l0_4.length c0_4), .int .i64 a0_5, .int .i64 a0_6, .int .i64 a0_7, .int .i64 a0_8, .int .i64 a0_9] 26 (0, 0))) ∧ Aside0 (Below w.heap.size w w'))
      case atStart => exact ⟨(x5_2), (0), (by first | rfl | (simp; done) | (simp [*]; done)), (by first | rfl | (simp; done) | (simp [*]; done)), H', ⟨Nat.le_refl _⟩, ⟨by (with_reducible repeat (first | refine blk_drewN ?_ _ | refine blk_drew ?_ | refine blk_alloc ?_ _)); exact BK113.out⟩, ⟨by repeat (first | (with_reducible first | exact HB.out | apply below_alloc | apply pw_below_drewN | apply below_drew1 | refine below_set ?_ GE113.out) | exact HB.out)⟩⟩
      case round =>
        clear H'
        try clear c1
        try clear c2
        try clear p2
        try clear c6
        try clear hcz10_0
        try clear hcz10_1
        try clear hcz10_2
        try clear hcz10_3
        try clear hcz10_4
        try clear hcz10_5
        try clear hcz10_6
        try clear hcz10_7
        try clear hcz10_8
        try clear hcz10_9
        try clear hcz12_0
        try clear hcz12_1
        try clear hcz12_2
        try clear hcz12_3
        try clear hcz12_4
        try clear hcz12_5
        try clear hcz12_6
        try clear hcz12_7
        try clear hcz12_8
        try clear hcz12_9
        try clear hcz8_0
        try clear hcz8_1
        try clear hcz8_2
        try clear hcz8_3
        try clear hcz8_4
        try clear hcz8_5
        try clear hcz8_6
        try clear hcz8_7
        try clear hcz8_8
        try clear hcz8_9
        try clear hfz10_0
        try clear hfz10_1
        try clear hfz10_2
        try clear hfz10_3
        try clear hfz10_4
        try clear hfz10_5
        try clear hfz10_6
        try clear hfz10_7
        try clear hfz10_8
        try clear hfz10_9
        try clear hfz12_0
        try clear hfz12_1
        try clear hfz12_2
        try clear hfz12_3
        try clear hfz12_4
        try clear hfz12_5
        try clear hfz12_6
        try clear hfz12_7
        try clear hfz12_8
        try clear hfz12_9
        try clear hfz8_0
        try clear hfz8_1
        try clear hfz8_2
        try clear hfz8_3
        try clear hfz8_4
        try clear hfz8_5
        try clear hfz8_6
        try clear hfz8_7
        try clear hfz8_8
        try clear hfz8_9
        try clear p2
        obtain ⟨x5_2, x6_2, rfl, rfl, HA, HK2, BK113, HB⟩ := hrel
        cases gk with
        | zero => exact absurd HA.out (by simp [spinneretref09_fits.l0])
        | succ k2 =>
          have H := HA.out
          clear HA
          simp only [spinneretref09_fits.l0] at H
          by_cases c14 : x6_2 < (l1.length : Int)
          · rw [if_pos c14] at H
            have c14b0 : decide (x6_2 < (l1.length : Int)) = true := decide_eq_true c14
            clear c14
            by_cases c15 : 0 ≤ x6_2
            · rw [if_pos c15] at H
              have c15b0 : decide (0 ≤ x6_2) = true := decide_eq_true c15
              clear c15
              replace H := Option.bind_eq_some_iff.mp H
              obtain ⟨t117, A160, H⟩ := H
              replace H : (if x5_2 = true then (spinneretref09_fits.l0 k2 l1 t117 (wrap64 (x6_2 + 1)) a0_0 a0_1 l0_2 l0_3 l0_4 a0_5 a0_6 a0_7 a0_8 a0_9) else (spinneretref09_fits.l0 k2 l1 false (wrap64 (x6_2 + 1)) a0_0 a0_1 l0_2 l0_3 l0_4 a0_5 a0_6 a0_7 a0_8 a0_9)) = some r := H
              have A16 := Aside0.mk A160
              clear A160
              by_cases c17 : x5_2 = true
              · subst c17
                have H1 : (spinneretref09_fits.l0 k2 l1 t117 (wrap64 (x6_2 + 1)) a0_0 a0_1 l0_2 l0_3 l0_4 a0_5 a0_6 a0_7 a0_8 a0_9) = some r := by rw [if_pos rfl] at H; exact H
                clear H
                have H := H1
                clear H1
                have H' := Aside0.mk H
                clear H
                try go_wp2
                have n0_ := Aside0.mk (blk_drew BK113.out)
                have n1_ := Aside0.mk (below_drew1 HB.out)
                clear BK113
                clear HB
                have BK113 := n0_
                have HB := n1_
                clear n0_ n1_
                have p116 : 0 ≤ (x6_2 : Int) := of_decide_eq_true (by first | (with_reducible assumption) | assumption)
                have q116 : x6_2 < (l1.length : Int) := of_decide_eq_true (by first | (with_reducible assumption) | assumption)
                obtain ⟨ad116, e116, hx116_0⟩ := Kd.at_int HR1.out x6_2 p116 q116
                have hw116_0 := hx116_0
                cases e116
                replace hx116_0 := (HB.out.cell (World.block_lt_of_cell? w _ hx116_0)).trans hx116_0
                replace p116 := eq_true p116
                replace q116 := eq_true q116
                refine start_ (n := 7) (S := fun w' => w'.cell? ⟨gb113, 0, none⟩ = some (.string a0_0) ∧ w'.cell? ⟨gb113, 1, none⟩ = some (.int .i64 a0_1) ∧ w'.cell? ⟨gb113, 2, none⟩ = some (.slice A0_2 l0_2.length c0_2) ∧ w'.cell? ⟨gb113, 3, none⟩ = some (.slice A0_3 l0_3.length c0_3) ∧ w'.cell? ⟨gb113, 4, none⟩ = some (.slice A0_4 l0_4.length c0_4) ∧ w'.cell? ⟨gb113, 5, none⟩ = some (.int .i64 a0_5) ∧ w'.cell? ⟨gb113, 6, none⟩ = some (.int .i64 a0_6) ∧ w'.cell? ⟨gb113, 7, none⟩ = some (.int .i64 a0_7) ∧ w'.cell? ⟨gb113, 8, none⟩ = some (.int .i64 a0_8) ∧ w'.cell? ⟨gb113, 9, none⟩ = some (.int .i64 a0_9) ∧ w'.cell? (ad116.add (x6_2).toNat) = some (.int .i64 (rd l1 x6_2))) (ds := []) #[false, false, false, false, false, false, false] (by kernel_rfl) rfl rfl ⟨(blk_cell BK113.out 0).trans rfl, (blk_cell BK113.out 1).trans rfl, (blk_cell BK113.out 2).trans rfl, (blk_cell BK113.out 3).trans rfl, (blk_cell BK113.out 4).trans rfl, (blk_cell BK113.out 5).trans rfl, (blk_cell BK113.out 6).trans rfl, (blk_cell BK113.out 7).trans rfl, (blk_cell BK113.out 8).trans rfl, (blk_cell BK113.out 9).trans rfl, ((HB.out.cell (World.block_lt_of_cell? w _ hw116_0)).trans hw116_0)⟩ (fun hHeld => ?_)
                generalize wr.drew = w18 at BK113 HB hx116_0 hHeld ⊢
                refine pure_ (i := 1) (N := some 30) (v := ?_) (a' := ?_) #[false, true, false, false, false, false, false] rfl rfl (by kernel_rfl) (fun _ _ _ h => h) (Or.inl ⟨by rfl, ?_⟩) ?_ ?_
                rotate_left
                · intro w'
                  go_simp
                  with_reducible rfl
                rotate_left
                · simp only [Act.put, List.setIfInBounds_toArray, List.set_cons_zero, List.set_cons_succ, i64_w, i32_w]
                  rfl
                refine pure_ (i := 2) (N := some 31) (v := ?_) (a' := ?_) #[false, true, true, false, false, false, false] rfl rfl (by kernel_rfl) (fun _ _ _ h => h) (Or.inl ⟨by rfl, ?_⟩) ?_ ?_
                rotate_left
                · intro w'
                  go_simp
                  with_reducible rfl
                rotate_left
                · simp only [Act.put, List.setIfInBounds_toArray, List.set_cons_zero, List.set_cons_succ, i64_w, i32_w]
                  rfl
                refine pure_ (i := 3) (N := some 32) (v := ?_) (a' := ?_) #[false, true, true, true, false, false, false] rfl rfl (by kernel_rfl) (fun _ _ _ h => h) (Or.inl ⟨by rfl, ?_⟩) ?_ ?_
                rotate_left
                · intro w'
                  go_simp
                  with_reducible rfl
                rotate_left
                · simp only [Act.put, List.setIfInBounds_toArray, List.set_cons_zero, List.set_cons_succ, i64_w, i32_w]
                  rfl
                refine take_ (i := 0) (N := some 29) (v := ?_) (a' := ?_) #[true, true, true, true, false, false, false] rfl rfl (by kernel_rfl) (fun _ _ _ h => h) (Or.inl ⟨by rfl, ?_⟩) hHeld ?_ ?_
                rotate_left
                · rintro w' ⟨s0, s1, s2, s3, s4, s5, s6, s7, s8, s9, s10⟩
                  go_simp
                  with_reducible rfl
                rotate_left
                · simp only [Act.put, List.setIfInBounds_toArray, List.set_cons_zero, List.set_cons_succ, i64_w, i32_w]
                  rfl
                refine take_ (i := 4) (N := some 33) (v := ?_) (a' := ?_) #[true, true, true, true, true, false, false] rfl rfl (by kernel_rfl) (fun _ _ _ h => h) (Or.inl ⟨by rfl, ?_⟩) hHeld ?_ ?_
                rotate_left
                · rintro w' ⟨s0, s1, s2, s3, s4, s5, s6, s7, s8, s9, s10⟩
                  go_simp
                  with_reducible rfl
                rotate_left
                · simp only [Act.put, List.setIfInBounds_toArray, List.set_cons_zero, List.set_cons_succ, i64_w, i32_w]
                  rfl
                refine one_ (i := 5) (N := some 34) #[true, true, true, true, true, true, false] rfl rfl (by kernel_rfl) (by decide) (fun K hK => ?_)
                refine goes_ Try.func24 (by kernel_rfl) rfl #[.agg #[.string a0_0, .int .i64 a0_1, .slice A0_2 l0_2.length c0_2, .slice A0_3 l0_3.length c0_3, .slice A0_4 l0_4.length c0_4, .int .i64 a0_5, .int .i64 a0_6, .int .i64 a0_7, .int .i64 a0_8, .int .i64 a0_9], .int .i64 (rd l1 x6_2)] (by rfl) rfl rfl (by (try simp only [List.map_toArray, List.map_cons, List.map_nil]); first | done | rfl | (simp only [List.length_drop, List.length_take]; rfl)) ?_
                with_reducible refine (spinneretref09_inside.calls a0_0 a0_1 _ _ l0_2 _ _ l0_3 _ _ l0_4 a0_5 a0_6 a0_7 a0_8 a0_9 (rd l1 x6_2) t117 _ ?side1 ?side2 ?side3 ?side4 ?side5 ?side6 A16.out).mono ?_
                (case side1 => repeat (first | exact (Kd.C_below HR0_2.out HB.out) | (with_reducible refine Kd.C_alloc ?_ _) | (with_reducible refine Kd.C_drewN ?_ _) | (with_reducible refine Kd.C_drew ?_)))
                (case side2 => exact HC0_2.out)
                (case side3 => repeat (first | exact (Kd.C_below HR0_3.out HB.out) | (with_reducible refine Kd.C_alloc ?_ _) | (with_reducible refine Kd.C_drewN ?_ _) | (with_reducible refine Kd.C_drew ?_)))
                (case side4 => exact HC0_3.out)
                (case side5 => repeat (first | exact (Kd.C_below HR0_4.out HB.out) | (with_reducible refine Kd.C_alloc ?_ _) | (with_reducible refine Kd.C_drewN ?_ _) | (with_reducible refine Kd.C_drew ?_)))
                (case side6 => exact HC0_4.out)
                rintro e w19 ⟨rfl, hb⟩
                refine ⟨_, rfl, ?_⟩
                have n0_ := Aside0.mk (blk_below (g := gb113) (o := .cells #[.string a0_0, .int .i64 a0_1, .slice A0_2 l0_2.length c0_2, .slice A0_3 l0_3.length c0_3, .slice A0_4 l0_4.length c0_4, .int .i64 a0_5, .int .i64 a0_6, .int .i64 a0_7, .int .i64 a0_8, .int .i64 a0_9] 26 (0, 0)) (by (with_reducible repeat (first | refine blk_drewN ?_ _ | refine blk_drew ?_ | refine blk_alloc ?_ _)); exact BK113.out) hb)
                have n1_ := Aside0.mk (below_step (by repeat (first | (with_reducible first | exact HB.out | apply below_alloc | apply pw_below_drewN | apply below_drew1 | refine below_set ?_ GE113.out) | exact HB.out)) hb)
                clear BK113
                clear HB
                have BK113 := n0_
                have HB := n1_
                clear n0_ n1_
                (try clear hb)
                (try clear hb2)
                (try clear hk)
                (try clear hi)
                refine hK.out _ _ ⟨(blk_cell BK113.out 0).trans rfl, (blk_cell BK113.out 1).trans rfl, (blk_cell BK113.out 2).trans rfl, (blk_cell BK113.out 3).trans rfl, (blk_cell BK113.out 4).trans rfl, (blk_cell BK113.out 5).trans rfl, (blk_cell BK113.out 6).trans rfl, (blk_cell BK113.out 7).trans rfl, (blk_cell BK113.out 8).trans rfl, (blk_cell BK113.out 9).trans rfl, ((HB.out.cell (World.block_lt_of_cell? w _ hw116_0)).trans hw116_0)⟩ (fun hHeld => ?_)
                clear hK K
                refine norm_ (a' := ?_) ?_ ?_
                rotate_left
                · show Act.put _ (some 34) _ = _
                  simp only [Act.put, List.setIfInBounds_toArray, List.set_cons_zero, List.set_cons_succ, i64_w, i32_w]
                  rfl
                refine pure_ (i := 6) (N := some 7) (v := ?_) (a' := ?_) #[true, true, true, true, true, true, true] rfl rfl (by kernel_rfl) (fun _ _ _ h => h) (Or.inl ⟨by rfl, ?_⟩) ?_ ?_
                rotate_left
                · intro w'
                  go_simp
                  with_reducible rfl
                rotate_left
                · simp only [Act.put, List.setIfInBounds_toArray, List.set_cons_zero, List.set_cons_succ, i64_w, i32_w]
                  rfl
                refine done_ (by kernel_rfl) ?_
                try go_wp2
                go_roundg k2
                case measure => have := HJ2.out; have := HK2.out; omega
                case rel => exact ⟨(t117), (wrap64 (x6_2 + 1)), (by first | rfl | (simp; done) | (simp [*]; done)), (by first | rfl | (simp; done) | (simp [*]; done)), H', ⟨by have := HJ2.out; have := HK2.out; omega⟩, ⟨by (with_reducible repeat (first | refine blk_drewN ?_ _ | refine blk_drew ?_ | refine blk_alloc ?_ _)); exact BK113.out⟩, ⟨by repeat (first | (with_reducible first | exact HB.out | apply below_alloc | apply pw_below_drewN | apply below_drew1 | refine below_set ?_ GE113.out) | exact HB.out)⟩⟩
              · replace c17 := Bool.eq_false_iff.mpr c17
                subst c17
                have H1 : (spinneretref09_fits.l0 k2 l1 false (wrap64 (x6_2 + 1)) a0_0 a0_1 l0_2 l0_3 l0_4 a0_5 a0_6 a0_7 a0_8 a0_9) = some r := by rw [if_neg (show ¬ (false = true) by decide)] at H; exact H
                clear H
                have H := H1
                clear H1
                have H' := Aside0.mk H
                clear H
                try go_wp2
                have n0_ := Aside0.mk (blk_drew BK113.out)
                have n1_ := Aside0.mk (below_drew1 HB.out)
                clear BK113
                clear HB
                have BK113 := n0_
                have HB := n1_
                clear n0_ n1_
                have p116 : 0 ≤ (x6_2 : Int) := of_decide_eq_true (by first | (with_reducible assumption) | assumption)
                have q116 : x6_2 < (l1.length : Int) := of_decide_eq_true (by first | (with_reducible assumption) | assumption)
                obtain ⟨ad116, e116, hx116_0⟩ := Kd.at_int HR1.out x6_2 p116 q116
                have hw116_0 := hx116_0
                cases e116
                replace hx116_0 := (HB.out.cell (World.block_lt_of_cell? w _ hx116_0)).trans hx116_0
                replace p116 := eq_true p116
                replace q116 := eq_true q116
                refine start_ (n := 7) (S := fun w' => w'.cell? ⟨gb113, 0, none⟩ = some (.string a0_0) ∧ w'.cell? ⟨gb113, 1, none⟩ = some (.int .i64 a0_1) ∧ w'.cell? ⟨gb113, 2, none⟩ = some (.slice A0_2 l0_2.length c0_2) ∧ w'.cell? ⟨gb113, 3, none⟩ = some (.slice A0_3 l0_3.length c0_3) ∧ w'.cell? ⟨gb113, 4, none⟩ = some (.slice A0_4 l0_4.length c0_4) ∧ w'.cell? ⟨gb113, 5, none⟩ = some (.int .i64 a0_5) ∧ w'.cell? ⟨gb113, 6, none⟩ = some (.int .i64 a0_6) ∧ w'.cell? ⟨gb113, 7, none⟩ = some (.int .i64 a0_7) ∧ w'.cell? ⟨gb113, 8, none⟩ = some (.int .i64 a0_8) ∧ w'.cell? ⟨gb113, 9, none⟩ = some (.int .i64 a0_9) ∧ w'.cell? (ad116.add (x6_2).toNat) = some (.int .i64 (rd l1 x6_2))) (ds := []) #[false, false, false, false, false, false, false] (by kernel_rfl) rfl rfl ⟨(blk_cell BK113.out 0).trans rfl, (blk_cell BK113.out 1).trans rfl, (blk_cell BK113.out 2).trans rfl, (blk_cell BK113.out 3).trans rfl, (blk_cell BK113.out 4).trans rfl, (blk_cell BK113.out 5).trans rfl, (blk_cell BK113.out 6).trans rfl, (blk_cell BK113.out 7).trans rfl, (blk_cell BK113.out 8).trans rfl, (blk_cell BK113.out 9).trans rfl, ((HB.out.cell (World.block_lt_of_cell? w _ hw116_0)).trans hw116_0)⟩ (fun hHeld => ?_)
                generalize wr.drew = w20 at BK113 HB hx116_0 hHeld ⊢
                refine pure_ (i := 1) (N := some 30) (v := ?_) (a' := ?_) #[false, true, false, false, false, false, false] rfl rfl (by kernel_rfl) (fun _ _ _ h => h) (Or.inl ⟨by rfl, ?_⟩) ?_ ?_
                rotate_left
                · intro w'
                  go_simp
                  with_reducible rfl
                rotate_left
                · simp only [Act.put, List.setIfInBounds_toArray, List.set_cons_zero, List.set_cons_succ, i64_w, i32_w]
                  rfl
                refine pure_ (i := 2) (N := some 31) (v := ?_) (a' := ?_) #[false, true, true, false, false, false, false] rfl rfl (by kernel_rfl) (fun _ _ _ h => h) (Or.inl ⟨by rfl, ?_⟩) ?_ ?_
                rotate_left
                · intro w'
                  go_simp
                  with_reducible rfl
                rotate_left
                · simp only [Act.put, List.setIfInBounds_toArray, List.set_cons_zero, List.set_cons_succ, i64_w, i32_w]
                  rfl
                refine pure_ (i := 3) (N := some 32) (v := ?_) (a' := ?_) #[false, true, true, true, false, false, false] rfl rfl (by kernel_rfl) (fun _ _ _ h => h) (Or.inl ⟨by rfl, ?_⟩) ?_ ?_
                rotate_left
                · intro w'
                  go_simp
                  with_reducible rfl
                rotate_left
                · simp only [Act.put, List.setIfInBounds_toArray, List.set_cons_zero, List.set_cons_succ, i64_w, i32_w]
                  rfl
                refine take_ (i := 0) (N := some 29) (v := ?_) (a' := ?_) #[true, true, true, true, false, false, false] rfl rfl (by kernel_rfl) (fun _ _ _ h => h) (Or.inl ⟨by rfl, ?_⟩) hHeld ?_ ?_
                rotate_left
                · rintro w' ⟨s0, s1, s2, s3, s4, s5, s6, s7, s8, s9, s10⟩
                  go_simp
                  with_reducible rfl
                rotate_left
                · simp only [Act.put, List.setIfInBounds_toArray, List.set_cons_zero, List.set_cons_succ, i64_w, i32_w]
                  rfl
                refine take_ (i := 4) (N := some 33) (v := ?_) (a' := ?_) #[true, true, true, true, true, false, false] rfl rfl (by kernel_rfl) (fun _ _ _ h => h) (Or.inl ⟨by rfl, ?_⟩) hHeld ?_ ?_
                rotate_left
                · rintro w' ⟨s0, s1, s2, s3, s4, s5, s6, s7, s8, s9, s10⟩
                  go_simp
                  with_reducible rfl
                rotate_left
                · simp only [Act.put, List.setIfInBounds_toArray, List.set_cons_zero, List.set_cons_succ, i64_w, i32_w]
                  rfl
                refine one_ (i := 5) (N := some 34) #[true, true, true, true, true, true, false] rfl rfl (by kernel_rfl) (by decide) (fun K hK => ?_)
                refine goes_ Try.func24 (by kernel_rfl) rfl #[.agg #[.string a0_0, .int .i64 a0_1, .slice A0_2 l0_2.length c0_2, .slice A0_3 l0_3.length c0_3, .slice A0_4 l0_4.length c0_4, .int .i64 a0_5, .int .i64 a0_6, .int .i64 a0_7, .int .i64 a0_8, .int .i64 a0_9], .int .i64 (rd l1 x6_2)] (by rfl) rfl rfl (by (try simp only [List.map_toArray, List.map_cons, List.map_nil]); first | done | rfl | (simp only [List.length_drop, List.length_take]; rfl)) ?_
                with_reducible refine (spinneretref09_inside.calls a0_0 a0_1 _ _ l0_2 _ _ l0_3 _ _ l0_4 a0_5 a0_6 a0_7 a0_8 a0_9 (rd l1 x6_2) t117 _ ?side1 ?side2 ?side3 ?side4 ?side5 ?side6 A16.out).mono ?_
                (case side1 => repeat (first | exact (Kd.C_below HR0_2.out HB.out) | (with_reducible refine Kd.C_alloc ?_ _) | (with_reducible refine Kd.C_drewN ?_ _) | (with_reducible refine Kd.C_drew ?_)))
                (case side2 => exact HC0_2.out)
                (case side3 => repeat (first | exact (Kd.C_below HR0_3.out HB.out) | (with_reducible refine Kd.C_alloc ?_ _) | (with_reducible refine Kd.C_drewN ?_ _) | (with_reducible refine Kd.C_drew ?_)))
                (case side4 => exact HC0_3.out)
                (case side5 => repeat (first | exact (Kd.C_below HR0_4.out HB.out) | (with_reducible refine Kd.C_alloc ?_ _) | (with_reducible refine Kd.C_drewN ?_ _) | (with_reducible refine Kd.C_drew ?_)))
                (case side6 => exact HC0_4.out)
                rintro e w21 ⟨rfl, hb⟩
                refine ⟨_, rfl, ?_⟩
                have n0_ := Aside0.mk (blk_below (g := gb113) (o := .cells #[.string a0_0, .int .i64 a0_1, .slice A0_2 l0_2.length c0_2, .slice A0_3 l0_3.length c0_3, .slice A0_4 l0_4.length c0_4, .int .i64 a0_5, .int .i64 a0_6, .int .i64 a0_7, .int .i64 a0_8, .int .i64 a0_9] 26 (0, 0)) (by (with_reducible repeat (first | refine blk_drewN ?_ _ | refine blk_drew ?_ | refine blk_alloc ?_ _)); exact BK113.out) hb)
                have n1_ := Aside0.mk (below_step (by repeat (first | (with_reducible first | exact HB.out | apply below_alloc | apply pw_below_drewN | apply below_drew1 | refine below_set ?_ GE113.out) | exact HB.out)) hb)
                clear BK113
                clear HB
                have BK113 := n0_
                have HB := n1_
                clear n0_ n1_
                (try clear hb)
                (try clear hb2)
                (try clear hk)
                (try clear hi)
                refine hK.out _ _ ⟨(blk_cell BK113.out 0).trans rfl, (blk_cell BK113.out 1).trans rfl, (blk_cell BK113.out 2).trans rfl, (blk_cell BK113.out 3).trans rfl, (blk_cell BK113.out 4).trans rfl, (blk_cell BK113.out 5).trans rfl, (blk_cell BK113.out 6).trans rfl, (blk_cell BK113.out 7).trans rfl, (blk_cell BK113.out 8).trans rfl, (blk_cell BK113.out 9).trans rfl, ((HB.out.cell (World.block_lt_of_cell? w _ hw116_0)).trans hw116_0)⟩ (fun hHeld => ?_)
                clear hK K
                refine norm_ (a' := ?_) ?_ ?_
                rotate_left
                · show Act.put _ (some 34) _ = _
                  simp only [Act.put, List.setIfInBounds_toArray, List.set_cons_zero, List.set_cons_succ, i64_w, i32_w]
                  rfl
                refine pure_ (i := 6) (N := some 7) (v := ?_) (a' := ?_) #[true, true, true, true, true, true, true] rfl rfl (by kernel_rfl) (fun _ _ _ h => h) (Or.inl ⟨by rfl, ?_⟩) ?_ ?_
                rotate_left
                · intro w'
                  go_simp
                  with_reducible rfl
                rotate_left
                · simp only [Act.put, List.setIfInBounds_toArray, List.set_cons_zero, List.set_cons_succ, i64_w, i32_w]
                  rfl
                refine done_ (by kernel_rfl) ?_
                try go_wp2
                go_roundg k2
                case measure => have := HJ2.out; have := HK2.out; omega
                case rel => exact ⟨(false), (wrap64 (x6_2 + 1)), (by first | rfl | (simp; done) | (simp [*]; done)), (by first | rfl | (simp; done) | (simp [*]; done)), H', ⟨by have := HJ2.out; have := HK2.out; omega⟩, ⟨by (with_reducible repeat (first | refine blk_drewN ?_ _ | refine blk_drew ?_ | refine blk_alloc ?_ _)); exact BK113.out⟩, ⟨by repeat (first | (with_reducible first | exact HB.out | apply below_alloc | apply pw_below_drewN | apply below_drew1 | refine below_set ?_ GE113.out) | exact HB.out)⟩⟩
            · rw [if_neg c15] at H
              exact absurd H (by simp)
          · rw [if_neg c14] at H
            have c14b0 : decide (x6_2 < (l1.length : Int)) = false := decide_eq_false c14
            clear c14
            have H' := Aside0.mk H
            clear H
            go_wp2
            go_loopg [5, 8] k2 (fun kq v5 v8 w' => ∃ (x5_3 : Bool) (x8_3 : Int), v5 = .bool x5_3 ∧ v8 = .int .i64 x8_3 ∧ Aside0 (spinneretref09_fits.l1 kq x5_3 x8_3 a0_0 a0_1 l0_2 l0_3 l0_4 a0_5 a0_6 a0_7 a0_8 a0_9 = some r) ∧ Aside0 (kq ≤ k2) ∧ Aside0 (w'.heap[gb113]? = some (.cells #[.string a0_0, .int .i64 a0_1, (.slice A0_2 l0_2.length c0_2), (.slice A0_3 l0_3.length c0_3), (.slice A0_4 l0_4.length c0_4), .int .i64 a0_5, .int .i64 a0_6, .int .i64 a0_7, .int .i64 a0_8, .int .i64 a0_9] 26 (0, 0))) ∧ Aside0 (Below w.heap.size w w'))
            case atStart => exact ⟨(x5_2), (0), (by first | rfl | (simp; done) | (simp [*]; done)), (by first | rfl | (simp; done) | (simp [*]; done)), H', ⟨Nat.le_refl _⟩, ⟨by (with_reducible repeat (first | refine blk_drewN ?_ _ | refine blk_drew ?_ | refine blk_alloc ?_ _)); exact BK113.out⟩, ⟨by repeat (first | (with_reducible first | exact HB.out | apply below_alloc | apply pw_below_drewN | apply below_drew1 | refine below_set ?_ GE113.out) | exact HB.out)⟩⟩
            case round =>
              clear H'
              try clear c1
              try clear p1
              try clear q1
              try clear hx1
              try clear c2
              try clear p2
              try clear c6
              try clear p6
              try clear p11
              try clear q11
              try clear hx11
              try clear c14
              try clear c14b0
              try clear c15
              try clear c15b0
              try clear c16
              try clear c17
              try clear hcz10_0
              try clear hcz10_1
              try clear hcz10_2
              try clear hcz10_3
              try clear hcz10_4
              try clear hcz10_5
              try clear hcz10_6
              try clear hcz10_7
              try clear hcz10_8
              try clear hcz10_9
              try clear hcz12_0
              try clear hcz12_1
              try clear hcz12_2
              try clear hcz12_3
              try clear hcz12_4
              try clear hcz12_5
              try clear hcz12_6
              try clear hcz12_7
              try clear hcz12_8
              try clear hcz12_9
              try clear hcz8_0
              try clear hcz8_1
              try clear hcz8_2
              try clear hcz8_3
              try clear hcz8_4
              try clear hcz8_5
              try clear hcz8_6
              try clear hcz8_7
              try clear hcz8_8
              try clear hcz8_9
              try clear hfz10_0
              try clear hfz10_1
              try clear hfz10_2
              try clear hfz10_3
              try clear hfz10_4
              try clear hfz10_5
              try clear hfz10_6
              try clear hfz10_7
              try clear hfz10_8
              try clear hfz10_9
              try clear hfz12_0
              try clear hfz12_1
              try clear hfz12_2
              try clear hfz12_3
              try clear hfz12_4
              try clear hfz12_5
              try clear hfz12_6
              try clear hfz12_7
              try clear hfz12_8
              try clear hfz12_9
              try clear hfz8_0
              try clear hfz8_1
              try clear hfz8_2
              try clear hfz8_3
              try clear hfz8_4
              try clear hfz8_5
              try clear hfz8_6
              try clear hfz8_7
              try clear hfz8_8
              try clear hfz8_9
              try clear hx116_0
              try clear p116
              try clear p2
              try clear q116
              obtain ⟨x5_3, x8_3, rfl, rfl, HA, HK3, BK113, HB⟩ := hrel
              cases gk with
              | zero => exact absurd HA.out (by simp [spinneretref09_fits.l1])
              | succ k3 =>
                have H := HA.out
                clear HA
                simp only [spinneretref09_fits.l1] at H
                by_cases c22 : x8_3 < (l0_4.length : Int)
                · rw [if_pos c22] at H
                  have c22b0 : decide (x8_3 < (l0_4.length : Int)) = true := decide_eq_true c22
                  clear c22
                  by_cases c23 : 0 ≤ x8_3
                  · rw [if_pos c23] at H
                    have c23b0 : decide (0 ≤ x8_3) = true := decide_eq_true c23
                    clear c23
                    replace H := Option.bind_eq_some_iff.mp H
                    obtain ⟨t119, A240, H⟩ := H
                    replace H : (spinneretref09_fits.l2 k3 x5_3 x8_3 t119 0 a0_0 a0_1 l0_2 l0_3 l0_4 a0_5 a0_6 a0_7 a0_8 a0_9) = some r := H
                    have A24 := Aside0.mk A240
                    clear A240
                    have H' := Aside0.mk H
                    clear H
                    have hcz25_0 : wr.cell? ⟨gb113, 0, none⟩ = some (.string a0_0) := (blk_cell BK113.out 0).trans rfl
                    have hcz25_1 : wr.cell? ⟨gb113, 1, none⟩ = some (.int .i64 a0_1) := (blk_cell BK113.out 1).trans rfl
                    have hcz25_2 : wr.cell? ⟨gb113, 2, none⟩ = some (.slice A0_2 l0_2.length c0_2) := (blk_cell BK113.out 2).trans rfl
                    have hcz25_3 : wr.cell? ⟨gb113, 3, none⟩ = some (.slice A0_3 l0_3.length c0_3) := (blk_cell BK113.out 3).trans rfl
                    have hcz25_4 : wr.cell? ⟨gb113, 4, none⟩ = some (.slice A0_4 l0_4.length c0_4) := (blk_cell BK113.out 4).trans rfl
                    have hcz25_5 : wr.cell? ⟨gb113, 5, none⟩ = some (.int .i64 a0_5) := (blk_cell BK113.out 5).trans rfl
                    have hcz25_6 : wr.cell? ⟨gb113, 6, none⟩ = some (.int .i64 a0_6) := (blk_cell BK113.out 6).trans rfl
                    have hcz25_7 : wr.cell? ⟨gb113, 7, none⟩ = some (.int .i64 a0_7) := (blk_cell BK113.out 7).trans rfl
                    have hcz25_8 : wr.cell? ⟨gb113, 8, none⟩ = some (.int .i64 a0_8) := (blk_cell BK113.out 8).trans rfl
                    have hcz25_9 : wr.cell? ⟨gb113, 9, none⟩ = some (.int .i64 a0_9) := (blk_cell BK113.out 9).trans rfl
                    have hfz25_0 := blk_frozen BK113.out 0
                    have hfz25_1 := blk_frozen BK113.out 1
                    have hfz25_2 := blk_frozen BK113.out 2
                    have hfz25_3 := blk_frozen BK113.out 3
                    have hfz25_4 := blk_frozen BK113.out 4
                    have hfz25_5 := blk_frozen BK113.out 5
                    have hfz25_6 := blk_frozen BK113.out 6
                    have hfz25_7 := blk_frozen BK113.out 7
                    have hfz25_8 := blk_frozen BK113.out 8
                    have hfz25_9 := blk_frozen BK113.out 9
                    have p118 : 0 ≤ (x8_3 : Int) := of_decide_eq_true (by first | (with_reducible assumption) | assumption)
                    have q118 : x8_3 < (l0_4.length : Int) := of_decide_eq_true (by first | (with_reducible assumption) | assumption)
                    obtain ⟨ad118, A118_0, c118_0, A118_1, c118_1, e118, hx118_0, hx118_1, hx118_2, hx118_3, hx118_4, hx118_5, hx118_6, hl118_0, hi118_0, hl118_1, hi118_1⟩ := at_T36 HR0_4.out x8_3 p118 q118
                    cases e118
                    replace hx118_0 := (HB.out.cell (World.block_lt_of_cell? w _ hx118_0)).trans hx118_0
                    replace hx118_1 := (HB.out.cell (World.block_lt_of_cell? w _ hx118_1)).trans hx118_1
                    replace hx118_2 := (HB.out.cell (World.block_lt_of_cell? w _ hx118_2)).trans hx118_2
                    replace hx118_3 := (HB.out.cell (World.block_lt_of_cell? w _ hx118_3)).trans hx118_3
                    replace hx118_4 := (HB.out.cell (World.block_lt_of_cell? w _ hx118_4)).trans hx118_4
                    replace hx118_5 := (HB.out.cell (World.block_lt_of_cell? w _ hx118_5)).trans hx118_5
                    replace hx118_6 := (HB.out.cell (World.block_lt_of_cell? w _ hx118_6)).trans hx118_6
                    have HR118_0 := Aside0.mk hi118_0
                    have HC118_0 := Aside0.mk hl118_0
                    clear hi118_0 hl118_0
                    have HR118_1 := Aside0.mk hi118_1
                    have HC118_1 := Aside0.mk hl118_1
                    clear hi118_1 hl118_1
                    replace p118 := eq_true p118
                    replace q118 := eq_true q118
                    go_wp2_with (first | ((with_reducible refine gate_callee (f := 18) rfl ?_); refine goesL_ (some 51) rfl rfl Try.func18 (by kernel_rfl) rfl #[.agg #[.slice A118_0 ((rd_T36 l0_4 x8_3).f0).length c118_0, .slice A118_1 ((rd_T36 l0_4 x8_3).f1).length c118_1, .bool ((rd_T36 l0_4 x8_3).f2), .bool ((rd_T36 l0_4 x8_3).f3), .bool ((rd_T36 l0_4 x8_3).f4), .bool ((rd_T36 l0_4 x8_3).f5), .bool ((rd_T36 l0_4 x8_3).f6)]] rfl (by (try simp only [List.map_toArray, List.map_cons, List.map_nil]); first | done | rfl | (simp only [List.length_drop, List.length_take]; rfl)) ?_; (with_reducible refine (spinneretref09_lists.calls (fun k_ => k_ < w.heap.size) _ _ ((rd_T36 l0_4 x8_3).f0) (fun k_ => k_ < w.heap.size) _ _ ((rd_T36 l0_4 x8_3).f1) ((rd_T36 l0_4 x8_3).f2) ((rd_T36 l0_4 x8_3).f3) ((rd_T36 l0_4 x8_3).f4) ((rd_T36 l0_4 x8_3).f5) ((rd_T36 l0_4 x8_3).f6) t119 _ ?side1 ?side2 A24.out).mono ?_); (case side1 => exact Kd.V_mk HC118_0.out (Kd.F_below (Kd.C_F k40_heap HR118_0.out) (by repeat (first | (with_reducible first | exact HB.out | apply below_alloc | apply pw_below_drewN | apply below_drew1 | refine below_set ?_ GE113.out) | exact HB.out)))); (case side2 => exact Kd.V_mk HC118_1.out (Kd.F_below (Kd.C_F (Kd.heap_slice 40 k40_heap) HR118_1.out) (by repeat (first | (with_reducible first | exact HB.out | apply below_alloc | apply pw_below_drewN | apply below_drew1 | refine below_set ?_ GE113.out) | exact HB.out)))); rintro e w26 ⟨v120, rfl, ho0, hb⟩; refine ⟨_, rfl, ?_⟩; have n0_ := Aside0.mk (Kd.N_lower (Kd.N_mono (ok' := fun k_ => k_ ≠ gb113) ho0 (fun k_ hk_ => Or.elim hk_ (fun hs_ => Or.elim hs_ (fun hs_ => fun e_ => Nat.not_le.2 hs_ (by rw [e_]; exact GW113.out)) (fun hs_ => fun e_ => Nat.not_le.2 hs_ (by rw [e_]; exact GW113.out))) (fun hn_ => (Kd.freshB (g := gb113) (o := .cells #[.string a0_0, .int .i64 a0_1, .slice A0_2 l0_2.length c0_2, .slice A0_3 l0_3.length c0_3, .slice (some ad118) l0_4.length c0_4, .int .i64 a0_5, .int .i64 a0_6, .int .i64 a0_7, .int .i64 a0_8, .int .i64 a0_9] 26 (0, 0)) (by (with_reducible repeat (first | refine blk_drewN ?_ _ | refine blk_drew ?_ | refine blk_alloc ?_ _)); exact BK113.out) k_ hn_)))) (below_size (by repeat (first | (with_reducible first | exact HB.out | apply below_alloc | apply pw_below_drewN | apply below_drew1 | refine below_set ?_ GE113.out) | exact HB.out)))); have n1_ := Aside0.mk (blk_below (g := gb113) (o := .cells #[.string a0_0, .int .i64 a0_1, .slice A0_2 l0_2.length c0_2, .slice A0_3 l0_3.length c0_3, .slice (some ad118) l0_4.length c0_4, .int .i64 a0_5, .int .i64 a0_6, .int .i64 a0_7, .int .i64 a0_8, .int .i64 a0_9] 26 (0, 0)) (by (with_reducible repeat (first | refine blk_drewN ?_ _ | refine blk_drew ?_ | refine blk_alloc ?_ _)); exact BK113.out) hb); have n2_ := Aside0.mk (below_step (by repeat (first | (with_reducible first | exact HB.out | apply below_alloc | apply pw_below_drewN | apply below_drew1 | refine below_set ?_ GE113.out) | exact HB.out)) hb); clear BK113; clear HB; have HO121 := n0_; have BK113 := n1_; have HB := n2_; clear n0_ n1_ n2_; (try clear hb); (try clear hb2); (try clear hk); (try clear hi); (try clear ho0)))
                    go_loopg [5, 10] k3 (fun kq v5 v10 w' => ∃ (x5_4 : Bool) (x10_4 : Int), v5 = .bool x5_4 ∧ v10 = .int .i64 x10_4 ∧ Aside0 (spinneretref09_fits.l2 kq x5_4 x8_3 t119 x10_4 a0_0 a0_1 l0_2 l0_3 l0_4 a0_5 a0_6 a0_7 a0_8 a0_9 = some r) ∧ Aside0 (kq ≤ k3) ∧ Aside0 (Kd.N (Kd.slice 40 k40) 33 w' w.heap.size (fun k_ => k_ ≠ gb113) v120 t119) ∧ Aside0 (w'.heap[gb113]? = some (.cells #[.string a0_0, .int .i64 a0_1, (.slice A0_2 l0_2.length c0_2), (.slice A0_3 l0_3.length c0_3), (.slice (some ad118) l0_4.length c0_4), .int .i64 a0_5, .int .i64 a0_6, .int .i64 a0_7, .int .i64 a0_8, .int .i64 a0_9] 26 (0, 0))) ∧ Aside0 (Below w.heap.size w w'))
                    case atStart => exact ⟨(x5_3), (0), (by first | rfl | (simp; done) | (simp [*]; done)), (by first | rfl | (simp; done) | (simp [*]; done)), H', ⟨Nat.le_refl _⟩, ⟨by (with_reducible repeat (first | apply Kd.N_alloc | apply Kd.N_drewN | apply Kd.N_drew)); exact HO121.out⟩, ⟨by (with_reducible repeat (first | refine blk_drewN ?_ _ | refine blk_drew ?_ | refine blk_alloc ?_ _)); exact BK113.out⟩, ⟨by repeat (first | (with_reducible first | exact HB.out | apply below_alloc | apply pw_below_drewN | apply below_drew1 | refine below_set ?_ GE113.out) | exact HB.out)⟩⟩
                    case round =>
                      clear H'
                      try clear c1
                      try clear p1
                      try clear q1
                      try clear hx1
                      try clear c2
                      try clear p2
                      try clear c6
                      try clear p6
                      try clear c11
                      try clear p11
                      try clear q11
                      try clear hx11
                      try clear c14
                      try clear c14b0
                      try clear c15
                      try clear c15b0
                      try clear c16
                      try clear c17
                      try clear c18
                      try clear c22
                      try clear c22b0
                      try clear c23
                      try clear c23b0
                      try clear c24
                      try clear hcz10_0
                      try clear hcz10_1
                      try clear hcz10_2
                      try clear hcz10_3
                      try clear hcz10_4
                      try clear hcz10_5
                      try clear hcz10_6
                      try clear hcz10_7
                      try clear hcz10_8
                      try clear hcz10_9
                      try clear hcz12_0
                      try clear hcz12_1
                      try clear hcz12_2
                      try clear hcz12_3
                      try clear hcz12_4
                      try clear hcz12_5
                      try clear hcz12_6
                      try clear hcz12_7
                      try clear hcz12_8
                      try clear hcz12_9
                      try clear hcz25_0
                      try clear hcz25_1
                      try clear hcz25_2
                      try clear hcz25_3
                      try clear hcz25_4
                      try clear hcz25_5
                      try clear hcz25_6
                      try clear hcz25_7
                      try clear hcz25_8
                      try clear hcz25_9
                      try clear hcz8_0
                      try clear hcz8_1
                      try clear hcz8_2
                      try clear hcz8_3
                      try clear hcz8_4
                      try clear hcz8_5
                      try clear hcz8_6
                      try clear hcz8_7
                      try clear hcz8_8
                      try clear hcz8_9
                      try clear hfz10_0
                      try clear hfz10_1
                      try clear hfz10_2
                      try clear hfz10_3
                      try clear hfz10_4
                      try clear hfz10_5
                      try clear hfz10_6
                      try clear hfz10_7
                      try clear hfz10_8
                      try clear hfz10_9
                      try clear hfz12_0
                      try clear hfz12_1
                      try clear hfz12_2
                      try clear hfz12_3
                      try clear hfz12_4
                      try clear hfz12_5
                      try clear hfz12_6
                      try clear hfz12_7
                      try clear hfz12_8
                      try clear hfz12_9
                      try clear hfz25_0
                      try clear hfz25_1
                      try clear hfz25_2
                      try clear hfz25_3
                      try clear hfz25_4
                      try clear hfz25_5
                      try clear hfz25_6
                      try clear hfz25_7
                      try clear hfz25_8
                      try clear hfz25_9
                      try clear hfz8_0
                      try clear hfz8_1
                      try clear hfz8_2
                      try clear hfz8_3
                      try clear hfz8_4
                      try clear hfz8_5
                      try clear hfz8_6
                      try clear hfz8_7
                      try clear hfz8_8
                      try clear hfz8_9
                      try clear hx116_0
                      try clear hx118_0
                      try clear hx118_1
                      try clear hx118_2
                      try clear hx118_3
                      try clear hx118_4
                      try clear hx118_5
                      try clear hx118_6
                      try clear p1
                      try clear p11
                      try clear p116
                      try clear p118
                      try clear p2
                      try clear p6
                      try clear q1
                      try clear q11
                      try clear q116
                      try clear q118
                      obtain ⟨x5_4, x10_4, rfl, rfl, HA, HK4, HO_9, BK113, HB⟩ := hrel
                      cases gk with
                      | zero => exact absurd HA.out (by simp [spinneretref09_fits.l2])
                      | succ k4 =>
                        have H := HA.out
                        clear HA
                        simp only [spinneretref09_fits.l2] at H
                        by_cases c27 : x10_4 < (t119.length : Int)
                        · rw [if_pos c27] at H
                          have c27b0 : decide (x10_4 < (t119.length : Int)) = true := decide_eq_true c27
                          clear c27
                          have H' := Aside0.mk H
                          clear H
                          obtain ⟨Ao28, co28, eo28⟩ := Kd.N_slice HO_9.out
                          subst eo28
                          go_wp2
                          go_loopg [5, 11] k4 (fun kq v5 v11 w' => ∃ (x5_5 : Bool) (x11_5 : Int), v5 = .bool x5_5 ∧ v11 = .int .i64 x11_5 ∧ Aside0 (spinneretref09_fits.l3 kq x5_5 x8_3 t119 x10_4 x11_5 a0_0 a0_1 l0_2 l0_3 l0_4 a0_5 a0_6 a0_7 a0_8 a0_9 = some r) ∧ Aside0 (kq ≤ k4) ∧ Aside0 (Kd.N (Kd.slice 40 k40) 33 w' w.heap.size (fun k_ => k_ ≠ gb113) (.slice Ao28 t119.length co28) t119) ∧ Aside0 (w'.heap[gb113]? = some (.cells #[.string a0_0, .int .i64 a0_1, (.slice A0_2 l0_2.length c0_2), (.slice A0_3 l0_3.length c0_3), (.slice (some ad118) l0_4.length c0_4), .int .i64 a0_5, .int .i64 a0_6, .int .i64 a0_7, .int .i64 a0_8, .int .i64 a0_9] 26 (0, 0))) ∧ Aside0 (Below w.heap.size w w'))
                          case atStart => exact ⟨(x5_4), (0), (by first | rfl | (simp; done) | (simp [*]; done)), (by first | rfl | (simp; done) | (simp [*]; done)), H', ⟨Nat.le_refl _⟩, ⟨by (with_reducible repeat (first | apply Kd.N_alloc | apply Kd.N_drewN | apply Kd.N_drew)); exact HO_9.out⟩, ⟨by (with_reducible repeat (first | refine blk_drewN ?_ _ | refine blk_drew ?_ | refine blk_alloc ?_ _)); exact BK113.out⟩, ⟨by repeat (first | (with_reducible first | exact HB.out | apply below_alloc | apply pw_below_drewN | apply below_drew1 | refine below_set ?_ GE113.out) | exact HB.out)⟩⟩
                          case round =>
                            clear H'
                            try clear c1
                            try clear p1
                            try clear q1
                            try clear hx1
                            try clear c2
                            try clear p2
                            try clear c6
                            try clear p6
                            try clear c11
                            try clear p11
                            try clear q11
                            try clear hx11
                            try clear c14
                            try clear c14b0
                            try clear c15
                            try clear c15b0
                            try clear c16
                            try clear c17
                            try clear c18
                            try clear c22
                            try clear c22b0
                            try clear c23
                            try clear c23b0
                            try clear c24
                            try clear c27
                            try clear c27b0
                            try clear hcz10_0
                            try clear hcz10_1
                            try clear hcz10_2
                            try clear hcz10_3
                            try clear hcz10_4
                            try clear hcz10_5
                            try clear hcz10_6
                            try clear hcz10_7
                            try clear hcz10_8
                            try clear hcz10_9
                            try clear hcz12_0
                            try clear hcz12_1
                            try clear hcz12_2
                            try clear hcz12_3
                            try clear hcz12_4
                            try clear hcz12_5
                            try clear hcz12_6
                            try clear hcz12_7
                            try clear hcz12_8
                            try clear hcz12_9
                            try clear hcz25_0
                            try clear hcz25_1
                            try clear hcz25_2
                            try clear hcz25_3
                            try clear hcz25_4
                            try clear hcz25_5
                            try clear hcz25_6
                            try clear hcz25_7
                            try clear hcz25_8
                            try clear hcz25_9
                            try clear hcz8_0
                            try clear hcz8_1
                            try clear hcz8_2
                            try clear hcz8_3
                            try clear hcz8_4
                            try clear hcz8_5
                            try clear hcz8_6
                            try clear hcz8_7
                            try clear hcz8_8
                            try clear hcz8_9
                            try clear hfz10_0
                            try clear hfz10_1
                            try clear hfz10_2
                            try clear hfz10_3
                            try clear hfz10_4
                            try clear hfz10_5
                            try clear hfz10_6
                            try clear hfz10_7
                            try clear hfz10_8
                            try clear hfz10_9
                            try clear hfz12_0
                            try clear hfz12_1
                            try clear hfz12_2
                            try clear hfz12_3
                            try clear hfz12_4
                            try clear hfz12_5
                            try clear hfz12_6
                            try clear hfz12_7
                            try clear hfz12_8
                            try clear hfz12_9
                            try clear hfz25_0
                            try clear hfz25_1
                            try clear hfz25_2
                            try clear hfz25_3
                            try clear hfz25_4
                            try clear hfz25_5
                            try clear hfz25_6
                            try clear hfz25_7
                            try clear hfz25_8
                            try clear hfz25_9
                            try clear hfz8_0
                            try clear hfz8_1
                            try clear hfz8_2
                            try clear hfz8_3
                            try clear hfz8_4
                            try clear hfz8_5
                            try clear hfz8_6
                            try clear hfz8_7
                            try clear hfz8_8
                            try clear hfz8_9
                            try clear hx116_0
                            try clear hx118_0
                            try clear hx118_1
                            try clear hx118_2
                            try clear hx118_3
                            try clear hx118_4
                            try clear hx118_5
                            try clear hx118_6
                            try clear p1
                            try clear p11
                            try clear p116
                            try clear p118
                            try clear p2
                            try clear p6
                            try clear q1
                            try clear q11
                            try clear q116
                            try clear q118
                            obtain ⟨x5_5, x11_5, rfl, rfl, HA, HK5, HO_9, BK113, HB⟩ := hrel
                            cases gk with
                            | zero => exact absurd HA.out (by simp [spinneretref09_fits.l3])
                            | succ k5 =>
                              have H := HA.out
                              clear HA
                              simp only [spinneretref09_fits.l3] at H
                              by_cases c29 : 0 ≤ x10_4
                              · rw [if_pos c29] at H
                                have c29b0 : decide (0 ≤ x10_4) = true := decide_eq_true c29
                                clear c29
                                by_cases c30 : x10_4 < (t119.length : Int)
                                · rw [if_pos c30] at H
                                  have c30b0 : decide (x10_4 < (t119.length : Int)) = true := decide_eq_true c30
                                  clear c30
                                  by_cases c31 : x11_5 < ((rd_L5 t119 x10_4).length : Int)
                                  · rw [if_pos c31] at H
                                    have c31b0 : decide (x11_5 < ((rd_L5 t119 x10_4).length : Int)) = true := decide_eq_true c31
                                    clear c31
                                    by_cases c32 : 0 ≤ x11_5
                                    · rw [if_pos c32] at H
                                      have c32b0 : decide (0 ≤ x11_5) = true := decide_eq_true c32
                                      clear c32
                                      replace H := Option.bind_eq_some_iff.mp H
                                      obtain ⟨t125, A330, H⟩ := H
                                      replace H : (if x5_5 = true then (spinneretref09_fits.l3 k5 t125 x8_3 t119 x10_4 (wrap64 (x11_5 + 1)) a0_0 a0_1 l0_2 l0_3 l0_4 a0_5 a0_6 a0_7 a0_8 a0_9) else (spinneretref09_fits.l3 k5 false x8_3 t119 x10_4 (wrap64 (x11_5 + 1)) a0_0 a0_1 l0_2 l0_3 l0_4 a0_5 a0_6 a0_7 a0_8 a0_9)) = some r := H
                                      have A33 := Aside0.mk A330
                                      clear A330
                                      by_cases c34 : x5_5 = true
                                      · subst c34
                                        have H1 : (spinneretref09_fits.l3 k5 t125 x8_3 t119 x10_4 (wrap64 (x11_5 + 1)) a0_0 a0_1 l0_2 l0_3 l0_4 a0_5 a0_6 a0_7 a0_8 a0_9) = some r := by rw [if_pos rfl] at H; exact H
                                        clear H
                                        have H := H1
                                        clear H1
                                        have H' := Aside0.mk H
                                        clear H
                                        have p122 : 0 ≤ (x10_4 : Int) := of_decide_eq_true (by first | (with_reducible assumption) | assumption)
                                        have q122 : x10_4 < (t119.length : Int) := of_decide_eq_true (by first | (with_reducible assumption) | assumption)
                                        obtain ⟨ad122, A122_0, c122_0, e122, hx122_0, hl122_0, hi122_0⟩ := at_L5 (Kd.N_reads' HO_9.out).2.2 x10_4 p122 q122
                                        cases e122
                                        obtain ⟨ce122, hce122, hMe122, hcc122⟩ := Kd.N_get HO_9.out [] x10_4 p122 (by first | exact q122 | exact of_decide_eq_true (by first | (with_reducible assumption) | assumption) | (have e_ := (Kd.N_reads' HO_9.out).1; omega))
                                        obtain ⟨ua122_0, uc122_0, rfl, ul122_0, ge122_0⟩ := Kd.FK_slice_open hMe122
                                        have hv122_0 := hcc122 0 _ rfl
                                        rw [Nat.add_zero, show ((Kd.slice 40 k40)).sz = 1 from rfl, Nat.mul_one] at hv122_0
                                        replace hv122_0 := Option.some.inj (hv122_0.symm.trans hx122_0)
                                        injection hv122_0 with hva_ hvn_ hvc_
                                        rw [hva_] at ge122_0
                                        rw [hvc_] at ul122_0
                                        have HL122_0 := Aside0.mk (show Kd.V k40 40 _ w.heap.size _ _ (rd_L5 t119 x10_4) from Kd.V_mk ul122_0 ge122_0)
                                        clear hva_ hvn_ hvc_ ge122_0 ul122_0
                                        clear hcc122 hce122
                                        have HR122_0 := Aside0.mk hi122_0
                                        have HC122_0 := Aside0.mk hl122_0
                                        clear hi122_0 hl122_0
                                        replace p122 := eq_true p122
                                        replace q122 := eq_true q122
                                        try go_wp2
                                        have n0_ := Aside0.mk (Kd.N_drew HO_9.out)
                                        have n1_ := Aside0.mk (Kd.V_drew HL122_0.out)
                                        have n2_ := Aside0.mk (blk_drew BK113.out)
                                        have n3_ := Aside0.mk (Kd.C_drew HR122_0.out)
                                        have n4_ := Aside0.mk (below_drew1 HB.out)
                                        clear HO_9
                                        clear HL122_0
                                        clear BK113
                                        clear HR122_0
                                        clear HB
                                        have HO_9 := n0_
                                        have HL122_0 := n1_
                                        have BK113 := n2_
                                        have HR122_0 := n3_
                                        have HB := n4_
                                        clear n0_ n1_ n2_ n3_ n4_
                                        have p123 : 0 ≤ (x10_4 : Int) := of_decide_eq_true (by first | (with_reducible assumption) | assumption)
                                        have q123 : x10_4 < (t119.length : Int) := of_decide_eq_true (by first | (with_reducible assumption) | assumption)
                                        obtain ⟨ad123, A123_0, c123_0, e123, hx123_0, hl123_0, hi123_0⟩ := at_L5 (Kd.N_reads' HO_9.out).2.2 x10_4 p123 q123
                                        obtain rfl : ad122 = ad123 := (by injection e123)
                                        obtain ⟨ce123, hce123, hMe123, hcc123⟩ := Kd.N_get HO_9.out [] x10_4 p123 (by first | exact q123 | exact of_decide_eq_true (by first | (with_reducible assumption) | assumption) | (have e_ := (Kd.N_reads' HO_9.out).1; omega))
                                        obtain ⟨ua123_0, uc123_0, rfl, ul123_0, ge123_0⟩ := Kd.FK_slice_open hMe123
                                        have hv123_0 := hcc123 0 _ rfl
                                        rw [Nat.add_zero, show ((Kd.slice 40 k40)).sz = 1 from rfl, Nat.mul_one] at hv123_0
                                        replace hv123_0 := Option.some.inj (hv123_0.symm.trans hx123_0)
                                        injection hv123_0 with hva_ hvn_ hvc_
                                        rw [hva_] at ge123_0
                                        rw [hvc_] at ul123_0
                                        have HL123_0 := Aside0.mk (show Kd.V k40 40 _ w.heap.size _ _ (rd_L5 t119 x10_4) from Kd.V_mk ul123_0 ge123_0)
                                        clear hva_ hvn_ hvc_ ge123_0 ul123_0
                                        clear hcc123 hce123
                                        have HR123_0 := Aside0.mk hi123_0
                                        have HC123_0 := Aside0.mk hl123_0
                                        clear hi123_0 hl123_0
                                        replace p123 := eq_true p123
                                        replace q123 := eq_true q123
                                        have p124 : 0 ≤ (x11_5 : Int) := of_decide_eq_true (by first | (with_reducible assumption) | assumption)
                                        have q124 : x11_5 < ((rd_L5 t119 x10_4).length : Int) := of_decide_eq_true (by first | (with_reducible assumption) | assumption)
                                        obtain ⟨ad124, A124_4, c124_4, A124_5, c124_5, e124, hx124_0, hx124_1, hx124_2, hx124_3, hx124_4, hx124_5, hx124_6, hx124_7, hx124_8, hl124_4, hi124_4, hl124_5, hi124_5⟩ := at_T40 (by repeat (first | (with_reducible exact HR123_0.out) | (with_reducible refine Kd.C_alloc ?_ _) | (with_reducible refine Kd.C_drewN ?_ _) | (with_reducible refine Kd.C_drew ?_) | exact HR123_0.out)) x11_5 p124 q124
                                        cases e124
                                        obtain ⟨ce124, hce124, hMe124, hcc124⟩ := Kd.V_get HL123_0.out z40 x11_5 p124 (by first | exact q124 | exact of_decide_eq_true (by first | (with_reducible assumption) | assumption) | (have e_ := (Kd.V_reads' HL123_0.out).1; omega))
                                        obtain ⟨ua124_4, uc124_4, ua124_5, uc124_5, rfl, ul124_4, ge124_4, ul124_5, ge124_5⟩ := k40_openF hMe124
                                        have hv124_4 := hcc124 4 _ rfl
                                        rw [add_field _ _ 4 (by omega)] at hv124_4
                                        replace hv124_4 := Option.some.inj (hv124_4.symm.trans hx124_4)
                                        injection hv124_4 with hva_ hvn_ hvc_
                                        rw [hva_] at ge124_4
                                        rw [hvc_] at ul124_4
                                        have HL124_4 := Aside0.mk (show Kd.V (Kd.int .i64) 3 _ w.heap.size _ _ ((rd_T40 (rd_L5 t119 x10_4) x11_5).f0.f4) from Kd.V_mk ul124_4 ge124_4)
                                        clear hva_ hvn_ hvc_ ge124_4 ul124_4
                                        have hv124_5 := hcc124 5 _ rfl
                                        rw [add_field _ _ 5 (by omega)] at hv124_5
                                        replace hv124_5 := Option.some.inj (hv124_5.symm.trans hx124_5)
                                        injection hv124_5 with hva_ hvn_ hvc_
                                        rw [hva_] at ge124_5
                                        rw [hvc_] at ul124_5
                                        have HL124_5 := Aside0.mk (show Kd.V (Kd.int .i64) 3 _ w.heap.size _ _ ((rd_T40 (rd_L5 t119 x10_4) x11_5).f0.f5) from Kd.V_mk ul124_5 ge124_5)
                                        clear hva_ hvn_ hvc_ ge124_5 ul124_5
                                        clear hcc124 hce124
                                        have HR124_4 := Aside0.mk hi124_4
                                        have HC124_4 := Aside0.mk hl124_4
                                        clear hi124_4 hl124_4
                                        have HR124_5 := Aside0.mk hi124_5
                                        have HC124_5 := Aside0.mk hl124_5
                                        clear hi124_5 hl124_5
                                        replace p124 := eq_true p124
                                        replace q124 := eq_true q124
                                        refine start_ (n := 11) (S := fun w' => w'.cell? ⟨gb113, 0, none⟩ = some (.string a0_0) ∧ w'.cell? ⟨gb113, 1, none⟩ = some (.int .i64 a0_1) ∧ w'.cell? ⟨gb113, 2, none⟩ = some (.slice A0_2 l0_2.length c0_2) ∧ w'.cell? ⟨gb113, 3, none⟩ = some (.slice A0_3 l0_3.length c0_3) ∧ w'.cell? ⟨gb113, 4, none⟩ = some (.slice (some ad118) l0_4.length c0_4) ∧ w'.cell? ⟨gb113, 5, none⟩ = some (.int .i64 a0_5) ∧ w'.cell? ⟨gb113, 6, none⟩ = some (.int .i64 a0_6) ∧ w'.cell? ⟨gb113, 7, none⟩ = some (.int .i64 a0_7) ∧ w'.cell? ⟨gb113, 8, none⟩ = some (.int .i64 a0_8) ∧ w'.cell? ⟨gb113, 9, none⟩ = some (.int .i64 a0_9) ∧ w'.cell? (ad122.add (x10_4).toNat) = some (.slice (some ad124) (rd_L5 t119 x10_4).length c123_0) ∧ w'.cell? (ad124.add ((x11_5).toNat * 9)) = some (.int .i64 ((rd_T40 (rd_L5 t119 x10_4) x11_5).f0.f0)) ∧ w'.cell? ⟨(ad124.add ((x11_5).toNat * 9)).block, (ad124.add ((x11_5).toNat * 9)).off + 1, none⟩ = some (.int .i64 ((rd_T40 (rd_L5 t119 x10_4) x11_5).f0.f1)) ∧ w'.cell? ⟨(ad124.add ((x11_5).toNat * 9)).block, (ad124.add ((x11_5).toNat * 9)).off + 2, none⟩ = some (.int .i64 ((rd_T40 (rd_L5 t119 x10_4) x11_5).f0.f2)) ∧ w'.cell? ⟨(ad124.add ((x11_5).toNat * 9)).block, (ad124.add ((x11_5).toNat * 9)).off + 3, none⟩ = some (.int .i64 ((rd_T40 (rd_L5 t119 x10_4) x11_5).f0.f3)) ∧ w'.cell? ⟨(ad124.add ((x11_5).toNat * 9)).block, (ad124.add ((x11_5).toNat * 9)).off + 4, none⟩ = some (.slice A124_4 ((rd_T40 (rd_L5 t119 x10_4) x11_5).f0.f4).length c124_4) ∧ w'.cell? ⟨(ad124.add ((x11_5).toNat * 9)).block, (ad124.add ((x11_5).toNat * 9)).off + 5, none⟩ = some (.slice A124_5 ((rd_T40 (rd_L5 t119 x10_4) x11_5).f0.f5).length c124_5) ∧ w'.cell? ⟨(ad124.add ((x11_5).toNat * 9)).block, (ad124.add ((x11_5).toNat * 9)).off + 6, none⟩ = some (.string ((rd_T40 (rd_L5 t119 x10_4) x11_5).f0.f6)) ∧ w'.cell? ⟨(ad124.add ((x11_5).toNat * 9)).block, (ad124.add ((x11_5).toNat * 9)).off + 7, none⟩ = some (.int .i64 ((rd_T40 (rd_L5 t119 x10_4) x11_5).f1)) ∧ w'.cell? ⟨(ad124.add ((x11_5).toNat * 9)).block, (ad124.add ((x11_5).toNat * 9)).off + 8, none⟩ = some (.int .i64 ((rd_T40 (rd_L5 t119 x10_4) x11_5).f2))) (ds := []) #[false, false, false, false, false, false, false, false, false, false, false] (by kernel_rfl) rfl rfl ⟨(blk_cell BK113.out 0).trans rfl, (blk_cell BK113.out 1).trans rfl, (blk_cell BK113.out 2).trans rfl, (blk_cell BK113.out 3).trans rfl, (blk_cell BK113.out 4).trans rfl, (blk_cell BK113.out 5).trans rfl, (blk_cell BK113.out 6).trans rfl, (blk_cell BK113.out 7).trans rfl, (blk_cell BK113.out 8).trans rfl, (blk_cell BK113.out 9).trans rfl, hx123_0, hx124_0, hx124_1, hx124_2, hx124_3, hx124_4, hx124_5, hx124_6, hx124_7, hx124_8⟩ (fun hHeld => ?_); refine with_tabW spinneretref09_fits.tab17 spinneretref09_fits.bits17 (fun HT_ HW_ => ?_)
                                        generalize wr.drew = w35 at HO_9 HL122_0 BK113 HR122_0 HB HL123_0 HL124_4 HL124_5 HR123_0 HR124_4 HR124_5 hx123_0 hx124_0 hx124_1 hx124_2 hx124_3 hx124_4 hx124_5 hx124_6 hx124_7 hx124_8 hHeld ⊢
                                        refine pure_ (i := 1) (N := some 68) (v := ?_) (a' := ?_) #[false, true, false, false, false, false, false, false, false, false, false] rfl rfl (any_of HT_.out (by kernel_rfl)) (fun _ _ _ h => h) (Or.inl ⟨by rfl, ?_⟩) ?_ ?_
                                        rotate_left
                                        · intro w'
                                          go_simp
                                          with_reducible rfl
                                        rotate_left
                                        · simp only [Act.put, List.setIfInBounds_toArray, List.set_cons_zero, List.set_cons_succ, i64_w, i32_w]
                                          rfl
                                        refine pure_ (i := 2) (N := some 69) (v := ?_) (a' := ?_) #[false, true, true, false, false, false, false, false, false, false, false] rfl rfl (any_of HT_.out (by kernel_rfl)) (fun _ _ _ h => h) (Or.inl ⟨by rfl, ?_⟩) ?_ ?_
                                        rotate_left
                                        · intro w'
                                          go_simp
                                          with_reducible rfl
                                        rotate_left
                                        · simp only [Act.put, List.setIfInBounds_toArray, List.set_cons_zero, List.set_cons_succ, i64_w, i32_w]
                                          rfl
                                        refine pure_ (i := 3) (N := some 70) (v := ?_) (a' := ?_) #[false, true, true, true, false, false, false, false, false, false, false] rfl rfl (any_of HT_.out (by kernel_rfl)) (fun _ _ _ h => h) (Or.inl ⟨by rfl, ?_⟩) ?_ ?_
                                        rotate_left
                                        · intro w'
                                          go_simp
                                          with_reducible rfl
                                        rotate_left
                                        · simp only [Act.put, List.setIfInBounds_toArray, List.set_cons_zero, List.set_cons_succ, i64_w, i32_w]
                                          rfl
                                        refine pure_ (i := 5) (N := some 72) (v := ?_) (a' := ?_) #[false, true, true, true, false, true, false, false, false, false, false] rfl rfl (any_of HT_.out (by kernel_rfl)) (fun _ _ _ h => h) (Or.inl ⟨by rfl, ?_⟩) ?_ ?_
                                        rotate_left
                                        · intro w'
                                          go_simp
                                          with_reducible rfl
                                        rotate_left
                                        · simp only [Act.put, List.setIfInBounds_toArray, List.set_cons_zero, List.set_cons_succ, i64_w, i32_w]
                                          rfl
                                        refine take_ (i := 0) (N := some 67) (v := ?_) (a' := ?_) #[true, true, true, true, false, true, false, false, false, false, false] rfl rfl (take_ofW HT_.out HW_.out (by kernel_rfl)) (fun _ _ _ h => h) (Or.inl ⟨by rfl, ?_⟩) hHeld ?_ ?_
                                        rotate_left
                                        · rintro w' ⟨s0, s1, s2, s3, s4, s5, s6, s7, s8, s9, s10, s11, s12, s13, s14, s15, s16, s17, s18, s19⟩
                                          go_simp
                                          with_reducible rfl
                                        rotate_left
                                        · simp only [Act.put, List.setIfInBounds_toArray, List.set_cons_zero, List.set_cons_succ, i64_w, i32_w]
                                          rfl
                                        refine take_ (i := 4) (N := some 71) (v := ?_) (a' := ?_) #[true, true, true, true, true, true, false, false, false, false, false] rfl rfl (take_ofW HT_.out HW_.out (by kernel_rfl)) (fun _ _ _ h => h) (Or.inl ⟨by rfl, ?_⟩) hHeld ?_ ?_
                                        rotate_left
                                        · rintro w' ⟨s0, s1, s2, s3, s4, s5, s6, s7, s8, s9, s10, s11, s12, s13, s14, s15, s16, s17, s18, s19⟩
                                          go_simp
                                          with_reducible rfl
                                        rotate_left
                                        · simp only [Act.put, List.setIfInBounds_toArray, List.set_cons_zero, List.set_cons_succ, i64_w, i32_w]
                                          rfl
                                        refine pure_ (i := 6) (N := some 73) (v := ?_) (a' := ?_) #[true, true, true, true, true, true, true, false, false, false, false] rfl rfl (any_of HT_.out (by kernel_rfl)) (fun _ _ _ h => h) (Or.inl ⟨by rfl, ?_⟩) ?_ ?_
                                        rotate_left
                                        · intro w'
                                          go_simp
                                          with_reducible rfl
                                        rotate_left
                                        · simp only [Act.put, List.setIfInBounds_toArray, List.set_cons_zero, List.set_cons_succ, i64_w, i32_w]
                                          rfl
                                        refine pure_ (i := 7) (N := some 74) (v := ?_) (a' := ?_) #[true, true, true, true, true, true, true, true, false, false, false] rfl rfl (any_of HT_.out (by kernel_rfl)) (fun _ _ _ h => h) (Or.inl ⟨by rfl, ?_⟩) ?_ ?_
                                        rotate_left
                                        · intro w'
                                          go_simp
                                          with_reducible rfl
                                        rotate_left
                                        · simp only [Act.put, List.setIfInBounds_toArray, List.set_cons_zero, List.set_cons_succ, i64_w, i32_w]
                                          rfl
                                        refine take_ (i := 8) (N := some 75) (v := ?_) (a' := ?_) #[true, true, true, true, true, true, true, true, true, false, false] rfl rfl (take_ofW HT_.out HW_.out (by kernel_rfl)) (fun _ _ _ h => h) (Or.inl ⟨by rfl, ?_⟩) hHeld ?_ ?_
                                        rotate_left
                                        · rintro w' ⟨s0, s1, s2, s3, s4, s5, s6, s7, s8, s9, s10, s11, s12, s13, s14, s15, s16, s17, s18, s19⟩
                                          go_simp
                                          with_reducible rfl
                                        rotate_left
                                        · simp only [Act.put, List.setIfInBounds_toArray, List.set_cons_zero, List.set_cons_succ, i64_w, i32_w]
                                          rfl
                                        refine one_ (i := 9) (N := some 76) #[true, true, true, true, true, true, true, true, true, true, false] rfl rfl (one_of HT_.out (by kernel_rfl)) (by decide) (fun K hK => ?_)
                                        refine goes_ Try.func24 (by kernel_rfl) rfl #[.agg #[.string a0_0, .int .i64 a0_1, .slice A0_2 l0_2.length c0_2, .slice A0_3 l0_3.length c0_3, .slice (some ad118) l0_4.length c0_4, .int .i64 a0_5, .int .i64 a0_6, .int .i64 a0_7, .int .i64 a0_8, .int .i64 a0_9], .int .i64 ((rd_T40 (rd_L5 t119 x10_4) x11_5).f1)] (by rfl) rfl rfl (by (try simp only [List.map_toArray, List.map_cons, List.map_nil]); first | done | rfl | (simp only [List.length_drop, List.length_take]; rfl)) ?_
                                        with_reducible refine (spinneretref09_inside.calls a0_0 a0_1 _ _ l0_2 _ _ l0_3 _ _ l0_4 a0_5 a0_6 a0_7 a0_8 a0_9 ((rd_T40 (rd_L5 t119 x10_4) x11_5).f1) t125 _ ?side1 ?side2 ?side3 ?side4 ?side5 ?side6 A33.out).mono ?_
                                        (case side1 => repeat (first | exact (Kd.C_below HR0_2.out HB.out) | (with_reducible refine Kd.C_alloc ?_ _) | (with_reducible refine Kd.C_drewN ?_ _) | (with_reducible refine Kd.C_drew ?_)))
                                        (case side2 => exact HC0_2.out)
                                        (case side3 => repeat (first | exact (Kd.C_below HR0_3.out HB.out) | (with_reducible refine Kd.C_alloc ?_ _) | (with_reducible refine Kd.C_drewN ?_ _) | (with_reducible refine Kd.C_drew ?_)))
                                        (case side4 => exact HC0_3.out)
                                        (case side5 => repeat (first | exact (Kd.C_below HR0_4.out HB.out) | (with_reducible refine Kd.C_alloc ?_ _) | (with_reducible refine Kd.C_drewN ?_ _) | (with_reducible refine Kd.C_drew ?_)))
                                        (case side6 => exact HC0_4.out)
                                        rintro e w36 ⟨rfl, hb⟩
                                        have HS10_ := (hb.cell (World.block_lt_of_cell? _ _ (hHeld.2.2.2.2.2.2.2.2.2.2.1))).trans (hHeld.2.2.2.2.2.2.2.2.2.2.1)
                                        have HS11_ := (hb.cell (World.block_lt_of_cell? _ _ (hHeld.2.2.2.2.2.2.2.2.2.2.2.1))).trans (hHeld.2.2.2.2.2.2.2.2.2.2.2.1)
                                        have HS12_ := (hb.cell (World.block_lt_of_cell? _ _ (hHeld.2.2.2.2.2.2.2.2.2.2.2.2.1))).trans (hHeld.2.2.2.2.2.2.2.2.2.2.2.2.1)
                                        have HS13_ := (hb.cell (World.block_lt_of_cell? _ _ (hHeld.2.2.2.2.2.2.2.2.2.2.2.2.2.1))).trans (hHeld.2.2.2.2.2.2.2.2.2.2.2.2.2.1)
                                        have HS14_ := (hb.cell (World.block_lt_of_cell? _ _ (hHeld.2.2.2.2.2.2.2.2.2.2.2.2.2.2.1))).trans (hHeld.2.2.2.2.2.2.2.2.2.2.2.2.2.2.1)
                                        have HS15_ := (hb.cell (World.block_lt_of_cell? _ _ (hHeld.2.2.2.2.2.2.2.2.2.2.2.2.2.2.2.1))).trans (hHeld.2.2.2.2.2.2.2.2.2.2.2.2.2.2.2.1)
                                        have HS16_ := (hb.cell (World.block_lt_of_cell? _ _ (hHeld.2.2.2.2.2.2.2.2.2.2.2.2.2.2.2.2.1))).trans (hHeld.2.2.2.2.2.2.2.2.2.2.2.2.2.2.2.2.1)
                                        have HS17_ := (hb.cell (World.block_lt_of_cell? _ _ (hHeld.2.2.2.2.2.2.2.2.2.2.2.2.2.2.2.2.2.1))).trans (hHeld.2.2.2.2.2.2.2.2.2.2.2.2.2.2.2.2.2.1)
                                        have HS18_ := (hb.cell (World.block_lt_of_cell? _ _ (hHeld.2.2.2.2.2.2.2.2.2.2.2.2.2.2.2.2.2.2.1))).trans (hHeld.2.2.2.2.2.2.2.2.2.2.2.2.2.2.2.2.2.2.1)
                                        have HS19_ := (hb.cell (World.block_lt_of_cell? _ _ (hHeld.2.2.2.2.2.2.2.2.2.2.2.2.2.2.2.2.2.2.2))).trans (hHeld.2.2.2.2.2.2.2.2.2.2.2.2.2.2.2.2.2.2.2)
                                        refine ⟨_, rfl, ?_⟩
                                        have n0_ := Aside0.mk (Kd.N_below (by (with_reducible repeat (first | apply Kd.N_alloc | apply Kd.N_drewN | apply Kd.N_drew)); exact HO_9.out) hb)
                                        have n1_ := Aside0.mk (Kd.V_below (by (with_reducible repeat (first | apply Kd.V_alloc | apply Kd.V_drewN | apply Kd.V_drew)); exact HL122_0.out) hb)
                                        have n2_ := Aside0.mk (Kd.V_below (by (with_reducible repeat (first | apply Kd.V_alloc | apply Kd.V_drewN | apply Kd.V_drew)); exact HL123_0.out) hb)
                                        have n3_ := Aside0.mk (Kd.V_below (by (with_reducible repeat (first | apply Kd.V_alloc | apply Kd.V_drewN | apply Kd.V_drew)); exact HL124_4.out) hb)
                                        have n4_ := Aside0.mk (Kd.V_below (by (with_reducible repeat (first | apply Kd.V_alloc | apply Kd.V_drewN | apply Kd.V_drew)); exact HL124_5.out) hb)
                                        have n5_ := Aside0.mk (blk_below (g := gb113) (o := .cells #[.string a0_0, .int .i64 a0_1, .slice A0_2 l0_2.length c0_2, .slice A0_3 l0_3.length c0_3, .slice (some ad118) l0_4.length c0_4, .int .i64 a0_5, .int .i64 a0_6, .int .i64 a0_7, .int .i64 a0_8, .int .i64 a0_9] 26 (0, 0)) (by (with_reducible repeat (first | refine blk_drewN ?_ _ | refine blk_drew ?_ | refine blk_alloc ?_ _)); exact BK113.out) hb)
                                        have n6_ := Aside0.mk (Kd.C_below (by repeat (first | (with_reducible exact HR122_0.out) | (with_reducible refine Kd.C_alloc ?_ _) | (with_reducible refine Kd.C_drewN ?_ _) | (with_reducible refine Kd.C_drew ?_) | exact HR122_0.out)) hb)
                                        have n7_ := Aside0.mk (Kd.C_below (by repeat (first | (with_reducible exact HR123_0.out) | (with_reducible refine Kd.C_alloc ?_ _) | (with_reducible refine Kd.C_drewN ?_ _) | (with_reducible refine Kd.C_drew ?_) | exact HR123_0.out)) hb)
                                        have n8_ := Aside0.mk (Kd.C_below (by repeat (first | (with_reducible exact HR124_4.out) | (with_reducible refine Kd.C_alloc ?_ _) | (with_reducible refine Kd.C_drewN ?_ _) | (with_reducible refine Kd.C_drew ?_) | exact HR124_4.out)) hb)
                                        have n9_ := Aside0.mk (Kd.C_below (by repeat (first | (with_reducible exact HR124_5.out) | (with_reducible refine Kd.C_alloc ?_ _) | (with_reducible refine Kd.C_drewN ?_ _) | (with_reducible refine Kd.C_drew ?_) | exact HR124_5.out)) hb)
                                        have n10_ := Aside0.mk (below_step (by repeat (first | (with_reducible first | exact HB.out | apply below_alloc | apply pw_below_drewN | apply below_drew1 | refine below_set ?_ GE113.out) | exact HB.out)) hb)
                                        clear HO_9
                                        clear HL122_0
                                        clear HL123_0
                                        clear HL124_4
                                        clear HL124_5
                                        clear BK113
                                        clear HR122_0
                                        clear HR123_0
                                        clear HR124_4
                                        clear HR124_5
                                        clear HB
                                        have HO_9 := n0_
                                        have HL122_0 := n1_
                                        have HL123_0 := n2_
                                        have HL124_4 := n3_
                                        have HL124_5 := n4_
                                        have BK113 := n5_
                                        have HR122_0 := n6_
                                        have HR123_0 := n7_
                                        have HR124_4 := n8_
                                        have HR124_5 := n9_
                                        have HB := n10_
                                        clear n0_ n1_ n2_ n3_ n4_ n5_ n6_ n7_ n8_ n9_ n10_
                                        (try clear hb)
                                        (try clear hb2)
                                        (try clear hk)
                                        (try clear hi)
                                        refine hK.out _ _ ⟨(blk_cell BK113.out 0).trans rfl, (blk_cell BK113.out 1).trans rfl, (blk_cell BK113.out 2).trans rfl, (blk_cell BK113.out 3).trans rfl, (blk_cell BK113.out 4).trans rfl, (blk_cell BK113.out 5).trans rfl, (blk_cell BK113.out 6).trans rfl, (blk_cell BK113.out 7).trans rfl, (blk_cell BK113.out 8).trans rfl, (blk_cell BK113.out 9).trans rfl, HS10_, HS11_, HS12_, HS13_, HS14_, HS15_, HS16_, HS17_, HS18_, HS19_⟩ (fun hHeld => ?_)
                                        clear hK K
                                        refine norm_ (a' := ?_) ?_ ?_
                                        rotate_left
                                        · show Act.put _ (some 76) _ = _
                                          simp only [Act.put, List.setIfInBounds_toArray, List.set_cons_zero, List.set_cons_succ, i64_w, i32_w]
                                          rfl
                                        refine pure_ (i := 10) (N := some 12) (v := ?_) (a' := ?_) #[true, true, true, true, true, true, true, true, true, true, true] rfl rfl (any_of HT_.out (by kernel_rfl)) (fun _ _ _ h => h) (Or.inl ⟨by rfl, ?_⟩) ?_ ?_
                                        rotate_left
                                        · intro w'
                                          go_simp
                                          with_reducible rfl
                                        rotate_left
                                        · simp only [Act.put, List.setIfInBounds_toArray, List.set_cons_zero, List.set_cons_succ, i64_w, i32_w]
                                          rfl
                                        refine done_ (done_of HT_.out (by kernel_rfl)) ?_
                                        try go_wp2
                                        go_roundg k5
                                        case measure => have := HJ2.out; have := HK2.out; have := HK3.out; have := HK4.out; have := HK5.out; omega
                                        case rel => exact ⟨(t125), (wrap64 (x11_5 + 1)), (by first | rfl | (simp; done) | (simp [*]; done)), (by first | rfl | (simp; done) | (simp [*]; done)), H', ⟨by have := HJ2.out; have := HK2.out; have := HK3.out; have := HK4.out; have := HK5.out; omega⟩, ⟨by (with_reducible repeat (first | apply Kd.N_alloc | apply Kd.N_drewN | apply Kd.N_drew)); exact HO_9.out⟩, ⟨by (with_reducible repeat (first | refine blk_drewN ?_ _ | refine blk_drew ?_ | refine blk_alloc ?_ _)); exact BK113.out⟩, ⟨by repeat (first | (with_reducible first | exact HB.out | apply below_alloc | apply pw_below_drewN | apply below_drew1 | refine below_set ?_ GE113.out) | exact HB.out)⟩⟩
                                      · replace c34 := Bool.eq_false_iff.mpr c34
                                        subst c34
                                        have H1 : (spinneretref09_fits.l3 k5 false x8_3 t119 x10_4 (wrap64 (x11_5 + 1)) a0_0 a0_1 l0_2 l0_3 l0_4 a0_5 a0_6 a0_7 a0_8 a0_9) = some r := by rw [if_neg (show ¬ (false = true) by decide)] at H; exact H
                                        clear H
                                        have H := H1
                                        clear H1
                                        have H' := Aside0.mk H
                                        clear H
                                        have p122 : 0 ≤ (x10_4 : Int) := of_decide_eq_true (by first | (with_reducible assumption) | assumption)
                                        have q122 : x10_4 < (t119.length : Int) := of_decide_eq_true (by first | (with_reducible assumption) | assumption)
                                        obtain ⟨ad122, A122_0, c122_0, e122, hx122_0, hl122_0, hi122_0⟩ := at_L5 (Kd.N_reads' HO_9.out).2.2 x10_4 p122 q122
                                        cases e122
                                        obtain ⟨ce122, hce122, hMe122, hcc122⟩ := Kd.N_get HO_9.out [] x10_4 p122 (by first | exact q122 | exact of_decide_eq_true (by first | (with_reducible assumption) | assumption) | (have e_ := (Kd.N_reads' HO_9.out).1; omega))
                                        obtain ⟨ua122_0, uc122_0, rfl, ul122_0, ge122_0⟩ := Kd.FK_slice_open hMe122
                                        have hv122_0 := hcc122 0 _ rfl
                                        rw [Nat.add_zero, show ((Kd.slice 40 k40)).sz = 1 from rfl, Nat.mul_one] at hv122_0
                                        replace hv122_0 := Option.some.inj (hv122_0.symm.trans hx122_0)
                                        injection hv122_0 with hva_ hvn_ hvc_
                                        rw [hva_] at ge122_0
                                        rw [hvc_] at ul122_0
                                        have HL122_0 := Aside0.mk (show Kd.V k40 40 _ w.heap.size _ _ (rd_L5 t119 x10_4) from Kd.V_mk ul122_0 ge122_0)
                                        clear hva_ hvn_ hvc_ ge122_0 ul122_0
                                        clear hcc122 hce122
                                        have HR122_0 := Aside0.mk hi122_0
                                        have HC122_0 := Aside0.mk hl122_0
                                        clear hi122_0 hl122_0
                                        replace p122 := eq_true p122
                                        replace q122 := eq_true q122
                                        try go_wp2
                                        have n0_ := Aside0.mk (Kd.N_drew HO_9.out)
                                        have n1_ := Aside0.mk (Kd.V_drew HL122_0.out)
                                        have n2_ := Aside0.mk (blk_drew BK113.out)
                                        have n3_ := Aside0.mk (Kd.C_drew HR122_0.out)
                                        have n4_ := Aside0.mk (below_drew1 HB.out)
                                        clear HO_9
                                        clear HL122_0
                                        clear BK113
                                        clear HR122_0
                                        clear HB
                                        have HO_9 := n0_
                                        have HL122_0 := n1_
                                        have BK113 := n2_
                                        have HR122_0 := n3_
                                        have HB := n4_
                                        clear n0_ n1_ n2_ n3_ n4_
                                        have p123 : 0 ≤ (x10_4 : Int) := of_decide_eq_true (by first | (with_reducible assumption) | assumption)
                                        have q123 : x10_4 < (t119.length : Int) := of_decide_eq_true (by first | (with_reducible assumption) | assumption)
                                        obtain ⟨ad123, A123_0, c123_0, e123, hx123_0, hl123_0, hi123_0⟩ := at_L5 (Kd.N_reads' HO_9.out).2.2 x10_4 p123 q123
                                        obtain rfl : ad122 = ad123 := (by injection e123)
                                        obtain ⟨ce123, hce123, hMe123, hcc123⟩ := Kd.N_get HO_9.out [] x10_4 p123 (by first | exact q123 | exact of_decide_eq_true (by first | (with_reducible assumption) | assumption) | (have e_ := (Kd.N_reads' HO_9.out).1; omega))
                                        obtain ⟨ua123_0, uc123_0, rfl, ul123_0, ge123_0⟩ := Kd.FK_slice_open hMe123
                                        have hv123_0 := hcc123 0 _ rfl
                                        rw [Nat.add_zero, show ((Kd.slice 40 k40)).sz = 1 from rfl, Nat.mul_one] at hv123_0
                                        replace hv123_0 := Option.some.inj (hv123_0.symm.trans hx123_0)
                                        injection hv123_0 with hva_ hvn_ hvc_
                                        rw [hva_] at ge123_0
                                        rw [hvc_] at ul123_0
                                        have HL123_0 := Aside0.mk (show Kd.V k40 40 _ w.heap.size _ _ (rd_L5 t119 x10_4) from Kd.V_mk ul123_0 ge123_0)
                                        clear hva_ hvn_ hvc_ ge123_0 ul123_0
                                        clear hcc123 hce123
                                        have HR123_0 := Aside0.mk hi123_0
                                        have HC123_0 := Aside0.mk hl123_0
                                        clear hi123_0 hl123_0
                                        replace p123 := eq_true p123
                                        replace q123 := eq_true q123
                                        have p124 : 0 ≤ (x11_5 : Int) := of_decide_eq_true (by first | (with_reducible assumption) | assumption)
                                        have q124 : x11_5 < ((rd_L5 t119 x10_4).length : Int) := of_decide_eq_true (by first | (with_reducible assumption) | assumption)
                                        obtain ⟨ad124, A124_4, c124_4, A124_5, c124_5, e124, hx124_0, hx124_1, hx124_2, hx124_3, hx124_4, hx124_5, hx124_6, hx124_7, hx124_8, hl124_4, hi124_4, hl124_5, hi124_5⟩ := at_T40 (by repeat (first | (with_reducible exact HR123_0.out) | (with_reducible refine Kd.C_alloc ?_ _) | (with_reducible refine Kd.C_drewN ?_ _) | (with_reducible refine Kd.C_drew ?_) | exact HR123_0.out)) x11_5 p124 q124
                                        cases e124
                                        obtain ⟨ce124, hce124, hMe124, hcc124⟩ := Kd.V_get HL123_0.out z40 x11_5 p124 (by first | exact q124 | exact of_decide_eq_true (by first | (with_reducible assumption) | assumption) | (have e_ := (Kd.V_reads' HL123_0.out).1; omega))
                                        obtain ⟨ua124_4, uc124_4, ua124_5, uc124_5, rfl, ul124_4, ge124_4, ul124_5, ge124_5⟩ := k40_openF hMe124
                                        have hv124_4 := hcc124 4 _ rfl
                                        rw [add_field _ _ 4 (by omega)] at hv124_4
                                        replace hv124_4 := Option.some.inj (hv124_4.symm.trans hx124_4)
                                        injection hv124_4 with hva_ hvn_ hvc_
                                        rw [hva_] at ge124_4
                                        rw [hvc_] at ul124_4
                                        have HL124_4 := Aside0.mk (show Kd.V (Kd.int .i64) 3 _ w.heap.size _ _ ((rd_T40 (rd_L5 t119 x10_4) x11_5).f0.f4) from Kd.V_mk ul124_4 ge124_4)
                                        clear hva_ hvn_ hvc_ ge124_4 ul124_4
                                        have hv124_5 := hcc124 5 _ rfl
                                        rw [add_field _ _ 5 (by omega)] at hv124_5
                                        replace hv124_5 := Option.some.inj (hv124_5.symm.trans hx124_5)
                                        injection hv124_5 with hva_ hvn_ hvc_
                                        rw [hva_] at ge124_5
                                        rw [hvc_] at ul124_5
                                        have HL124_5 := Aside0.mk (show Kd.V (Kd.int .i64) 3 _ w.heap.size _ _ ((rd_T40 (rd_L5 t119 x10_4) x11_5).f0.f5) from Kd.V_mk ul124_5 ge124_5)
                                        clear hva_ hvn_ hvc_ ge124_5 ul124_5
                                        clear hcc124 hce124
                                        have HR124_4 := Aside0.mk hi124_4
                                        have HC124_4 := Aside0.mk hl124_4
                                        clear hi124_4 hl124_4
                                        have HR124_5 := Aside0.mk hi124_5
                                        have HC124_5 := Aside0.mk hl124_5
                                        clear hi124_5 hl124_5
                                        replace p124 := eq_true p124
                                        replace q124 := eq_true q124
                                        refine start_ (n := 11) (S := fun w' => w'.cell? ⟨gb113, 0, none⟩ = some (.string a0_0) ∧ w'.cell? ⟨gb113, 1, none⟩ = some (.int .i64 a0_1) ∧ w'.cell? ⟨gb113, 2, none⟩ = some (.slice A0_2 l0_2.length c0_2) ∧ w'.cell? ⟨gb113, 3, none⟩ = some (.slice A0_3 l0_3.length c0_3) ∧ w'.cell? ⟨gb113, 4, none⟩ = some (.slice (some ad118) l0_4.length c0_4) ∧ w'.cell? ⟨gb113, 5, none⟩ = some (.int .i64 a0_5) ∧ w'.cell? ⟨gb113, 6, none⟩ = some (.int .i64 a0_6) ∧ w'.cell? ⟨gb113, 7, none⟩ = some (.int .i64 a0_7) ∧ w'.cell? ⟨gb113, 8, none⟩ = some (.int .i64 a0_8) ∧ w'.cell? ⟨gb113, 9, none⟩ = some (.int .i64 a0_9) ∧ w'.cell? (ad122.add (x10_4).toNat) = some (.slice (some ad124) (rd_L5 t119 x10_4).length c123_0) ∧ w'.cell? (ad124.add ((x11_5).toNat * 9)) = some (.int .i64 ((rd_T40 (rd_L5 t119 x10_4) x11_5).f0.f0)) ∧ w'.cell? ⟨(ad124.add ((x11_5).toNat * 9)).block, (ad124.add ((x11_5).toNat * 9)).off + 1, none⟩ = some (.int .i64 ((rd_T40 (rd_L5 t119 x10_4) x11_5).f0.f1)) ∧ w'.cell? ⟨(ad124.add ((x11_5).toNat * 9)).block, (ad124.add ((x11_5).toNat * 9)).off + 2, none⟩ = some (.int .i64 ((rd_T40 (rd_L5 t119 x10_4) x11_5).f0.f2)) ∧ w'.cell? ⟨(ad124.add ((x11_5).toNat * 9)).block, (ad124.add ((x11_5).toNat * 9)).off + 3, none⟩ = some (.int .i64 ((rd_T40 (rd_L5 t119 x10_4) x11_5).f0.f3)) ∧ w'.cell? ⟨(ad124.add ((x11_5).toNat * 9)).block, (ad124.add ((x11_5).toNat * 9)).off + 4, none⟩ = some (.slice A124_4 ((rd_T40 (rd_L5 t119 x10_4) x11_5).f0.f4).length c124_4) ∧ w'.cell? ⟨(ad124.add ((x11_5).toNat * 9)).block, (ad124.add ((x11_5).toNat * 9)).off + 5, none⟩ = some (.slice A124_5 ((rd_T40 (rd_L5 t119 x10_4) x11_5).f0.f5).length c124_5) ∧ w'.cell? ⟨(ad124.add ((x11_5).toNat * 9)).block, (ad124.add ((x11_5).toNat * 9)).off + 6, none⟩ = some (.string ((rd_T40 (rd_L5 t119 x10_4) x11_5).f0.f6)) ∧ w'.cell? ⟨(ad124.add ((x11_5).toNat * 9)).block, (ad124.add ((x11_5).toNat * 9)).off + 7, none⟩ = some (.int .i64 ((rd_T40 (rd_L5 t119 x10_4) x11_5).f1)) ∧ w'.cell? ⟨(ad124.add ((x11_5).toNat * 9)).block, (ad124.add ((x11_5).toNat * 9)).off + 8, none⟩ = some (.int .i64 ((rd_T40 (rd_L5 t119 x10_4) x11_5).f2))) (ds := []) #[false, false, false, false, false, false, false, false, false, false, false] (by kernel_rfl) rfl rfl ⟨(blk_cell BK113.out 0).trans rfl, (blk_cell BK113.out 1).trans rfl, (blk_cell BK113.out 2).trans rfl, (blk_cell BK113.out 3).trans rfl, (blk_cell BK113.out 4).trans rfl, (blk_cell BK113.out 5).trans rfl, (blk_cell BK113.out 6).trans rfl, (blk_cell BK113.out 7).trans rfl, (blk_cell BK113.out 8).trans rfl, (blk_cell BK113.out 9).trans rfl, hx123_0, hx124_0, hx124_1, hx124_2, hx124_3, hx124_4, hx124_5, hx124_6, hx124_7, hx124_8⟩ (fun hHeld => ?_); refine with_tabW spinneretref09_fits.tab17 spinneretref09_fits.bits17 (fun HT_ HW_ => ?_)
                                        generalize wr.drew = w37 at HO_9 HL122_0 BK113 HR122_0 HB HL123_0 HL124_4 HL124_5 HR123_0 HR124_4 HR124_5 hx123_0 hx124_0 hx124_1 hx124_2 hx124_3 hx124_4 hx124_5 hx124_6 hx124_7 hx124_8 hHeld ⊢
                                        refine pure_ (i := 1) (N := some 68) (v := ?_) (a' := ?_) #[false, true, false, false, false, false, false, false, false, false, false] rfl rfl (any_of HT_.out (by kernel_rfl)) (fun _ _ _ h => h) (Or.inl ⟨by rfl, ?_⟩) ?_ ?_
                                        rotate_left
                                        · intro w'
                                          go_simp
                                          with_reducible rfl
                                        rotate_left
                                        · simp only [Act.put, List.setIfInBounds_toArray, List.set_cons_zero, List.set_cons_succ, i64_w, i32_w]
                                          rfl
                                        refine pure_ (i := 2) (N := some 69) (v := ?_) (a' := ?_) #[false, true, true, false, false, false, false, false, false, false, false] rfl rfl (any_of HT_.out (by kernel_rfl)) (fun _ _ _ h => h) (Or.inl ⟨by rfl, ?_⟩) ?_ ?_
                                        rotate_left
                                        · intro w'
                                          go_simp
                                          with_reducible rfl
                                        rotate_left
                                        · simp only [Act.put, List.setIfInBounds_toArray, List.set_cons_zero, List.set_cons_succ, i64_w, i32_w]
                                          rfl
                                        refine pure_ (i := 3) (N := some 70) (v := ?_) (a' := ?_) #[false, true, true, true, false, false, false, false, false, false, false] rfl rfl (any_of HT_.out (by kernel_rfl)) (fun _ _ _ h => h) (Or.inl ⟨by rfl, ?_⟩) ?_ ?_
                                        rotate_left
                                        · intro w'
                                          go_simp
                                          with_reducible rfl
                                        rotate_left
                                        · simp only [Act.put, List.setIfInBounds_toArray, List.set_cons_zero, List.set_cons_succ, i64_w, i32_w]
                                          rfl
                                        refine pure_ (i := 5) (N := some 72) (v := ?_) (a' := ?_) #[false, true, true, true, false, true, false, false, false, false, false] rfl rfl (any_of HT_.out (by kernel_rfl)) (fun _ _ _ h => h) (Or.inl ⟨by rfl, ?_⟩) ?_ ?_
                                        rotate_left
                                        · intro w'
                                          go_simp
                                          with_reducible rfl
                                        rotate_left
                                        · simp only [Act.put, List.setIfInBounds_toArray, List.set_cons_zero, List.set_cons_succ, i64_w, i32_w]
                                          rfl
                                        refine take_ (i := 0) (N := some 67) (v := ?_) (a' := ?_) #[true, true, true, true, false, true, false, false, false, false, false] rfl rfl (take_ofW HT_.out HW_.out (by kernel_rfl)) (fun _ _ _ h => h) (Or.inl ⟨by rfl, ?_⟩) hHeld ?_ ?_
                                        rotate_left
                                        · rintro w' ⟨s0, s1, s2, s3, s4, s5, s6, s7, s8, s9, s10, s11, s12, s13, s14, s15, s16, s17, s18, s19⟩
                                          go_simp
                                          with_reducible rfl
                                        rotate_left
                                        · simp only [Act.put, List.setIfInBounds_toArray, List.set_cons_zero, List.set_cons_succ, i64_w, i32_w]
                                          rfl
                                        refine take_ (i := 4) (N := some 71) (v := ?_) (a' := ?_) #[true, true, true, true, true, true, false, false, false, false, false] rfl rfl (take_ofW HT_.out HW_.out (by kernel_rfl)) (fun _ _ _ h => h) (Or.inl ⟨by rfl, ?_⟩) hHeld ?_ ?_
                                        rotate_left
                                        · rintro w' ⟨s0, s1, s2, s3, s4, s5, s6, s7, s8, s9, s10, s11, s12, s13, s14, s15, s16, s17, s18, s19⟩
                                          go_simp
                                          with_reducible rfl
                                        rotate_left
                                        · simp only [Act.put, List.setIfInBounds_toArray, List.set_cons_zero, List.set_cons_succ, i64_w, i32_w]
                                          rfl
                                        refine pure_ (i := 6) (N := some 73) (v := ?_) (a' := ?_) #[true, true, true, true, true, true, true, false, false, false, false] rfl rfl (any_of HT_.out (by kernel_rfl)) (fun _ _ _ h => h) (Or.inl ⟨by rfl, ?_⟩) ?_ ?_
                                        rotate_left
                                        · intro w'
                                          go_simp
                                          with_reducible rfl
                                        rotate_left
                                        · simp only [Act.put, List.setIfInBounds_toArray, List.set_cons_zero, List.set_cons_succ, i64_w, i32_w]
                                          rfl
                                        refine pure_ (i := 7) (N := some 74) (v := ?_) (a' := ?_) #[true, true, true, true, true, true, true, true, false, false, false] rfl rfl (any_of HT_.out (by kernel_rfl)) (fun _ _ _ h => h) (Or.inl ⟨by rfl, ?_⟩) ?_ ?_
                                        rotate_left
                                        · intro w'
                                          go_simp
                                          with_reducible rfl
                                        rotate_left
                                        · simp only [Act.put, List.setIfInBounds_toArray, List.set_cons_zero, List.set_cons_succ, i64_w, i32_w]
                                          rfl
                                        refine take_ (i := 8) (N := some 75) (v := ?_) (a' := ?_) #[true, true, true, true, true, true, true, true, true, false, false] rfl rfl (take_ofW HT_.out HW_.out (by kernel_rfl)) (fun _ _ _ h => h) (Or.inl ⟨by rfl, ?_⟩) hHeld ?_ ?_
                                        rotate_left
                                        · rintro w' ⟨s0, s1, s2, s3, s4, s5, s6, s7, s8, s9, s10, s11, s12, s13, s14, s15, s16, s17, s18, s19⟩
                                          go_simp
                                          with_reducible rfl
                                        rotate_left
                                        · simp only [Act.put, List.setIfInBounds_toArray, List.set_cons_zero, List.set_cons_succ, i64_w, i32_w]
                                          rfl
                                        refine one_ (i := 9) (N := some 76) #[true, true, true, true, true, true, true, true, true, true, false] rfl rfl (one_of HT_.out (by kernel_rfl)) (by decide) (fun K hK => ?_)
                                        refine goes_ Try.func24 (by kernel_rfl) rfl #[.agg #[.string a0_0, .int .i64 a0_1, .slice A0_2 l0_2.length c0_2, .slice A0_3 l0_3.length c0_3, .slice (some ad118) l0_4.length c0_4, .int .i64 a0_5, .int .i64 a0_6, .int .i64 a0_7, .int .i64 a0_8, .int .i64 a0_9], .int .i64 ((rd_T40 (rd_L5 t119 x10_4) x11_5).f1)] (by rfl) rfl rfl (by (try simp only [List.map_toArray, List.map_cons, List.map_nil]); first | done | rfl | (simp only [List.length_drop, List.length_take]; rfl)) ?_
                                        with_reducible refine (spinneretref09_inside.calls a0_0 a0_1 _ _ l0_2 _ _ l0_3 _ _ l0_4 a0_5 a0_6 a0_7 a0_8 a0_9 ((rd_T40 (rd_L5 t119 x10_4) x11_5).f1) t125 _ ?side1 ?side2 ?side3 ?side4 ?side5 ?side6 A33.out).mono ?_
                                        (case side1 => repeat (first | exact (Kd.C_below HR0_2.out HB.out) | (with_reducible refine Kd.C_alloc ?_ _) | (with_reducible refine Kd.C_drewN ?_ _) | (with_reducible refine Kd.C_drew ?_)))
                                        (case side2 => exact HC0_2.out)
                                        (case side3 => repeat (first | exact (Kd.C_below HR0_3.out HB.out) | (with_reducible refine Kd.C_alloc ?_ _) | (with_reducible refine Kd.C_drewN ?_ _) | (with_reducible refine Kd.C_drew ?_)))
                                        (case side4 => exact HC0_3.out)
                                        (case side5 => repeat (first | exact (Kd.C_below HR0_4.out HB.out) | (with_reducible refine Kd.C_alloc ?_ _) | (with_reducible refine Kd.C_drewN ?_ _) | (with_reducible refine Kd.C_drew ?_)))
                                        (case side6 => exact HC0_4.out)
                                        rintro e w38 ⟨rfl, hb⟩
                                        have HS10_ := (hb.cell (World.block_lt_of_cell? _ _ (hHeld.2.2.2.2.2.2.2.2.2.2.1))).trans (hHeld.2.2.2.2.2.2.2.2.2.2.1)
                                        have HS11_ := (hb.cell (World.block_lt_of_cell? _ _ (hHeld.2.2.2.2.2.2.2.2.2.2.2.1))).trans (hHeld.2.2.2.2.2.2.2.2.2.2.2.1)
                                        have HS12_ := (hb.cell (World.block_lt_of_cell? _ _ (hHeld.2.2.2.2.2.2.2.2.2.2.2.2.1))).trans (hHeld.2.2.2.2.2.2.2.2.2.2.2.2.1)
                                        have HS13_ := (hb.cell (World.block_lt_of_cell? _ _ (hHeld.2.2.2.2.2.2.2.2.2.2.2.2.2.1))).trans (hHeld.2.2.2.2.2.2.2.2.2.2.2.2.2.1)
                                        have HS14_ := (hb.cell (World.block_lt_of_cell? _ _ (hHeld.2.2.2.2.2.2.2.2.2.2.2.2.2.2.1))).trans (hHeld.2.2.2.2.2.2.2.2.2.2.2.2.2.2.1)
                                        have HS15_ := (hb.cell (World.block_lt_of_cell? _ _ (hHeld.2.2.2.2.2.2.2.2.2.2.2.2.2.2.2.1))).trans (hHeld.2.2.2.2.2.2.2.2.2.2.2.2.2.2.2.1)
                                        have HS16_ := (hb.cell (World.block_lt_of_cell? _ _ (hHeld.2.2.2.2.2.2.2.2.2.2.2.2.2.2.2.2.1))).trans (hHeld.2.2.2.2.2.2.2.2.2.2.2.2.2.2.2.2.1)
                                        have HS17_ := (hb.cell (World.block_lt_of_cell? _ _ (hHeld.2.2.2.2.2.2.2.2.2.2.2.2.2.2.2.2.2.1))).trans (hHeld.2.2.2.2.2.2.2.2.2.2.2.2.2.2.2.2.2.1)
                                        have HS18_ := (hb.cell (World.block_lt_of_cell? _ _ (hHeld.2.2.2.2.2.2.2.2.2.2.2.2.2.2.2.2.2.2.1))).trans (hHeld.2.2.2.2.2.2.2.2.2.2.2.2.2.2.2.2.2.2.1)
                                        have HS19_ := (hb.cell (World.block_lt_of_cell? _ _ (hHeld.2.2.2.2.2.2.2.2.2.2.2.2.2.2.2.2.2.2.2))).trans (hHeld.2.2.2.2.2.2.2.2.2.2.2.2.2.2.2.2.2.2.2)
                                        refine ⟨_, rfl, ?_⟩
                                        have n0_ := Aside0.mk (Kd.N_below (by (with_reducible repeat (first | apply Kd.N_alloc | apply Kd.N_drewN | apply Kd.N_drew)); exact HO_9.out) hb)
                                        have n1_ := Aside0.mk (Kd.V_below (by (with_reducible repeat (first | apply Kd.V_alloc | apply Kd.V_drewN | apply Kd.V_drew)); exact HL122_0.out) hb)
                                        have n2_ := Aside0.mk (Kd.V_below (by (with_reducible repeat (first | apply Kd.V_alloc | apply Kd.V_drewN | apply Kd.V_drew)); exact HL123_0.out) hb)
                                        have n3_ := Aside0.mk (Kd.V_below (by (with_reducible repeat (first | apply Kd.V_alloc | apply Kd.V_drewN | apply Kd.V_drew)); exact HL124_4.out) hb)
                                        have n4_ := Aside0.mk (Kd.V_below (by (with_reducible repeat (first | apply Kd.V_alloc | apply Kd.V_drewN | apply Kd.V_drew)); exact HL124_5.out) hb)
                                        have n5_ := Aside0.mk (blk_below (g := gb113) (o := .cells #[.string a0_0, .int .i64 a0_1, .slice A0_2 l0_2.length c0_2, .slice A0_3 l0_3.length c0_3, .slice (some ad118) l0_4.length c0_4, .int .i64 a0_5, .int .i64 a0_6, .int .i64 a0_7, .int .i64 a0_8, .int .i64 a0_9] 26 (0, 0)) (by (with_reducible repeat (first | refine blk_drewN ?_ _ | refine blk_drew ?_ | refine blk_alloc ?_ _)); exact BK113.out) hb)
                                        have n6_ := Aside0.mk (Kd.C_below (by repeat (first | (with_reducible exact HR122_0.out) | (with_reducible refine Kd.C_alloc ?_ _) | (with_reducible refine Kd.C_drewN ?_ _) | (with_reducible refine Kd.C_drew ?_) | exact HR122_0.out)) hb)
                                        have n7_ := Aside0.mk (Kd.C_below (by repeat (first | (with_reducible exact HR123_0.out) | (with_reducible refine Kd.C_alloc ?_ _) | (with_reducible refine Kd.C_drewN ?_ _) | (with_reducible refine Kd.C_drew ?_) | exact HR123_0.out)) hb)
                                        have n8_ := Aside0.mk (Kd.C_below (by repeat (first | (with_reducible exact HR124_4.out) | (with_reducible refine Kd.C_alloc ?_ _) | (with_reducible refine Kd.C_drewN ?_ _) | (with_reducible refine Kd.C_drew ?_) | exact HR124_4.out)) hb)
                                        have n9_ := Aside0.mk (Kd.C_below (by repeat (first | (with_reducible exact HR124_5.out) | (with_reducible refine Kd.C_alloc ?_ _) | (with_reducible refine Kd.C_drewN ?_ _) | (with_reducible refine Kd.C_drew ?_) | exact HR124_5.out)) hb)
                                        have n10_ := Aside0.mk (below_step (by repeat (first | (with_reducible first | exact HB.out | apply below_alloc | apply pw_below_drewN | apply below_drew1 | refine below_set ?_ GE113.out) | exact HB.out)) hb)
                                        clear HO_9
                                        clear HL122_0
                                        clear HL123_0
                                        clear HL124_4
                                        clear HL124_5
                                        clear BK113
                                        clear HR122_0
                                        clear HR123_0
                                        clear HR124_4
                                        clear HR124_5
                                        clear HB
                                        have HO_9 := n0_
                                        have HL122_0 := n1_
                                        have HL123_0 := n2_
                                        have HL124_4 := n3_
                                        have HL124_5 := n4_
                                        have BK113 := n5_
                                        have HR122_0 := n6_
                                        have HR123_0 := n7_
                                        have HR124_4 := n8_
                                        have HR124_5 := n9_
                                        have HB := n10_
                                        clear n0_ n1_ n2_ n3_ n4_ n5_ n6_ n7_ n8_ n9_ n10_
                                        (try clear hb)
                                        (try clear hb2)
                                        (try clear hk)
                                        (try clear hi)
                                        refine hK.out _ _ ⟨(blk_cell BK113.out 0).trans rfl, (blk_cell BK113.out 1).trans rfl, (blk_cell BK113.out 2).trans rfl, (blk_cell BK113.out 3).trans rfl, (blk_cell BK113.out 4).trans rfl, (blk_cell BK113.out 5).trans rfl, (blk_cell BK113.out 6).trans rfl, (blk_cell BK113.out 7).trans rfl, (blk_cell BK113.out 8).trans rfl, (blk_cell BK113.out 9).trans rfl, HS10_, HS11_, HS12_, HS13_, HS14_, HS15_, HS16_, HS17_, HS18_, HS19_⟩ (fun hHeld => ?_)
                                        clear hK K
                                        refine norm_ (a' := ?_) ?_ ?_
                                        rotate_left
                                        · show Act.put _ (some 76) _ = _
                                          simp only [Act.put, List.setIfInBounds_toArray, List.set_cons_zero, List.set_cons_succ, i64_w, i32_w]
                                          rfl
                                        refine pure_ (i := 10) (N := some 12) (v := ?_) (a' := ?_) #[true, true, true, true, true, true, true, true, true, true, true] rfl rfl (any_of HT_.out (by kernel_rfl)) (fun _ _ _ h => h) (Or.inl ⟨by rfl, ?_⟩) ?_ ?_
                                        rotate_left
                                        · intro w'
                                          go_simp
                                          with_reducible rfl
                                        rotate_left
                                        · simp only [Act.put, List.setIfInBounds_toArray, List.set_cons_zero, List.set_cons_succ, i64_w, i32_w]
                                          rfl
                                        refine done_ (done_of HT_.out (by kernel_rfl)) ?_
                                        try go_wp2
                                        go_roundg k5
                                        case measure => have := HJ2.out; have := HK2.out; have := HK3.out; have := HK4.out; have := HK5.out; omega
                                        case rel => exact ⟨(false), (wrap64 (x11_5 + 1)), (by first | rfl | (simp; done) | (simp [*]; done)), (by first | rfl | (simp; done) | (simp [*]; done)), H', ⟨by have := HJ2.out; have := HK2.out; have := HK3.out; have := HK4.out; have := HK5.out; omega⟩, ⟨by (with_reducible repeat (first | apply Kd.N_alloc | apply Kd.N_drewN | apply Kd.N_drew)); exact HO_9.out⟩, ⟨by (with_reducible repeat (first | refine blk_drewN ?_ _ | refine blk_drew ?_ | refine blk_alloc ?_ _)); exact BK113.out⟩, ⟨by repeat (first | (with_reducible first | exact HB.out | apply below_alloc | apply pw_below_drewN | apply below_drew1 | refine below_set ?_ GE113.out) | exact HB.out)⟩⟩
                                    · rw [if_neg c32] at H
                                      exact absurd H (by simp)
                                  · rw [if_neg c31] at H
                                    have c31b0 : decide (x11_5 < ((rd_L5 t119 x10_4).length : Int)) = false := decide_eq_false c31
                                    clear c31
                                    have H' := Aside0.mk H
                                    clear H
                                    have p122 : 0 ≤ (x10_4 : Int) := of_decide_eq_true (by first | (with_reducible assumption) | assumption)
                                    have q122 : x10_4 < (t119.length : Int) := of_decide_eq_true (by first | (with_reducible assumption) | assumption)
                                    obtain ⟨ad122, A122_0, c122_0, e122, hx122_0, hl122_0, hi122_0⟩ := at_L5 (Kd.N_reads' HO_9.out).2.2 x10_4 p122 q122
                                    cases e122
                                    obtain ⟨ce122, hce122, hMe122, hcc122⟩ := Kd.N_get HO_9.out [] x10_4 p122 (by first | exact q122 | exact of_decide_eq_true (by first | (with_reducible assumption) | assumption) | (have e_ := (Kd.N_reads' HO_9.out).1; omega))
                                    obtain ⟨ua122_0, uc122_0, rfl, ul122_0, ge122_0⟩ := Kd.FK_slice_open hMe122
                                    have hv122_0 := hcc122 0 _ rfl
                                    rw [Nat.add_zero, show ((Kd.slice 40 k40)).sz = 1 from rfl, Nat.mul_one] at hv122_0
                                    replace hv122_0 := Option.some.inj (hv122_0.symm.trans hx122_0)
                                    injection hv122_0 with hva_ hvn_ hvc_
                                    rw [hva_] at ge122_0
                                    rw [hvc_] at ul122_0
                                    have HL122_0 := Aside0.mk (show Kd.V k40 40 _ w.heap.size _ _ (rd_L5 t119 x10_4) from Kd.V_mk ul122_0 ge122_0)
                                    clear hva_ hvn_ hvc_ ge122_0 ul122_0
                                    clear hcc122 hce122
                                    have HR122_0 := Aside0.mk hi122_0
                                    have HC122_0 := Aside0.mk hl122_0
                                    clear hi122_0 hl122_0
                                    replace p122 := eq_true p122
                                    replace q122 := eq_true q122
                                    go_wp2
                                    go_roundg k5
                                    case measure => have := HJ2.out; have := HK2.out; have := HK3.out; have := HK4.out; have := HK5.out; omega
                                    case rel => exact ⟨(x5_5), (wrap64 (x10_4 + 1)), (by first | rfl | (simp; done) | (simp [*]; done)), (by first | rfl | (simp; done) | (simp [*]; done)), H', ⟨by have := HJ2.out; have := HK2.out; have := HK3.out; have := HK4.out; have := HK5.out; omega⟩, ⟨by (with_reducible repeat (first | apply Kd.N_alloc | apply Kd.N_drewN | apply Kd.N_drew)); exact HO_9.out⟩, ⟨by (with_reducible repeat (first | refine blk_drewN ?_ _ | refine blk_drew ?_ | refine blk_alloc ?_ _)); exact BK113.out⟩, ⟨by repeat (first | (with_reducible first | exact HB.out | apply below_alloc | apply pw_below_drewN | apply below_drew1 | refine below_set ?_ GE113.out) | exact HB.out)⟩⟩
                                · rw [if_neg c30] at H
                                  exact absurd H (by simp)
                              · rw [if_neg c29] at H
                                exact absurd H (by simp)
                        · rw [if_neg c27] at H
                          have c27b0 : decide (x10_4 < (t119.length : Int)) = false := decide_eq_false c27
                          clear c27
                          have H' := Aside0.mk H
                          clear H
                          obtain ⟨Ao39, co39, eo39⟩ := Kd.N_slice HO_9.out
                          subst eo39
                          go_wp2
                          go_roundg k4
                          case measure => have := HJ2.out; have := HK2.out; have := HK3.out; have := HK4.out; omega
                          case rel => exact ⟨(x5_4), (wrap64 (x8_3 + 1)), (by first | rfl | (simp; done) | (simp [*]; done)), (by first | rfl | (simp; done) | (simp [*]; done)), H', ⟨by have := HJ2.out; have := HK2.out; have := HK3.out; have := HK4.out; omega⟩, ⟨by (with_reducible repeat (first | refine blk_drewN ?_ _ | refine blk_drew ?_ | refine blk_alloc ?_ _)); exact BK113.out⟩, ⟨by repeat (first | (with_reducible first | exact HB.out | apply below_alloc | apply pw_below_drewN | apply below_drew1 | refine below_set ?_ GE113.out) | exact HB.out)⟩⟩
                  · rw [if_neg c23] at H
                    exact absurd H (by simp)
                · rw [if_neg c22] at H
                  have c22b0 : decide (x8_3 < (l0_4.length : Int)) = false := decide_eq_false c22
                  clear c22
                  obtain rfl := Option.some.inj H
                  have hcz40_0 : wr.cell? ⟨gb113, 0, none⟩ = some (.string a0_0) := (blk_cell BK113.out 0).trans rfl
                  have hcz40_1 : wr.cell? ⟨gb113, 1, none⟩ = some (.int .i64 a0_1) := (blk_cell BK113.out 1).trans rfl
                  have hcz40_2 : wr.cell? ⟨gb113, 2, none⟩ = some (.slice A0_2 l0_2.length c0_2) := (blk_cell BK113.out 2).trans rfl
                  have hcz40_3 : wr.cell? ⟨gb113, 3, none⟩ = some (.slice A0_3 l0_3.length c0_3) := (blk_cell BK113.out 3).trans rfl
                  have hcz40_4 : wr.cell? ⟨gb113, 4, none⟩ = some (.slice A0_4 l0_4.length c0_4) := (blk_cell BK113.out 4).trans rfl
                  have hcz40_5 : wr.cell? ⟨gb113, 5, none⟩ = some (.int .i64 a0_5) := (blk_cell BK113.out 5).trans rfl
                  have hcz40_6 : wr.cell? ⟨gb113, 6, none⟩ = some (.int .i64 a0_6) := (blk_cell BK113.out 6).trans rfl
                  have hcz40_7 : wr.cell? ⟨gb113, 7, none⟩ = some (.int .i64 a0_7) := (blk_cell BK113.out 7).trans rfl
                  have hcz40_8 : wr.cell? ⟨gb113, 8, none⟩ = some (.int .i64 a0_8) := (blk_cell BK113.out 8).trans rfl
                  have hcz40_9 : wr.cell? ⟨gb113, 9, none⟩ = some (.int .i64 a0_9) := (blk_cell BK113.out 9).trans rfl
                  have hfz40_0 := blk_frozen BK113.out 0
                  have hfz40_1 := blk_frozen BK113.out 1
                  have hfz40_2 := blk_frozen BK113.out 2
                  have hfz40_3 := blk_frozen BK113.out 3
                  have hfz40_4 := blk_frozen BK113.out 4
                  have hfz40_5 := blk_frozen BK113.out 5
                  have hfz40_6 := blk_frozen BK113.out 6
                  have hfz40_7 := blk_frozen BK113.out 7
                  have hfz40_8 := blk_frozen BK113.out 8
                  have hfz40_9 := blk_frozen BK113.out 9
                  go_wp2
                  go_ret
                  exact ⟨by first | rfl | (simp [errW_none, errW_some] <;> rfl) | (simp [*, errW_none, errW_some] <;> rfl), by repeat (first | (with_reducible first | exact HB.out | apply below_alloc | apply pw_below_drewN | apply below_drew1 | refine below_set ?_ GE113.out) | exact HB.out)⟩

end Go.Proofs.Ytgnpmcnmcbgdcaa.PAutoWalk
