-- PRINTED BY print.sh 35421559b90ae4d0a3588c463048766b98c2df88dd9212a6774a882060cdf62d: not written by this session
import Derived.Test.YtgcjbkdogloojaaPValueTwox0
import Derived.Test.YtgcjbkdogloojaaPValueTwox1
namespace Go.Proofs.Ytgcjbkdogloojaa.PValueTwo
open Go.RowKit Go.Proofs.YtgcjbkdogloojaaW.PrintWords Go.Proofs.YtgcjbkdogloojaaW.PrintLast Go.Proofs.YtgcjbkdogloojaaW.PrintMore
attribute [local go_sem] max2_int min2_int max_two min_two max_three min_three max_four min_four   -- for this text's walks alone
set_option linter.unusedVariables false
set_option linter.unusedSimpArgs false

/-! ### spinneretref05_Two: function 17 -/
def spinneretref05_Two.j0 : Nat → Int → Int → Int → Bool → Option (Int × Int)
  | 0, _, _, _, _ => none
  | k + 1, x0, x1, x2, x21 => if x21 = true then (some (0, 48)) else (if x0 = 6 then ((spinneretref05_Int.f (wrap64 (x1 * x2))).bind fun t108 => (some (t108, 0))) else (if x0 = 7 then (if x2 = 0 then (none) else ((spinneretref05_Int.f (wrap64 (Int.tdiv x1 x2))).bind fun t109 => (some (t109, 0)))) else (if x0 = 8 then (if x2 = 0 then (none) else (some (Int.tmod x1 x2, 0))) else (if x0 = 9 then ((spinneretref05_Int.f (wrap64 (x1 + x2))).bind fun t110 => (some (t110, 0))) else (if x0 = 10 then ((spinneretref05_Int.f (wrap64 (x1 - x2))).bind fun t111 => (some (t111, 0))) else (if x0 = 11 then ((spinneretref05_shift.f k x1 x2).bind fun t112 => (some (t112, 0))) else (if x0 = 12 then ((spinneretref05_shift.f k x1 (wrap64 (-x2))).bind fun t113 => (some (t113, 0))) else (if x0 = 13 then ((spinneretref05_one.f (decide (x1 < x2))).bind fun t114 => (some (t114, 0))) else (if x0 = 14 then ((spinneretref05_one.f (decide (x1 ≤ x2))).bind fun t115 => (some (t115, 0))) else (if x0 = 15 then ((spinneretref05_one.f (decide (x1 > x2))).bind fun t116 => (some (t116, 0))) else (if x0 = 16 then ((spinneretref05_one.f (decide (x1 ≥ x2))).bind fun t117 => (some (t117, 0))) else (if x0 = 17 then ((spinneretref05_one.f (x1 == x2)).bind fun t118 => (some (t118, 0))) else (if x0 = 18 then ((spinneretref05_one.f (x1 != x2)).bind fun t119 => (some (t119, 0))) else (if x0 = 19 then (some (Go.bits .and .i64 x1 x2, 0)) else (if x0 = 20 then (some (Go.bits .xor .i64 x1 x2, 0)) else (if x0 = 21 then (some (Go.bits .or .i64 x1 x2, 0)) else (some (0, 42))))))))))))))))))
def spinneretref05_Two.f (k : Nat) (a0 : Int) (a1 : Int) (a2 : Int) : Option (Int × Int) := (spinneretref05_Int.f a1).bind fun t106 => ((spinneretref05_Int.f a2).bind fun t107 => (if a0 = 7 then (spinneretref05_Two.j0 k a0 t106 t107 (t107 == 0)) else (if a0 = 8 then (spinneretref05_Two.j0 k a0 t106 t107 (t107 == 0)) else (spinneretref05_Two.j0 k a0 t106 t107 false))))
theorem spinneretref05_Two.mono_l : ∀ k, (∀ y0 y1 y2 y3, LeO (spinneretref05_Two.j0 k y0 y1 y2 y3) (spinneretref05_Two.j0 (k + 1) y0 y1 y2 y3))
  | 0 => fun _ _ _ _ r h => by simp [spinneretref05_Two.j0] at h
  | k + 1 => by
    have ih0 := spinneretref05_Two.mono_l k
    · intro y0 y1 y2 y3
      unfold spinneretref05_Two.j0
      repeat' first
      | (with_reducible exact ih0 _ _ _ _)
      | (with_reducible exact spinneretref05_shift.mono _ _ _)
      | (with_reducible exact LeO.refl _)
      | (with_reducible exact LeO.none _)
      | (with_reducible refine LeO.ite ?_ ?_)
      | (with_reducible refine LeO.bind ?_ (fun _ => ?_))
      | exact ih0 _ _ _ _
      | exact spinneretref05_shift.mono _ _ _
      | exact LeO.none _
      | refine LeO.ite ?_ ?_
      | refine LeO.bind ?_ (fun _ => ?_)
theorem spinneretref05_Two.mono : ∀ a0 a1 a2 k, LeO (spinneretref05_Two.f k a0 a1 a2) (spinneretref05_Two.f (k + 1) a0 a1 a2) := by
  intro a0 a1 a2 k
  have ih0 := spinneretref05_Two.mono_l k
  unfold spinneretref05_Two.f
  repeat' first
      | (with_reducible exact ih0 _ _ _ _)
      | (with_reducible exact spinneretref05_shift.mono _ _ _)
      | (with_reducible exact LeO.refl _)
      | (with_reducible exact LeO.none _)
      | (with_reducible refine LeO.ite ?_ ?_)
      | (with_reducible refine LeO.bind ?_ (fun _ => ?_))
      | exact ih0 _ _ _ _
      | exact spinneretref05_shift.mono _ _ _
      | exact LeO.none _
      | refine LeO.ite ?_ ?_
      | refine LeO.bind ?_ (fun _ => ?_)
set_option maxHeartbeats 8000000 in
set_option maxRecDepth 100000 in
theorem spinneretref05_Two.calls (k : Nat) (a0 : Int) (a1 : Int) (a2 : Int) (r1 : Int) (r2 : Int) (w : World) (h : spinneretref05_Two.f k a0 a1 a2 = some (r1, r2)) :
    Calls Try.prog 17 #[.int .i64 a0, .int .i64 a1, .int .i64 a2] w fun e w' => e = .returned (.tuple #[.int .i64 r1, .int .i64 r2]) ∧ Below w.heap.size w w' := by
  have HB := Aside0.mk (Below.refl w.heap.size w)
  have H : ((spinneretref05_Int.f a1).bind fun t106 => ((spinneretref05_Int.f a2).bind fun t107 => (if a0 = 7 then (spinneretref05_Two.j0 k a0 t106 t107 (t107 == 0)) else (if a0 = 8 then (spinneretref05_Two.j0 k a0 t106 t107 (t107 == 0)) else (spinneretref05_Two.j0 k a0 t106 t107 false))))) = some (r1, r2) := h
  clear h
  replace H := Option.bind_eq_some_iff.mp H
  obtain ⟨t106, A40, H⟩ := H
  replace H : ((spinneretref05_Int.f a2).bind fun t107 => (if a0 = 7 then (spinneretref05_Two.j0 k a0 t106 t107 (t107 == 0)) else (if a0 = 8 then (spinneretref05_Two.j0 k a0 t106 t107 (t107 == 0)) else (spinneretref05_Two.j0 k a0 t106 t107 false)))) = some (r1, r2) := H
  have A4 := Aside0.mk A40
  clear A40
  replace H := Option.bind_eq_some_iff.mp H
  obtain ⟨t107, A50, H⟩ := H
  replace H : (if a0 = 7 then (spinneretref05_Two.j0 k a0 t106 t107 (t107 == 0)) else (if a0 = 8 then (spinneretref05_Two.j0 k a0 t106 t107 (t107 == 0)) else (spinneretref05_Two.j0 k a0 t106 t107 false))) = some (r1, r2) := H
  have A5 := Aside0.mk A50
  clear A50
  have HC6 := Aside0.mk H
  clear H
  go_enter Try.func17, Try.ntmps17
  go_upto_region 3 with (first | ((with_reducible refine gate_callee (f := 18) rfl ?_); refine goesL_ (some 9) rfl rfl Try.func18 (by kernel_rfl) rfl #[.int .i64 a1] rfl (by (try simp only [List.map_toArray, List.map_cons, List.map_nil]); first | done | rfl | (simp only [List.length_drop, List.length_take]; rfl)) ?_; (with_reducible refine (spinneretref05_Int.calls a1 t106 _ A4.out).mono ?_); rintro e w7 ⟨rfl, hb⟩; refine ⟨_, rfl, ?_⟩; have n0_ := Aside0.mk (below_step (by repeat (first | (with_reducible first | exact HB.out | apply below_alloc | apply pw_below_drewN | apply below_drew1) | exact HB.out)) hb); clear HB; have HB := n0_; clear n0_; (try clear hb); (try clear hb2); (try clear hk); (try clear hi)) | ((with_reducible refine gate_callee (f := 18) rfl ?_); refine goesL_ (some 11) rfl rfl Try.func18 (by kernel_rfl) rfl #[.int .i64 a2] rfl (by (try simp only [List.map_toArray, List.map_cons, List.map_nil]); first | done | rfl | (simp only [List.length_drop, List.length_take]; rfl)) ?_; (with_reducible refine (spinneretref05_Int.calls a2 t107 _ A5.out).mono ?_); rintro e w8 ⟨rfl, hb⟩; refine ⟨_, rfl, ?_⟩; have n0_ := Aside0.mk (below_step (by repeat (first | (with_reducible first | exact HB.out | apply below_alloc | apply pw_below_drewN | apply below_drew1) | exact HB.out)) hb); clear HB; have HB := n0_; clear n0_; (try clear hb); (try clear hb2); (try clear hk); (try clear hi)))
  (try simp only [Act.put, List.setIfInBounds_toArray, List.set_cons_zero, List.set_cons_succ])
  go_cut [21] (fun v21 wc => ∃ (kq : Nat) (x21_5 : Bool), v21 = .bool x21_5 ∧ Aside0 (spinneretref05_Two.j0 kq a0 t106 t107 x21_5 = some (r1, r2)) ∧ Aside0 (kq ≤ k) ∧ Aside0 (Below w.heap.size w wc))
  case first =>
    have H := HC6.out
    clear HC6
    by_cases c9 : a0 = 7
    · rw [if_pos c9] at H
      have c9b0 : (a0 == 7) = true := beq_iff_eq.mpr c9
      have c9b1 : (a0 != 7) = false := bne_eq_false_iff_eq.mpr c9
      clear c9
      (first | rw [c9b0] | (simp only [i64_w, i32_w]; rw [c9b0]) | skip)
      have H' := Aside0.mk H
      clear H
      go_wp2
      go_meet
      case rel => exact ⟨_, ((t107 == 0)), (by first | rfl | (simp; done) | (simp [*]; done)), H', ⟨by first | omega | exact Nat.le_refl _⟩, ⟨by repeat (first | (with_reducible first | exact HB.out | apply below_alloc | apply pw_below_drewN | apply below_drew1) | exact HB.out)⟩⟩
    · rw [if_neg c9] at H
      have c9b0 : (a0 == 7) = false := beq_eq_false_iff_ne.mpr c9
      have c9b1 : (a0 != 7) = true := bne_iff_ne.mpr c9
      (first | rw [c9b0] | (simp only [i64_w, i32_w]; rw [c9b0]) | skip)
      by_cases c10 : a0 = 8
      · rw [if_pos c10] at H
        have c10b0 : (a0 == 8) = true := beq_iff_eq.mpr c10
        have c10b1 : (a0 != 8) = false := bne_eq_false_iff_eq.mpr c10
        clear c10
        have H' := Aside0.mk H
        clear H
        go_wp2
        go_meet
        case rel => exact ⟨_, ((t107 == 0)), (by first | rfl | (simp; done) | (simp [*]; done)), H', ⟨by first | omega | exact Nat.le_refl _⟩, ⟨by repeat (first | (with_reducible first | exact HB.out | apply below_alloc | apply pw_below_drewN | apply below_drew1) | exact HB.out)⟩⟩
      · rw [if_neg c10] at H
        have c10b0 : (a0 == 8) = false := beq_eq_false_iff_ne.mpr c10
        have c10b1 : (a0 != 8) = true := bne_iff_ne.mpr c10
        have H' := Aside0.mk H
        clear H
        go_wp2
        go_meet
        case rel => exact ⟨_, (false), (by first | rfl | (simp; done) | (simp [*]; done)), H', ⟨by first | omega | exact Nat.le_refl _⟩, ⟨by repeat (first | (with_reducible first | exact HB.out | apply below_alloc | apply pw_below_drewN | apply below_drew1) | exact HB.out)⟩⟩
  case rest =>
    clear HC6
    try clear c1
    try clear p2
    try clear c9
    try clear c9b0
    try clear c9b1
    try clear c10
    try clear c10b0
    try clear c10b1
    obtain ⟨kq, x21_5, rfl, HA, HJ5, HB⟩ := hcut
    cases kq with
    | zero => exact absurd HA.out (by simp [spinneretref05_Two.j0])
    | succ kj5 =>
      have H := HA.out
      clear HA
      simp only [spinneretref05_Two.j0] at H
      by_cases c11 : x21_5 = true
      · subst c11
        have H1 : (some (0, 48)) = some (r1, r2) := by rw [if_pos rfl] at H; exact H
        clear H
        have H := H1
        clear H1
        simp only [Option.some.injEq, Prod.mk.injEq] at H
        obtain ⟨rfl, rfl⟩ := H
        go_wp2
        go_ret2
        exact ⟨by first | rfl | (simp [errW_none, errW_some] <;> rfl) | (simp [*, errW_none, errW_some] <;> rfl), by repeat (first | (with_reducible first | exact HB.out | apply below_alloc | apply pw_below_drewN | apply below_drew1) | exact HB.out)⟩
      · replace c11 := Bool.eq_false_iff.mpr c11
        subst c11
        have H1 : (if a0 = 6 then ((spinneretref05_Int.f (wrap64 (t106 * t107))).bind fun t108 => (some (t108, 0))) else (if a0 = 7 then (if t107 = 0 then (none) else ((spinneretref05_Int.f (wrap64 (Int.tdiv t106 t107))).bind fun t109 => (some (t109, 0)))) else (if a0 = 8 then (if t107 = 0 then (none) else (some (Int.tmod t106 t107, 0))) else (if a0 = 9 then ((spinneretref05_Int.f (wrap64 (t106 + t107))).bind fun t110 => (some (t110, 0))) else (if a0 = 10 then ((spinneretref05_Int.f (wrap64 (t106 - t107))).bind fun t111 => (some (t111, 0))) else (if a0 = 11 then ((spinneretref05_shift.f kj5 t106 t107).bind fun t112 => (some (t112, 0))) else (if a0 = 12 then ((spinneretref05_shift.f kj5 t106 (wrap64 (-t107))).bind fun t113 => (some (t113, 0))) else (if a0 = 13 then ((spinneretref05_one.f (decide (t106 < t107))).bind fun t114 => (some (t114, 0))) else (if a0 = 14 then ((spinneretref05_one.f (decide (t106 ≤ t107))).bind fun t115 => (some (t115, 0))) else (if a0 = 15 then ((spinneretref05_one.f (decide (t106 > t107))).bind fun t116 => (some (t116, 0))) else (if a0 = 16 then ((spinneretref05_one.f (decide (t106 ≥ t107))).bind fun t117 => (some (t117, 0))) else (if a0 = 17 then ((spinneretref05_one.f (t106 == t107)).bind fun t118 => (some (t118, 0))) else (if a0 = 18 then ((spinneretref05_one.f (t106 != t107)).bind fun t119 => (some (t119, 0))) else (if a0 = 19 then (some (Go.bits .and .i64 t106 t107, 0)) else (if a0 = 20 then (some (Go.bits .xor .i64 t106 t107, 0)) else (if a0 = 21 then (some (Go.bits .or .i64 t106 t107, 0)) else (some (0, 42)))))))))))))))))) = some (r1, r2) := by rw [if_neg (show ¬ (false = true) by decide)] at H; exact H
        clear H
        have H := H1
        clear H1
        by_cases c12 : a0 = 6
        · rw [if_pos c12] at H
          have c12b0 : (a0 == 6) = true := beq_iff_eq.mpr c12
          have c12b1 : (a0 != 6) = false := bne_eq_false_iff_eq.mpr c12
          clear c12
          replace H := Option.bind_eq_some_iff.mp H
          obtain ⟨t108, A130, H⟩ := H
          replace H : (some (t108, 0)) = some (r1, r2) := H
          have A13 := Aside0.mk A130
          clear A130
          simp only [Option.some.injEq, Prod.mk.injEq] at H
          obtain ⟨rfl, rfl⟩ := H
          go_wp2_with (first | ((with_reducible refine gate_callee (f := 18) rfl ?_); refine goesL_ (some 28) rfl rfl Try.func18 (by kernel_rfl) rfl #[.int .i64 (wrap64 (t106 * t107))] rfl (by (try simp only [List.map_toArray, List.map_cons, List.map_nil]); first | done | rfl | (simp only [List.length_drop, List.length_take]; rfl)) ?_; (with_reducible refine (spinneretref05_Int.calls (wrap64 (t106 * t107)) t108 _ A13.out).mono ?_); rintro e w14 ⟨rfl, hb⟩; refine ⟨_, rfl, ?_⟩; have n0_ := Aside0.mk (below_step (by repeat (first | (with_reducible first | exact HB.out | apply below_alloc | apply pw_below_drewN | apply below_drew1) | exact HB.out)) hb); clear HB; have HB := n0_; clear n0_; (try clear hb); (try clear hb2); (try clear hk); (try clear hi)))
          go_ret2
          exact ⟨by first | rfl | (simp [errW_none, errW_some] <;> rfl) | (simp [*, errW_none, errW_some] <;> rfl), by repeat (first | (with_reducible first | exact HB.out | apply below_alloc | apply pw_below_drewN | apply below_drew1) | exact HB.out)⟩
        · rw [if_neg c12] at H
          have c12b0 : (a0 == 6) = false := beq_eq_false_iff_ne.mpr c12
          have c12b1 : (a0 != 6) = true := bne_iff_ne.mpr c12
          by_cases c15 : a0 = 7
          · rw [if_pos c15] at H
            have c15b0 : (a0 == 7) = true := beq_iff_eq.mpr c15
            have c15b1 : (a0 != 7) = false := bne_eq_false_iff_eq.mpr c15
            clear c15
            by_cases c16 : t107 = 0
            · rw [if_pos c16] at H
              exact absurd H (by simp)
            · rw [if_neg c16] at H
              have c16b0 : (t107 == 0) = false := beq_eq_false_iff_ne.mpr c16
              have c16b1 : (t107 != 0) = true := bne_iff_ne.mpr c16
              replace H := Option.bind_eq_some_iff.mp H
              obtain ⟨t109, A170, H⟩ := H
              replace H : (some (t109, 0)) = some (r1, r2) := H
              have A17 := Aside0.mk A170
              clear A170
              simp only [Option.some.injEq, Prod.mk.injEq] at H
              obtain ⟨rfl, rfl⟩ := H
              go_wp2_with (first | ((with_reducible refine gate_callee (f := 18) rfl ?_); refine goesL_ (some 34) rfl rfl Try.func18 (by kernel_rfl) rfl #[.int .i64 (wrap64 (Int.tdiv t106 t107))] rfl (by (try simp only [List.map_toArray, List.map_cons, List.map_nil]); first | done | rfl | (simp only [List.length_drop, List.length_take]; rfl)) ?_; (with_reducible refine (spinneretref05_Int.calls (wrap64 (Int.tdiv t106 t107)) t109 _ A17.out).mono ?_); rintro e w18 ⟨rfl, hb⟩; refine ⟨_, rfl, ?_⟩; have n0_ := Aside0.mk (below_step (by repeat (first | (with_reducible first | exact HB.out | apply below_alloc | apply pw_below_drewN | apply below_drew1) | exact HB.out)) hb); clear HB; have HB := n0_; clear n0_; (try clear hb); (try clear hb2); (try clear hk); (try clear hi)))
              go_ret2
              exact ⟨by first | rfl | (simp [errW_none, errW_some] <;> rfl) | (simp [*, errW_none, errW_some] <;> rfl), by repeat (first | (with_reducible first | exact HB.out | apply below_alloc | apply pw_below_drewN | apply below_drew1) | exact HB.out)⟩
          · rw [if_neg c15] at H
            have c15b0 : (a0 == 7) = false := beq_eq_false_iff_ne.mpr c15
            have c15b1 : (a0 != 7) = true := bne_iff_ne.mpr c15
            by_cases c19 : a0 = 8
            · rw [if_pos c19] at H
              have c19b0 : (a0 == 8) = true := beq_iff_eq.mpr c19
              have c19b1 : (a0 != 8) = false := bne_eq_false_iff_eq.mpr c19
              clear c19
              by_cases c20 : t107 = 0
              · rw [if_pos c20] at H
                exact absurd H (by simp)
              · rw [if_neg c20] at H
                have c20b0 : (t107 == 0) = false := beq_eq_false_iff_ne.mpr c20
                have c20b1 : (t107 != 0) = true := bne_iff_ne.mpr c20
                simp only [Option.some.injEq, Prod.mk.injEq] at H
                obtain ⟨rfl, rfl⟩ := H
                go_wp2
                go_ret2
                exact ⟨by first | rfl | (simp [errW_none, errW_some] <;> rfl) | (simp [*, errW_none, errW_some] <;> rfl), by repeat (first | (with_reducible first | exact HB.out | apply below_alloc | apply pw_below_drewN | apply below_drew1) | exact HB.out)⟩
            · rw [if_neg c19] at H
              have c19b0 : (a0 == 8) = false := beq_eq_false_iff_ne.mpr c19
              have c19b1 : (a0 != 8) = true := bne_iff_ne.mpr c19
              by_cases c21 : a0 = 9
              · rw [if_pos c21] at H
                have c21b0 : (a0 == 9) = true := beq_iff_eq.mpr c21
                have c21b1 : (a0 != 9) = false := bne_eq_false_iff_eq.mpr c21
                clear c21
                replace H := Option.bind_eq_some_iff.mp H
                obtain ⟨t110, A220, H⟩ := H
                replace H : (some (t110, 0)) = some (r1, r2) := H
                have A22 := Aside0.mk A220
                clear A220
                simp only [Option.some.injEq, Prod.mk.injEq] at H
                obtain ⟨rfl, rfl⟩ := H
                go_wp2_with (first | ((with_reducible refine gate_callee (f := 18) rfl ?_); refine goesL_ (some 45) rfl rfl Try.func18 (by kernel_rfl) rfl #[.int .i64 (wrap64 (t106 + t107))] rfl (by (try simp only [List.map_toArray, List.map_cons, List.map_nil]); first | done | rfl | (simp only [List.length_drop, List.length_take]; rfl)) ?_; (with_reducible refine (spinneretref05_Int.calls (wrap64 (t106 + t107)) t110 _ A22.out).mono ?_); rintro e w23 ⟨rfl, hb⟩; refine ⟨_, rfl, ?_⟩; have n0_ := Aside0.mk (below_step (by repeat (first | (with_reducible first | exact HB.out | apply below_alloc | apply pw_below_drewN | apply below_drew1) | exact HB.out)) hb); clear HB; have HB := n0_; clear n0_; (try clear hb); (try clear hb2); (try clear hk); (try clear hi)))
                go_ret2
                exact ⟨by first | rfl | (simp [errW_none, errW_some] <;> rfl) | (simp [*, errW_none, errW_some] <;> rfl), by repeat (first | (with_reducible first | exact HB.out | apply below_alloc | apply pw_below_drewN | apply below_drew1) | exact HB.out)⟩
              · rw [if_neg c21] at H
                have c21b0 : (a0 == 9) = false := beq_eq_false_iff_ne.mpr c21
                have c21b1 : (a0 != 9) = true := bne_iff_ne.mpr c21
                by_cases c24 : a0 = 10
                · rw [if_pos c24] at H
                  have c24b0 : (a0 == 10) = true := beq_iff_eq.mpr c24
                  have c24b1 : (a0 != 10) = false := bne_eq_false_iff_eq.mpr c24
                  clear c24
                  replace H := Option.bind_eq_some_iff.mp H
                  obtain ⟨t111, A250, H⟩ := H
                  replace H : (some (t111, 0)) = some (r1, r2) := H
                  have A25 := Aside0.mk A250
                  clear A250
                  simp only [Option.some.injEq, Prod.mk.injEq] at H
                  obtain ⟨rfl, rfl⟩ := H
                  go_wp2_with (first | ((with_reducible refine gate_callee (f := 18) rfl ?_); refine goesL_ (some 51) rfl rfl Try.func18 (by kernel_rfl) rfl #[.int .i64 (wrap64 (t106 - t107))] rfl (by (try simp only [List.map_toArray, List.map_cons, List.map_nil]); first | done | rfl | (simp only [List.length_drop, List.length_take]; rfl)) ?_; (with_reducible refine (spinneretref05_Int.calls (wrap64 (t106 - t107)) t111 _ A25.out).mono ?_); rintro e w26 ⟨rfl, hb⟩; refine ⟨_, rfl, ?_⟩; have n0_ := Aside0.mk (below_step (by repeat (first | (with_reducible first | exact HB.out | apply below_alloc | apply pw_below_drewN | apply below_drew1) | exact HB.out)) hb); clear HB; have HB := n0_; clear n0_; (try clear hb); (try clear hb2); (try clear hk); (try clear hi)))
                  go_ret2
                  exact ⟨by first | rfl | (simp [errW_none, errW_some] <;> rfl) | (simp [*, errW_none, errW_some] <;> rfl), by repeat (first | (with_reducible first | exact HB.out | apply below_alloc | apply pw_below_drewN | apply below_drew1) | exact HB.out)⟩
                · rw [if_neg c24] at H
                  have c24b0 : (a0 == 10) = false := beq_eq_false_iff_ne.mpr c24
                  have c24b1 : (a0 != 10) = true := bne_iff_ne.mpr c24
                  by_cases c27 : a0 = 11
                  · rw [if_pos c27] at H
                    have c27b0 : (a0 == 11) = true := beq_iff_eq.mpr c27
                    have c27b1 : (a0 != 11) = false := bne_eq_false_iff_eq.mpr c27
                    clear c27
                    replace H := Option.bind_eq_some_iff.mp H
                    obtain ⟨t112, A280, H⟩ := H
                    replace H : (some (t112, 0)) = some (r1, r2) := H
                    have A28 := Aside0.mk A280
                    clear A280
                    simp only [Option.some.injEq, Prod.mk.injEq] at H
                    obtain ⟨rfl, rfl⟩ := H
                    go_wp2_with (first | ((with_reducible refine gate_callee (f := 22) rfl ?_); refine goesL_ (some 56) rfl rfl Try.func22 (by kernel_rfl) rfl #[.int .i64 t106, .int .i64 t107] rfl (by (try simp only [List.map_toArray, List.map_cons, List.map_nil]); first | done | rfl | (simp only [List.length_drop, List.length_take]; rfl)) ?_; (with_reducible refine (spinneretref05_shift.calls kj5 t106 t107 t112 _ A28.out).mono ?_); rintro e w29 ⟨rfl, hb⟩; refine ⟨_, rfl, ?_⟩; have n0_ := Aside0.mk (below_step (by repeat (first | (with_reducible first | exact HB.out | apply below_alloc | apply pw_below_drewN | apply below_drew1) | exact HB.out)) hb); clear HB; have HB := n0_; clear n0_; (try clear hb); (try clear hb2); (try clear hk); (try clear hi)))
                    go_ret2
                    exact ⟨by first | rfl | (simp [errW_none, errW_some] <;> rfl) | (simp [*, errW_none, errW_some] <;> rfl), by repeat (first | (with_reducible first | exact HB.out | apply below_alloc | apply pw_below_drewN | apply below_drew1) | exact HB.out)⟩
                  · rw [if_neg c27] at H
                    have c27b0 : (a0 == 11) = false := beq_eq_false_iff_ne.mpr c27
                    have c27b1 : (a0 != 11) = true := bne_iff_ne.mpr c27
                    by_cases c30 : a0 = 12
                    · rw [if_pos c30] at H
                      have c30b0 : (a0 == 12) = true := beq_iff_eq.mpr c30
                      have c30b1 : (a0 != 12) = false := bne_eq_false_iff_eq.mpr c30
                      clear c30
                      replace H := Option.bind_eq_some_iff.mp H
                      obtain ⟨t113, A310, H⟩ := H
                      replace H : (some (t113, 0)) = some (r1, r2) := H
                      have A31 := Aside0.mk A310
                      clear A310
                      simp only [Option.some.injEq, Prod.mk.injEq] at H
                      obtain ⟨rfl, rfl⟩ := H
                      go_wp2_with (first | ((with_reducible refine gate_callee (f := 22) rfl ?_); refine goesL_ (some 62) rfl rfl Try.func22 (by kernel_rfl) rfl #[.int .i64 t106, .int .i64 (wrap64 (-t107))] rfl (by (try simp only [List.map_toArray, List.map_cons, List.map_nil]); first | done | rfl | (simp only [List.length_drop, List.length_take]; rfl)) ?_; (with_reducible refine (spinneretref05_shift.calls kj5 t106 (wrap64 (-t107)) t113 _ A31.out).mono ?_); rintro e w32 ⟨rfl, hb⟩; refine ⟨_, rfl, ?_⟩; have n0_ := Aside0.mk (below_step (by repeat (first | (with_reducible first | exact HB.out | apply below_alloc | apply pw_below_drewN | apply below_drew1) | exact HB.out)) hb); clear HB; have HB := n0_; clear n0_; (try clear hb); (try clear hb2); (try clear hk); (try clear hi)))
                      go_ret2
                      exact ⟨by first | rfl | (simp [errW_none, errW_some] <;> rfl) | (simp [*, errW_none, errW_some] <;> rfl), by repeat (first | (with_reducible first | exact HB.out | apply below_alloc | apply pw_below_drewN | apply below_drew1) | exact HB.out)⟩
                    · rw [if_neg c30] at H
                      have c30b0 : (a0 == 12) = false := beq_eq_false_iff_ne.mpr c30
                      have c30b1 : (a0 != 12) = true := bne_iff_ne.mpr c30
                      by_cases c33 : a0 = 13
                      · rw [if_pos c33] at H
                        have c33b0 : (a0 == 13) = true := beq_iff_eq.mpr c33
                        have c33b1 : (a0 != 13) = false := bne_eq_false_iff_eq.mpr c33
                        clear c33
                        replace H := Option.bind_eq_some_iff.mp H
                        obtain ⟨t114, A340, H⟩ := H
                        replace H : (some (t114, 0)) = some (r1, r2) := H
                        have A34 := Aside0.mk A340
                        clear A340
                        simp only [Option.some.injEq, Prod.mk.injEq] at H
                        obtain ⟨rfl, rfl⟩ := H
                        go_wp2_with (first | ((with_reducible refine gate_callee (f := 20) rfl ?_); refine goesL_ (some 68) rfl rfl Try.func20 (by kernel_rfl) rfl #[.bool (decide (t106 < t107))] rfl (by (try simp only [List.map_toArray, List.map_cons, List.map_nil]); first | done | rfl | (simp only [List.length_drop, List.length_take]; rfl)) ?_; (with_reducible refine (spinneretref05_one.calls (decide (t106 < t107)) t114 _ A34.out).mono ?_); rintro e w' ⟨rfl, ⟨nd, rfl⟩⟩; refine ⟨_, rfl, ?_⟩))
                        go_ret2
                        exact ⟨by first | rfl | (simp [errW_none, errW_some] <;> rfl) | (simp [*, errW_none, errW_some] <;> rfl), by repeat (first | (with_reducible first | exact HB.out | apply below_alloc | apply pw_below_drewN | apply below_drew1) | exact HB.out)⟩
                      · rw [if_neg c33] at H
                        have c33b0 : (a0 == 13) = false := beq_eq_false_iff_ne.mpr c33
                        have c33b1 : (a0 != 13) = true := bne_iff_ne.mpr c33
                        by_cases c35 : a0 = 14
                        · rw [if_pos c35] at H
                          have c35b0 : (a0 == 14) = true := beq_iff_eq.mpr c35
                          have c35b1 : (a0 != 14) = false := bne_eq_false_iff_eq.mpr c35
                          clear c35
                          replace H := Option.bind_eq_some_iff.mp H
                          obtain ⟨t115, A360, H⟩ := H
                          replace H : (some (t115, 0)) = some (r1, r2) := H
                          have A36 := Aside0.mk A360
                          clear A360
                          simp only [Option.some.injEq, Prod.mk.injEq] at H
                          obtain ⟨rfl, rfl⟩ := H
                          go_wp2_with (first | ((with_reducible refine gate_callee (f := 20) rfl ?_); refine goesL_ (some 74) rfl rfl Try.func20 (by kernel_rfl) rfl #[.bool (decide (t106 ≤ t107))] rfl (by (try simp only [List.map_toArray, List.map_cons, List.map_nil]); first | done | rfl | (simp only [List.length_drop, List.length_take]; rfl)) ?_; (with_reducible refine (spinneretref05_one.calls (decide (t106 ≤ t107)) t115 _ A36.out).mono ?_); rintro e w' ⟨rfl, ⟨nd, rfl⟩⟩; refine ⟨_, rfl, ?_⟩))
                          go_ret2
                          exact ⟨by first | rfl | (simp [errW_none, errW_some] <;> rfl) | (simp [*, errW_none, errW_some] <;> rfl), by repeat (first | (with_reducible first | exact HB.out | apply below_alloc | apply pw_below_drewN | apply below_drew1) | exact HB.out)⟩
                        · rw [if_neg c35] at H
                          have c35b0 : (a0 == 14) = false := beq_eq_false_iff_ne.mpr c35
                          have c35b1 : (a0 != 14) = true := bne_iff_ne.mpr c35
                          by_cases c37 : a0 = 15
                          · rw [if_pos c37] at H
                            have c37b0 : (a0 == 15) = true := beq_iff_eq.mpr c37
                            have c37b1 : (a0 != 15) = false := bne_eq_false_iff_eq.mpr c37
                            clear c37
                            replace H := Option.bind_eq_some_iff.mp H
                            obtain ⟨t116, A380, H⟩ := H
                            replace H : (some (t116, 0)) = some (r1, r2) := H
                            have A38 := Aside0.mk A380
                            clear A380
                            simp only [Option.some.injEq, Prod.mk.injEq] at H
                            obtain ⟨rfl, rfl⟩ := H
                            go_wp2_with (first | ((with_reducible refine gate_callee (f := 20) rfl ?_); refine goesL_ (some 80) rfl rfl Try.func20 (by kernel_rfl) rfl #[.bool (decide (t106 > t107))] rfl (by (try simp only [List.map_toArray, List.map_cons, List.map_nil]); first | done | rfl | (simp only [List.length_drop, List.length_take]; rfl)) ?_; (with_reducible refine (spinneretref05_one.calls (decide (t106 > t107)) t116 _ A38.out).mono ?_); rintro e w' ⟨rfl, ⟨nd, rfl⟩⟩; refine ⟨_, rfl, ?_⟩))
                            go_ret2
                            exact ⟨by first | rfl | (simp [errW_none, errW_some] <;> rfl) | (simp [*, errW_none, errW_some] <;> rfl), by repeat (first | (with_reducible first | exact HB.out | apply below_alloc | apply pw_below_drewN | apply below_drew1) | exact HB.out)⟩
                          · rw [if_neg c37] at H
                            have c37b0 : (a0 == 15) = false := beq_eq_false_iff_ne.mpr c37
                            have c37b1 : (a0 != 15) = true := bne_iff_ne.mpr c37
                            by_cases c39 : a0 = 16
                            · rw [if_pos c39] at H
                              have c39b0 : (a0 == 16) = true := beq_iff_eq.mpr c39
                              have c39b1 : (a0 != 16) = false := bne_eq_false_iff_eq.mpr c39
                              clear c39
                              replace H := Option.bind_eq_some_iff.mp H
                              obtain ⟨t117, A400, H⟩ := H
                              replace H : (some (t117, 0)) = some (r1, r2) := H
                              have A40 := Aside0.mk A400
                              clear A400
                              simp only [Option.some.injEq, Prod.mk.injEq] at H
                              obtain ⟨rfl, rfl⟩ := H
                              go_wp2_with (first | ((with_reducible refine gate_callee (f := 20) rfl ?_); refine goesL_ (some 86) rfl rfl Try.func20 (by kernel_rfl) rfl #[.bool (decide (t106 ≥ t107))] rfl (by (try simp only [List.map_toArray, List.map_cons, List.map_nil]); first | done | rfl | (simp only [List.length_drop, List.length_take]; rfl)) ?_; (with_reducible refine (spinneretref05_one.calls (decide (t106 ≥ t107)) t117 _ A40.out).mono ?_); rintro e w' ⟨rfl, ⟨nd, rfl⟩⟩; refine ⟨_, rfl, ?_⟩))
                              go_ret2
                              exact ⟨by first | rfl | (simp [errW_none, errW_some] <;> rfl) | (simp [*, errW_none, errW_some] <;> rfl), by repeat (first | (with_reducible first | exact HB.out | apply below_alloc | apply pw_below_drewN | apply below_drew1) | exact HB.out)⟩
                            · rw [if_neg c39] at H
                              have c39b0 : (a0 == 16) = false := beq_eq_false_iff_ne.mpr c39
                              have c39b1 : (a0 != 16) = true := bne_iff_ne.mpr c39
                              by_cases c41 : a0 = 17
                              · rw [if_pos c41] at H
                                have c41b0 : (a0 == 17) = true := beq_iff_eq.mpr c41
                                have c41b1 : (a0 != 17) = false := bne_eq_false_iff_eq.mpr c41
                                clear c41
                                replace H := Option.bind_eq_some_iff.mp H
                                obtain ⟨t118, A420, H⟩ := H
                                replace H : (some (t118, 0)) = some (r1, r2) := H
                                have A42 := Aside0.mk A420
                                clear A420
                                simp only [Option.some.injEq, Prod.mk.injEq] at H
                                obtain ⟨rfl, rfl⟩ := H
                                go_wp2_with (first | ((with_reducible refine gate_callee (f := 20) rfl ?_); refine goesL_ (some 92) rfl rfl Try.func20 (by kernel_rfl) rfl #[.bool (t106 == t107)] rfl (by (try simp only [List.map_toArray, List.map_cons, List.map_nil]); first | done | rfl | (simp only [List.length_drop, List.length_take]; rfl)) ?_; (with_reducible refine (spinneretref05_one.calls (t106 == t107) t118 _ A42.out).mono ?_); rintro e w' ⟨rfl, ⟨nd, rfl⟩⟩; refine ⟨_, rfl, ?_⟩))
                                go_ret2
                                exact ⟨by first | rfl | (simp [errW_none, errW_some] <;> rfl) | (simp [*, errW_none, errW_some] <;> rfl), by repeat (first | (with_reducible first | exact HB.out | apply below_alloc | apply pw_below_drewN | apply below_drew1) | exact HB.out)⟩
                              · rw [if_neg c41] at H
                                have c41b0 : (a0 == 17) = false := beq_eq_false_iff_ne.mpr c41
                                have c41b1 : (a0 != 17) = true := bne_iff_ne.mpr c41
                                by_cases c43 : a0 = 18
                                · rw [if_pos c43] at H
                                  have c43b0 : (a0 == 18) = true := beq_iff_eq.mpr c43
                                  have c43b1 : (a0 != 18) = false := bne_eq_false_iff_eq.mpr c43
                                  clear c43
                                  replace H := Option.bind_eq_some_iff.mp H
                                  obtain ⟨t119, A440, H⟩ := H
                                  replace H : (some (t119, 0)) = some (r1, r2) := H
                                  have A44 := Aside0.mk A440
                                  clear A440
                                  simp only [Option.some.injEq, Prod.mk.injEq] at H
                                  obtain ⟨rfl, rfl⟩ := H
                                  go_wp2_with (first | ((with_reducible refine gate_callee (f := 20) rfl ?_); refine goesL_ (some 98) rfl rfl Try.func20 (by kernel_rfl) rfl #[.bool (t106 != t107)] rfl (by (try simp only [List.map_toArray, List.map_cons, List.map_nil]); first | done | rfl | (simp only [List.length_drop, List.length_take]; rfl)) ?_; (with_reducible refine (spinneretref05_one.calls (t106 != t107) t119 _ A44.out).mono ?_); rintro e w' ⟨rfl, ⟨nd, rfl⟩⟩; refine ⟨_, rfl, ?_⟩))
                                  go_ret2
                                  exact ⟨by first | rfl | (simp [errW_none, errW_some] <;> rfl) | (simp [*, errW_none, errW_some] <;> rfl), by repeat (first | (with_reducible first | exact HB.out | apply below_alloc | apply pw_below_drewN | apply below_drew1) | exact HB.out)⟩
                                · rw [if_neg c43] at H
                                  have c43b0 : (a0 == 18) = false := beq_eq_false_iff_ne.mpr c43
                                  have c43b1 : (a0 != 18) = true := bne_iff_ne.mpr c43
                                  by_cases c45 : a0 = 19
                                  · rw [if_pos c45] at H
                                    have c45b0 : (a0 == 19) = true := beq_iff_eq.mpr c45
                                    have c45b1 : (a0 != 19) = false := bne_eq_false_iff_eq.mpr c45
                                    clear c45
                                    simp only [Option.some.injEq, Prod.mk.injEq] at H
                                    obtain ⟨rfl, rfl⟩ := H
                                    go_wp2
                                    go_ret2
                                    exact ⟨by first | rfl | (simp [errW_none, errW_some] <;> rfl) | (simp [*, errW_none, errW_some] <;> rfl), by repeat (first | (with_reducible first | exact HB.out | apply below_alloc | apply pw_below_drewN | apply below_drew1) | exact HB.out)⟩
                                  · rw [if_neg c45] at H
                                    have c45b0 : (a0 == 19) = false := beq_eq_false_iff_ne.mpr c45
                                    have c45b1 : (a0 != 19) = true := bne_iff_ne.mpr c45
                                    by_cases c46 : a0 = 20
                                    · rw [if_pos c46] at H
                                      have c46b0 : (a0 == 20) = true := beq_iff_eq.mpr c46
                                      have c46b1 : (a0 != 20) = false := bne_eq_false_iff_eq.mpr c46
                                      clear c46
                                      simp only [Option.some.injEq, Prod.mk.injEq] at H
                                      obtain ⟨rfl, rfl⟩ := H
                                      go_wp2
                                      go_ret2
                                      exact ⟨by first | rfl | (simp [errW_none, errW_some] <;> rfl) | (simp [*, errW_none, errW_some] <;> rfl), by repeat (first | (with_reducible first | exact HB.out | apply below_alloc | apply pw_below_drewN | apply below_drew1) | exact HB.out)⟩
                                    · rw [if_neg c46] at H
                                      have c46b0 : (a0 == 20) = false := beq_eq_false_iff_ne.mpr c46
                                      have c46b1 : (a0 != 20) = true := bne_iff_ne.mpr c46
                                      by_cases c47 : a0 = 21
                                      · rw [if_pos c47] at H
                                        have c47b0 : (a0 == 21) = true := beq_iff_eq.mpr c47
                                        have c47b1 : (a0 != 21) = false := bne_eq_false_iff_eq.mpr c47
                                        clear c47
                                        simp only [Option.some.injEq, Prod.mk.injEq] at H
                                        obtain ⟨rfl, rfl⟩ := H
                                        go_wp2
                                        go_ret2
                                        exact ⟨by first | rfl | (simp [errW_none, errW_some] <;> rfl) | (simp [*, errW_none, errW_some] <;> rfl), by repeat (first | (with_reducible first | exact HB.out | apply below_alloc | apply pw_below_drewN | apply below_drew1) | exact HB.out)⟩
                                      · rw [if_neg c47] at H
                                        have c47b0 : (a0 == 21) = false := beq_eq_false_iff_ne.mpr c47
                                        have c47b1 : (a0 != 21) = true := bne_iff_ne.mpr c47
                                        simp only [Option.some.injEq, Prod.mk.injEq] at H
                                        obtain ⟨rfl, rfl⟩ := H
                                        go_wp2
                                        go_ret2
                                        exact ⟨by first | rfl | (simp [errW_none, errW_some] <;> rfl) | (simp [*, errW_none, errW_some] <;> rfl), by repeat (first | (with_reducible first | exact HB.out | apply below_alloc | apply pw_below_drewN | apply below_drew1) | exact HB.out)⟩

-- NOT PRINTED: function 6 (spinneretlaw05_ValueTwo)

end Go.Proofs.Ytgcjbkdogloojaa.PValueTwo
