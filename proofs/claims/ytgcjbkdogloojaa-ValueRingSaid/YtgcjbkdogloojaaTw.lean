/- What value.Two tells of each operator, walked once an operator. Condition: the two numbers are of 64 bits. -/
import Derived.Test.YtgcjbkdogloojaaPValueTwox1
import Derived.Test.YtgcjbkdogloojaaVm2
import Derived.WalkMore
import Derived.ScopeJumps
import Derived.WalkLawsBesides
namespace Go.Proofs.Ytgcjbkdogloojaa.Tw
open Go.RowKit Go.Proofs.YtgcjbkdogloojaaW.PrintWords Go.Proofs.YtgcjbkdogloojaaW.PrintLast Go.Proofs.YtgcjbkdogloojaaW.PrintMore Go.Proofs.Ytgcjbkdogloojaa.Vm Go.Proofs.Ytgcjbkdogloojaa.PValueTwo
attribute [local go_sem] max2_int min2_int max_two min_two

theorem truth_tells (b : Bool) : value_truth.f b = some (if b = true then 1 else 0) := by unfold value_truth.f; split <;> rfl

theorem wp_scope_fwd {P : Program} {a : Act} {w : World} {Q : Exit → Act → World → Prop} {c rest : Code} (l : Nat) (hf : findLabel c l = some rest)
    (h : c.wp P (Exit.jump l (fun a' w' => rest.wp P (Exit.noGoto Q) a' w') Q) a w) : (Code.scope c).wp P Q a w := by
  refine wp_scope_jumps l (fun a' w' => rest.wp P (Exit.noGoto Q) a' w') (fun _ _ => 0) hf h (fun a' w' hJ => ?_)
  exact Code.wp_mono (fun e a w q => by cases e <;> first | exact q | exact q.elim) hJ

set_option maxHeartbeats 400000 in
set_option maxRecDepth 100000 in
theorem two6 (a b : Int) (w : World) : Calls Try.prog 16 #[.int .i64 6, .int .i64 a, .int .i64 b] w fun e w' =>
    e = .returned (.tuple #[.int .i64 (wrap64 (wrap32 (wrap32 a * wrap32 b))), .int .i64 0]) ∧ Drawn0 w w' := by
  go_enter Try.func16, Try.ntmps16
  go_wp2
  go_step3
  go_wp2
  rw [Exit.noGoto_ret]
  go_ret2
  exact ⟨by first | rfl | (simp; done) | (simp [*]; done), by repeat (first | exact Drawn0.refl _ | apply Drawn0.step)⟩

set_option maxHeartbeats 400000 in
set_option maxRecDepth 100000 in
theorem two9 (a b : Int) (w : World) : Calls Try.prog 16 #[.int .i64 9, .int .i64 a, .int .i64 b] w fun e w' =>
    e = .returned (.tuple #[.int .i64 (wrap64 (wrap32 (wrap32 a + wrap32 b))), .int .i64 0]) ∧ Drawn0 w w' := by
  go_enter Try.func16, Try.ntmps16
  go_wp2
  go_step3
  go_wp2
  rw [Exit.noGoto_ret]
  go_ret2
  exact ⟨by first | rfl | (simp; done) | (simp [*]; done), by repeat (first | exact Drawn0.refl _ | apply Drawn0.step)⟩

set_option maxHeartbeats 400000 in
set_option maxRecDepth 100000 in
theorem two10 (a b : Int) (w : World) : Calls Try.prog 16 #[.int .i64 10, .int .i64 a, .int .i64 b] w fun e w' =>
    e = .returned (.tuple #[.int .i64 (wrap64 (wrap32 (wrap32 a - wrap32 b))), .int .i64 0]) ∧ Drawn0 w w' := by
  go_enter Try.func16, Try.ntmps16
  go_wp2
  go_step3
  go_wp2
  rw [Exit.noGoto_ret]
  go_ret2
  exact ⟨by first | rfl | (simp; done) | (simp [*]; done), by repeat (first | exact Drawn0.refl _ | apply Drawn0.step)⟩

set_option maxHeartbeats 400000 in
set_option maxRecDepth 100000 in
theorem two19 (a b : Int) (w : World) : Calls Try.prog 16 #[.int .i64 19, .int .i64 a, .int .i64 b] w fun e w' =>
    e = .returned (.tuple #[.int .i64 (wrap64 (Go.bits .and .i32 (wrap32 a) (wrap32 b))), .int .i64 0]) ∧ Drawn0 w w' := by
  go_enter Try.func16, Try.ntmps16
  go_wp2
  go_step3
  go_wp2
  rw [Exit.noGoto_ret]
  go_ret2
  exact ⟨by first | rfl | (simp; done) | (simp [*]; done), by repeat (first | exact Drawn0.refl _ | apply Drawn0.step)⟩

set_option maxHeartbeats 400000 in
set_option maxRecDepth 100000 in
theorem two20 (a b : Int) (w : World) : Calls Try.prog 16 #[.int .i64 20, .int .i64 a, .int .i64 b] w fun e w' =>
    e = .returned (.tuple #[.int .i64 (wrap64 (Go.bits .xor .i32 (wrap32 a) (wrap32 b))), .int .i64 0]) ∧ Drawn0 w w' := by
  go_enter Try.func16, Try.ntmps16
  go_wp2
  go_step3
  go_wp2
  rw [Exit.noGoto_ret]
  go_ret2
  exact ⟨by first | rfl | (simp; done) | (simp [*]; done), by repeat (first | exact Drawn0.refl _ | apply Drawn0.step)⟩

set_option maxHeartbeats 400000 in
set_option maxRecDepth 100000 in
theorem two21 (a b : Int) (w : World) : Calls Try.prog 16 #[.int .i64 21, .int .i64 a, .int .i64 b] w fun e w' =>
    e = .returned (.tuple #[.int .i64 (wrap64 (Go.bits .or .i32 (wrap32 a) (wrap32 b))), .int .i64 0]) ∧ Drawn0 w w' := by
  go_enter Try.func16, Try.ntmps16
  go_wp2
  go_step3
  go_wp2
  rw [Exit.noGoto_ret]
  go_ret2
  exact ⟨by first | rfl | (simp; done) | (simp [*]; done), by repeat (first | exact Drawn0.refl _ | apply Drawn0.step)⟩

set_option maxHeartbeats 400000 in
set_option maxRecDepth 100000 in
theorem two7z (a b : Int) (hz : wrap32 b = 0) (w : World) : Calls Try.prog 16 #[.int .i64 7, .int .i64 a, .int .i64 b] w fun e w' =>
    e = .returned (.tuple #[.int .i64 (0), .int .i64 48]) ∧ Drawn0 w w' := by
  have z0 : (wrap32 b == 0) = true := by simpa using hz
  clear hz
  go_enter Try.func16, Try.ntmps16
  go_wp2
  refine wp_scope_fwd 0 rfl ?_
  go_wp2
  go_step3
  refine ⟨rfl, ?_⟩
  go_wp2
  try rw [Exit.noGoto_ret]
  go_ret2
  exact ⟨by first | rfl | (simp; done) | (simp [*]; done), by repeat (first | exact Drawn0.refl _ | apply Drawn0.step)⟩

set_option maxHeartbeats 400000 in
set_option maxRecDepth 100000 in
theorem two8z (a b : Int) (hz : wrap32 b = 0) (w : World) : Calls Try.prog 16 #[.int .i64 8, .int .i64 a, .int .i64 b] w fun e w' =>
    e = .returned (.tuple #[.int .i64 (0), .int .i64 48]) ∧ Drawn0 w w' := by
  have z0 : (wrap32 b == 0) = true := by simpa using hz
  clear hz
  go_enter Try.func16, Try.ntmps16
  go_wp2
  refine wp_scope_fwd 0 rfl ?_
  go_wp2
  go_step3
  refine ⟨rfl, ?_⟩
  go_wp2
  try rw [Exit.noGoto_ret]
  go_ret2
  exact ⟨by first | rfl | (simp; done) | (simp [*]; done), by repeat (first | exact Drawn0.refl _ | apply Drawn0.step)⟩

set_option maxHeartbeats 400000 in
set_option maxRecDepth 100000 in
theorem two7 (a b : Int) (hz : wrap32 b ≠ 0) (w : World) : Calls Try.prog 16 #[.int .i64 7, .int .i64 a, .int .i64 b] w fun e w' =>
    e = .returned (.tuple #[.int .i64 (wrap64 (wrap32 (Int.tdiv (wrap32 a) (wrap32 b)))), .int .i64 0]) ∧ Drawn0 w w' := by
  have z1 : (wrap32 b == 0) = false := by simpa using hz
  go_enter Try.func16, Try.ntmps16
  go_wp2
  go_step3
  go_wp2
  rw [Exit.noGoto_ret]
  go_ret2
  exact ⟨by first | rfl | (simp; done) | (simp [*]; done), by repeat (first | exact Drawn0.refl _ | apply Drawn0.step)⟩

set_option maxHeartbeats 400000 in
set_option maxRecDepth 100000 in
theorem two8 (a b : Int) (hz : wrap32 b ≠ 0) (w : World) : Calls Try.prog 16 #[.int .i64 8, .int .i64 a, .int .i64 b] w fun e w' =>
    e = .returned (.tuple #[.int .i64 (wrap64 (wrap32 (wrap32 a - wrap32 (wrap32 (Int.tdiv (wrap32 a) (wrap32 b)) * wrap32 b)))), .int .i64 0]) ∧ Drawn0 w w' := by
  have z1 : (wrap32 b == 0) = false := by simpa using hz
  go_enter Try.func16, Try.ntmps16
  go_wp2
  go_step3
  go_wp2
  rw [Exit.noGoto_ret]
  go_ret2
  exact ⟨by first | rfl | (simp; done) | (simp [*]; done), by repeat (first | exact Drawn0.refl _ | apply Drawn0.step)⟩

set_option maxHeartbeats 400000 in
set_option maxRecDepth 100000 in
theorem two13t (a b : Int) (hc : wrap32 a < wrap32 b) (w : World) : Calls Try.prog 16 #[.int .i64 13, .int .i64 a, .int .i64 b] w fun e w' =>
    e = .returned (.tuple #[.int .i64 (1), .int .i64 0]) ∧ Drawn0 w w' := by
  have hb : decide (wrap32 a < wrap32 b) = true := by simpa using hc
  clear hc
  go_enter Try.func16, Try.ntmps16
  go_wp2
  refine wp_scope_fwd 1 rfl ?_
  go_wp2
  go_step3
  refine ⟨rfl, ?_⟩
  go_wp2_with (go_at_call 19; refine (value_truth.calls true 1 _ rfl).mono ?_; rintro e w' ⟨rfl, ⟨nd, rfl⟩⟩)
  try rw [Exit.noGoto_ret]
  go_ret2
  exact ⟨by first | rfl | (simp; done) | (simp [*]; done), by repeat (first | exact Drawn0.refl _ | apply Drawn0.step)⟩

set_option maxHeartbeats 400000 in
set_option maxRecDepth 100000 in
theorem two13f (a b : Int) (hc : ¬ (wrap32 a < wrap32 b)) (w : World) : Calls Try.prog 16 #[.int .i64 13, .int .i64 a, .int .i64 b] w fun e w' =>
    e = .returned (.tuple #[.int .i64 (0), .int .i64 0]) ∧ Drawn0 w w' := by
  have hb : decide (wrap32 a < wrap32 b) = false := by simpa using hc
  clear hc
  go_enter Try.func16, Try.ntmps16
  go_wp2
  refine wp_scope_fwd 1 rfl ?_
  go_wp2
  go_step3
  refine ⟨rfl, ?_⟩
  go_wp2_with (go_at_call 19; refine (value_truth.calls false 0 _ rfl).mono ?_; rintro e w' ⟨rfl, ⟨nd, rfl⟩⟩)
  try rw [Exit.noGoto_ret]
  go_ret2
  exact ⟨by first | rfl | (simp; done) | (simp [*]; done), by repeat (first | exact Drawn0.refl _ | apply Drawn0.step)⟩

set_option maxHeartbeats 400000 in
set_option maxRecDepth 100000 in
theorem two14t (a b : Int) (hc : wrap32 a ≤ wrap32 b) (w : World) : Calls Try.prog 16 #[.int .i64 14, .int .i64 a, .int .i64 b] w fun e w' =>
    e = .returned (.tuple #[.int .i64 (1), .int .i64 0]) ∧ Drawn0 w w' := by
  have hb : decide (wrap32 a ≤ wrap32 b) = true := by simpa using hc
  clear hc
  go_enter Try.func16, Try.ntmps16
  go_wp2
  refine wp_scope_fwd 1 rfl ?_
  go_wp2
  go_step3
  refine ⟨rfl, ?_⟩
  go_wp2_with (go_at_call 19; refine (value_truth.calls true 1 _ rfl).mono ?_; rintro e w' ⟨rfl, ⟨nd, rfl⟩⟩)
  try rw [Exit.noGoto_ret]
  go_ret2
  exact ⟨by first | rfl | (simp; done) | (simp [*]; done), by repeat (first | exact Drawn0.refl _ | apply Drawn0.step)⟩

set_option maxHeartbeats 400000 in
set_option maxRecDepth 100000 in
theorem two14f (a b : Int) (hc : ¬ (wrap32 a ≤ wrap32 b)) (w : World) : Calls Try.prog 16 #[.int .i64 14, .int .i64 a, .int .i64 b] w fun e w' =>
    e = .returned (.tuple #[.int .i64 (0), .int .i64 0]) ∧ Drawn0 w w' := by
  have hb : decide (wrap32 a ≤ wrap32 b) = false := by simpa using hc
  clear hc
  go_enter Try.func16, Try.ntmps16
  go_wp2
  refine wp_scope_fwd 1 rfl ?_
  go_wp2
  go_step3
  refine ⟨rfl, ?_⟩
  go_wp2_with (go_at_call 19; refine (value_truth.calls false 0 _ rfl).mono ?_; rintro e w' ⟨rfl, ⟨nd, rfl⟩⟩)
  try rw [Exit.noGoto_ret]
  go_ret2
  exact ⟨by first | rfl | (simp; done) | (simp [*]; done), by repeat (first | exact Drawn0.refl _ | apply Drawn0.step)⟩

set_option maxHeartbeats 400000 in
set_option maxRecDepth 100000 in
theorem two15t (a b : Int) (hc : wrap32 b < wrap32 a) (w : World) : Calls Try.prog 16 #[.int .i64 15, .int .i64 a, .int .i64 b] w fun e w' =>
    e = .returned (.tuple #[.int .i64 (1), .int .i64 0]) ∧ Drawn0 w w' := by
  have hb : decide (wrap32 b < wrap32 a) = true := by simpa using hc
  clear hc
  go_enter Try.func16, Try.ntmps16
  go_wp2
  refine wp_scope_fwd 1 rfl ?_
  go_wp2
  go_step3
  refine ⟨rfl, ?_⟩
  go_wp2_with (go_at_call 19; refine (value_truth.calls true 1 _ rfl).mono ?_; rintro e w' ⟨rfl, ⟨nd, rfl⟩⟩)
  try rw [Exit.noGoto_ret]
  go_ret2
  exact ⟨by first | rfl | (simp; done) | (simp [*]; done), by repeat (first | exact Drawn0.refl _ | apply Drawn0.step)⟩

set_option maxHeartbeats 400000 in
set_option maxRecDepth 100000 in
theorem two15f (a b : Int) (hc : ¬ (wrap32 b < wrap32 a)) (w : World) : Calls Try.prog 16 #[.int .i64 15, .int .i64 a, .int .i64 b] w fun e w' =>
    e = .returned (.tuple #[.int .i64 (0), .int .i64 0]) ∧ Drawn0 w w' := by
  have hb : decide (wrap32 b < wrap32 a) = false := by simpa using hc
  clear hc
  go_enter Try.func16, Try.ntmps16
  go_wp2
  refine wp_scope_fwd 1 rfl ?_
  go_wp2
  go_step3
  refine ⟨rfl, ?_⟩
  go_wp2_with (go_at_call 19; refine (value_truth.calls false 0 _ rfl).mono ?_; rintro e w' ⟨rfl, ⟨nd, rfl⟩⟩)
  try rw [Exit.noGoto_ret]
  go_ret2
  exact ⟨by first | rfl | (simp; done) | (simp [*]; done), by repeat (first | exact Drawn0.refl _ | apply Drawn0.step)⟩

set_option maxHeartbeats 400000 in
set_option maxRecDepth 100000 in
theorem two16t (a b : Int) (hc : wrap32 b ≤ wrap32 a) (w : World) : Calls Try.prog 16 #[.int .i64 16, .int .i64 a, .int .i64 b] w fun e w' =>
    e = .returned (.tuple #[.int .i64 (1), .int .i64 0]) ∧ Drawn0 w w' := by
  have hb : decide (wrap32 b ≤ wrap32 a) = true := by simpa using hc
  clear hc
  go_enter Try.func16, Try.ntmps16
  go_wp2
  refine wp_scope_fwd 1 rfl ?_
  go_wp2
  go_step3
  refine ⟨rfl, ?_⟩
  go_wp2_with (go_at_call 19; refine (value_truth.calls true 1 _ rfl).mono ?_; rintro e w' ⟨rfl, ⟨nd, rfl⟩⟩)
  try rw [Exit.noGoto_ret]
  go_ret2
  exact ⟨by first | rfl | (simp; done) | (simp [*]; done), by repeat (first | exact Drawn0.refl _ | apply Drawn0.step)⟩

set_option maxHeartbeats 400000 in
set_option maxRecDepth 100000 in
theorem two16f (a b : Int) (hc : ¬ (wrap32 b ≤ wrap32 a)) (w : World) : Calls Try.prog 16 #[.int .i64 16, .int .i64 a, .int .i64 b] w fun e w' =>
    e = .returned (.tuple #[.int .i64 (0), .int .i64 0]) ∧ Drawn0 w w' := by
  have hb : decide (wrap32 b ≤ wrap32 a) = false := by simpa using hc
  clear hc
  go_enter Try.func16, Try.ntmps16
  go_wp2
  refine wp_scope_fwd 1 rfl ?_
  go_wp2
  go_step3
  refine ⟨rfl, ?_⟩
  go_wp2_with (go_at_call 19; refine (value_truth.calls false 0 _ rfl).mono ?_; rintro e w' ⟨rfl, ⟨nd, rfl⟩⟩)
  try rw [Exit.noGoto_ret]
  go_ret2
  exact ⟨by first | rfl | (simp; done) | (simp [*]; done), by repeat (first | exact Drawn0.refl _ | apply Drawn0.step)⟩

set_option maxHeartbeats 400000 in
set_option maxRecDepth 100000 in
theorem two17t (a b : Int) (hc : wrap32 a = wrap32 b) (w : World) : Calls Try.prog 16 #[.int .i64 17, .int .i64 a, .int .i64 b] w fun e w' =>
    e = .returned (.tuple #[.int .i64 (1), .int .i64 0]) ∧ Drawn0 w w' := by
  have hb : (wrap32 a == wrap32 b) = true := by simpa using hc
  clear hc
  go_enter Try.func16, Try.ntmps16
  go_wp2
  refine wp_scope_fwd 1 rfl ?_
  go_wp2
  go_step3
  refine ⟨rfl, ?_⟩
  go_wp2_with (go_at_call 19; refine (value_truth.calls true 1 _ rfl).mono ?_; rintro e w' ⟨rfl, ⟨nd, rfl⟩⟩)
  try rw [Exit.noGoto_ret]
  go_ret2
  exact ⟨by first | rfl | (simp; done) | (simp [*]; done), by repeat (first | exact Drawn0.refl _ | apply Drawn0.step)⟩

set_option maxHeartbeats 400000 in
set_option maxRecDepth 100000 in
theorem two17f (a b : Int) (hc : ¬ (wrap32 a = wrap32 b)) (w : World) : Calls Try.prog 16 #[.int .i64 17, .int .i64 a, .int .i64 b] w fun e w' =>
    e = .returned (.tuple #[.int .i64 (0), .int .i64 0]) ∧ Drawn0 w w' := by
  have hb : (wrap32 a == wrap32 b) = false := by simpa using hc
  clear hc
  go_enter Try.func16, Try.ntmps16
  go_wp2
  refine wp_scope_fwd 1 rfl ?_
  go_wp2
  go_step3
  refine ⟨rfl, ?_⟩
  go_wp2_with (go_at_call 19; refine (value_truth.calls false 0 _ rfl).mono ?_; rintro e w' ⟨rfl, ⟨nd, rfl⟩⟩)
  try rw [Exit.noGoto_ret]
  go_ret2
  exact ⟨by first | rfl | (simp; done) | (simp [*]; done), by repeat (first | exact Drawn0.refl _ | apply Drawn0.step)⟩

set_option maxHeartbeats 400000 in
set_option maxRecDepth 100000 in
theorem two18t (a b : Int) (hc : wrap32 a = wrap32 b) (w : World) : Calls Try.prog 16 #[.int .i64 18, .int .i64 a, .int .i64 b] w fun e w' =>
    e = .returned (.tuple #[.int .i64 (0), .int .i64 0]) ∧ Drawn0 w w' := by
  have hb : (wrap32 a != wrap32 b) = false := by simpa using hc
  clear hc
  go_enter Try.func16, Try.ntmps16
  go_wp2
  refine wp_scope_fwd 1 rfl ?_
  go_wp2
  go_step3
  refine ⟨rfl, ?_⟩
  go_wp2_with (go_at_call 19; refine (value_truth.calls false 0 _ rfl).mono ?_; rintro e w' ⟨rfl, ⟨nd, rfl⟩⟩)
  try rw [Exit.noGoto_ret]
  go_ret2
  exact ⟨by first | rfl | (simp; done) | (simp [*]; done), by repeat (first | exact Drawn0.refl _ | apply Drawn0.step)⟩

set_option maxHeartbeats 400000 in
set_option maxRecDepth 100000 in
theorem two18f (a b : Int) (hc : ¬ (wrap32 a = wrap32 b)) (w : World) : Calls Try.prog 16 #[.int .i64 18, .int .i64 a, .int .i64 b] w fun e w' =>
    e = .returned (.tuple #[.int .i64 (1), .int .i64 0]) ∧ Drawn0 w w' := by
  have hb : (wrap32 a != wrap32 b) = true := by simpa using hc
  clear hc
  go_enter Try.func16, Try.ntmps16
  go_wp2
  refine wp_scope_fwd 1 rfl ?_
  go_wp2
  go_step3
  refine ⟨rfl, ?_⟩
  go_wp2_with (go_at_call 19; refine (value_truth.calls true 1 _ rfl).mono ?_; rintro e w' ⟨rfl, ⟨nd, rfl⟩⟩)
  try rw [Exit.noGoto_ret]
  go_ret2
  exact ⟨by first | rfl | (simp; done) | (simp [*]; done), by repeat (first | exact Drawn0.refl _ | apply Drawn0.step)⟩

theorem shift_tells (x y : Int) (h0 : -9223372036854775807 ≤ y) (h1 : y ≤ 9223372036854775807) : value_shift.f x y = some (shv x y) := by
  unfold value_shift.f shv
  by_cases hy : y ≥ 0
  · rw [if_pos hy, if_pos hy]
    have e0 : 0 ≤ mn y 63 := by unfold mn; split <;> omega
    have e1 : min (mn y 63).toNat 32 = min y.toNat 32 := by unfold mn; split <;> omega
    rw [if_pos e0]
    unfold shl
    rw [i32_wrap]
    show some (wrap32 (x * 2 ^ min (mn y 63).toNat 32)) = _
    rw [e1]
  · rw [if_neg hy, if_neg hy, wrap64_id (by omega) (by omega)]
    have e0 : 0 ≤ mn (-y) 63 := by unfold mn; split <;> omega
    have e1 : min (mn (-y) 63).toNat 32 = min (-y).toNat 32 := by unfold mn; split <;> omega
    rw [if_pos e0]
    unfold shr
    show some (x / 2 ^ min (mn (-y) 63).toNat 32) = _
    rw [e1]

set_option maxHeartbeats 400000 in
set_option maxRecDepth 100000 in
theorem two11 (a b : Int) (w : World) : Calls Try.prog 16 #[.int .i64 11, .int .i64 a, .int .i64 b] w fun e w' =>
    e = .returned (.tuple #[.int .i64 (wrap64 (shv (wrap32 a) (wrap32 b))), .int .i64 0]) ∧ Below w.heap.size w w' := by
  have H := Aside0.mk (shift_tells (wrap32 a) (wrap32 b) (by have := wrap32_lo b; omega) (by have := wrap32_hi b; omega))
  have l := wrap32_lo b
  have u := wrap32_hi b
  go_enter Try.func16, Try.ntmps16
  go_wp2
  go_step3
  go_wp2_with (go_at_call 21; refine (value_shift.calls _ _ _ _ H.out).mono ?_; rintro e w1 ⟨rfl, hb⟩)
  rw [Exit.noGoto_ret]
  go_ret2
  exact ⟨by first | rfl | (simp; done) | (simp [*]; done), hb⟩

set_option maxHeartbeats 400000 in
set_option maxRecDepth 100000 in
theorem two12 (a b : Int) (w : World) : Calls Try.prog 16 #[.int .i64 12, .int .i64 a, .int .i64 b] w fun e w' =>
    e = .returned (.tuple #[.int .i64 (wrap64 (shv (wrap32 a) (-(wrap32 b)))), .int .i64 0]) ∧ Below w.heap.size w w' := by
  have H := Aside0.mk (shift_tells (wrap32 a) (-(wrap32 b)) (by have := wrap32_hi b; omega) (by have := wrap32_lo b; omega))
  have l := wrap32_lo b
  have u := wrap32_hi b
  go_enter Try.func16, Try.ntmps16
  go_wp2
  go_step3
  go_wp2_with (go_at_call 21; refine (value_shift.calls _ _ _ _ H.out).mono ?_; rintro e w1 ⟨rfl, hb⟩)
  rw [Exit.noGoto_ret]
  go_ret2
  exact ⟨by first | rfl | (simp; done) | (simp [*]; done), hb⟩

set_option maxHeartbeats 400000 in
set_option maxRecDepth 100000 in
theorem twoelse (a b : Int) (op : Int) (h : op < 6 ∨ 21 < op) (w : World) : Calls Try.prog 16 #[.int .i64 op, .int .i64 a, .int .i64 b] w fun e w' =>
    e = .returned (.tuple #[.int .i64 (0), .int .i64 42]) ∧ Drawn0 w w' := by
  have h6 : (op == 6) = false := by simp; omega
  have h7 : (op == 7) = false := by simp; omega
  have h8 : (op == 8) = false := by simp; omega
  have h9 : (op == 9) = false := by simp; omega
  have h10 : (op == 10) = false := by simp; omega
  have h11 : (op == 11) = false := by simp; omega
  have h12 : (op == 12) = false := by simp; omega
  have h13 : (op == 13) = false := by simp; omega
  have h14 : (op == 14) = false := by simp; omega
  have h15 : (op == 15) = false := by simp; omega
  have h16 : (op == 16) = false := by simp; omega
  have h17 : (op == 17) = false := by simp; omega
  have h18 : (op == 18) = false := by simp; omega
  have h19 : (op == 19) = false := by simp; omega
  have h20 : (op == 20) = false := by simp; omega
  have h21 : (op == 21) = false := by simp; omega
  clear h
  go_enter Try.func16, Try.ntmps16
  go_wp2
  refine wp_scope_fwd 1 rfl ?_
  go_wp2
  go_step3
  refine ⟨rfl, ?_⟩
  go_wp2
  try rw [Exit.noGoto_ret]
  go_ret2
  exact ⟨by first | rfl | (simp; done) | (simp [*]; done), by repeat (first | exact Drawn0.refl _ | apply Drawn0.step)⟩

theorem two_all (op a b v e : Int) (h : twov op a b = (v, e)) (w : World) : Calls Try.prog 16 #[.int .i64 op, .int .i64 a, .int .i64 b] w fun e' w' =>
    e' = .returned (.tuple #[.int .i64 v, .int .i64 e]) ∧ Below w.heap.size w w' := by
  have l0 := wrap32_lo a
  have u0 := wrap32_hi a
  by_cases h6 : op = 6
  · subst h6
    simp [twov] at h
    obtain ⟨rfl, rfl⟩ := h
    refine (two6 a b w).mono ?_
    rintro e' w' ⟨rfl, hd⟩
    exact ⟨by rw [wrap64_32], hd.below⟩
  by_cases h9 : op = 9
  · subst h9
    simp [twov] at h
    obtain ⟨rfl, rfl⟩ := h
    refine (two9 a b w).mono ?_
    rintro e' w' ⟨rfl, hd⟩
    exact ⟨by rw [wrap64_32], hd.below⟩
  by_cases h10 : op = 10
  · subst h10
    simp [twov] at h
    obtain ⟨rfl, rfl⟩ := h
    refine (two10 a b w).mono ?_
    rintro e' w' ⟨rfl, hd⟩
    exact ⟨by rw [wrap64_32], hd.below⟩
  by_cases h7 : op = 7
  · subst h7
    simp [twov] at h
    by_cases hz : wrap32 b = 0
    · simp [hz] at h
      obtain ⟨rfl, rfl⟩ := h
      refine (two7z a b hz w).mono ?_
      rintro e' w' ⟨rfl, hd⟩
      exact ⟨rfl, hd.below⟩
    · simp [hz] at h
      obtain ⟨rfl, rfl⟩ := h
      refine (two7 a b hz w).mono ?_
      rintro e' w' ⟨rfl, hd⟩
      exact ⟨by rw [wrap64_32], hd.below⟩
  by_cases h8 : op = 8
  · subst h8
    simp [twov] at h
    by_cases hz : wrap32 b = 0
    · simp [hz] at h
      obtain ⟨rfl, rfl⟩ := h
      refine (two8z a b hz w).mono ?_
      rintro e' w' ⟨rfl, hd⟩
      exact ⟨rfl, hd.below⟩
    · simp [hz] at h
      obtain ⟨rfl, rfl⟩ := h
      refine (two8 a b hz w).mono ?_
      rintro e' w' ⟨rfl, hd⟩
      exact ⟨by rw [mod_form _ _ l0 u0, wrap64_id (by have := tmod_i32 (wrap32 a) (wrap32 b) l0 u0; omega) (by have := tmod_i32 (wrap32 a) (wrap32 b) l0 u0; omega)], hd.below⟩
  by_cases h11 : op = 11
  · subst h11
    simp [twov] at h
    obtain ⟨rfl, rfl⟩ := h
    refine (two11 a b w).mono ?_
    rintro e' w' ⟨rfl, hd⟩
    exact ⟨by rw [wrap64_id (shv_lo _ _ (by omega)) (shv_hi _ _ (by omega))], hd⟩
  by_cases h12 : op = 12
  · subst h12
    simp [twov] at h
    obtain ⟨rfl, rfl⟩ := h
    refine (two12 a b w).mono ?_
    rintro e' w' ⟨rfl, hd⟩
    exact ⟨by rw [wrap64_id (shv_lo _ _ (by omega)) (shv_hi _ _ (by omega))], hd⟩
  by_cases h13 : op = 13
  · subst h13
    by_cases hc : wrap32 a < wrap32 b
    · simp [twov, hc] at h
      obtain ⟨rfl, rfl⟩ := h
      refine (two13t a b hc w).mono ?_
      rintro e' w' ⟨rfl, hd⟩
      exact ⟨rfl, hd.below⟩
    · have hc' : ¬ (wrap32 a < wrap32 b) := hc
      unfold twov at h
      simp only [if_neg hc'] at h
      simp at h
      obtain ⟨rfl, rfl⟩ := h
      refine (two13f a b hc w).mono ?_
      rintro e' w' ⟨rfl, hd⟩
      exact ⟨rfl, hd.below⟩
  by_cases h14 : op = 14
  · subst h14
    by_cases hc : wrap32 a ≤ wrap32 b
    · simp [twov, hc] at h
      obtain ⟨rfl, rfl⟩ := h
      refine (two14t a b hc w).mono ?_
      rintro e' w' ⟨rfl, hd⟩
      exact ⟨rfl, hd.below⟩
    · have hc' : ¬ (wrap32 a ≤ wrap32 b) := hc
      unfold twov at h
      simp only [if_neg hc'] at h
      simp at h
      obtain ⟨rfl, rfl⟩ := h
      refine (two14f a b hc w).mono ?_
      rintro e' w' ⟨rfl, hd⟩
      exact ⟨rfl, hd.below⟩
  by_cases h15 : op = 15
  · subst h15
    by_cases hc : wrap32 b < wrap32 a
    · simp [twov, hc] at h
      obtain ⟨rfl, rfl⟩ := h
      refine (two15t a b hc w).mono ?_
      rintro e' w' ⟨rfl, hd⟩
      exact ⟨rfl, hd.below⟩
    · have hc' : ¬ (wrap32 b < wrap32 a) := hc
      unfold twov at h
      simp only [if_neg hc'] at h
      simp at h
      obtain ⟨rfl, rfl⟩ := h
      refine (two15f a b hc w).mono ?_
      rintro e' w' ⟨rfl, hd⟩
      exact ⟨rfl, hd.below⟩
  by_cases h16 : op = 16
  · subst h16
    by_cases hc : wrap32 b ≤ wrap32 a
    · simp [twov, hc] at h
      obtain ⟨rfl, rfl⟩ := h
      refine (two16t a b hc w).mono ?_
      rintro e' w' ⟨rfl, hd⟩
      exact ⟨rfl, hd.below⟩
    · have hc' : ¬ (wrap32 b ≤ wrap32 a) := hc
      unfold twov at h
      simp only [if_neg hc'] at h
      simp at h
      obtain ⟨rfl, rfl⟩ := h
      refine (two16f a b hc w).mono ?_
      rintro e' w' ⟨rfl, hd⟩
      exact ⟨rfl, hd.below⟩
  by_cases h17 : op = 17
  · subst h17
    by_cases hc : wrap32 a = wrap32 b
    · simp [twov, hc] at h
      obtain ⟨rfl, rfl⟩ := h
      refine (two17t a b hc w).mono ?_
      rintro e' w' ⟨rfl, hd⟩
      exact ⟨rfl, hd.below⟩
    · have hc' : ¬ (wrap32 a = wrap32 b) := hc
      unfold twov at h
      simp only [if_neg hc'] at h
      simp at h
      obtain ⟨rfl, rfl⟩ := h
      refine (two17f a b hc w).mono ?_
      rintro e' w' ⟨rfl, hd⟩
      exact ⟨rfl, hd.below⟩
  by_cases h18 : op = 18
  · subst h18
    by_cases hc : wrap32 a = wrap32 b
    · simp [twov, hc] at h
      obtain ⟨rfl, rfl⟩ := h
      refine (two18t a b hc w).mono ?_
      rintro e' w' ⟨rfl, hd⟩
      exact ⟨rfl, hd.below⟩
    · have hc' : ¬ (wrap32 a = wrap32 b) := hc
      unfold twov at h
      simp only [if_neg hc'] at h
      simp at h
      obtain ⟨rfl, rfl⟩ := h
      refine (two18f a b hc w).mono ?_
      rintro e' w' ⟨rfl, hd⟩
      exact ⟨rfl, hd.below⟩
  by_cases h19 : op = 19
  · subst h19
    simp [twov] at h
    obtain ⟨rfl, rfl⟩ := h
    refine (two19 a b w).mono ?_
    rintro e' w' ⟨rfl, hd⟩
    exact ⟨by rw [bits_i32 _ _ _ (by simp)], hd.below⟩
  by_cases h20 : op = 20
  · subst h20
    simp [twov] at h
    obtain ⟨rfl, rfl⟩ := h
    refine (two20 a b w).mono ?_
    rintro e' w' ⟨rfl, hd⟩
    exact ⟨by rw [bits_i32 _ _ _ (by simp)], hd.below⟩
  by_cases h21 : op = 21
  · subst h21
    simp [twov] at h
    obtain ⟨rfl, rfl⟩ := h
    refine (two21 a b w).mono ?_
    rintro e' w' ⟨rfl, hd⟩
    exact ⟨by rw [bits_i32 _ _ _ (by simp)], hd.below⟩
  simp [twov, *] at h
  obtain ⟨rfl, rfl⟩ := h
  refine (twoelse a b op (by omega) w).mono ?_
  rintro e' w' ⟨rfl, hd⟩
  exact ⟨rfl, hd.below⟩

end Go.Proofs.Ytgcjbkdogloojaa.Tw
