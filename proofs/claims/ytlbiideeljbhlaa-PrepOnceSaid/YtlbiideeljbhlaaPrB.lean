/- How the end of a row is found. Condition: a row within the form's reach. -/
import Derived.Test.YtlbiideeljbhlaaPrA
set_option linter.unusedSimpArgs false
set_option linter.unusedVariables false
namespace Go.Proofs.Ytlbiideeljbhlaa.Pr
open Go.RowKit Go.Proofs.YtlbiideeljbhlaaW.PrintWords Go.Proofs.YtlbiideeljbhlaaW.PrintLast Go.Proofs.YtlbiideeljbhlaaW.PrintMore Go.Proofs.Ytlbiideeljbhlaa.PPrepSkips

set_option maxHeartbeats 1000000 in
set_option maxRecDepth 100000 in
theorem index_walk (W : World) (A : Option Addr) (n c : Nat) (l : List S26) (hA : k26.C W A l.length l) (hn : n = l.length) (hb : n ≤ 9223372036854775806) (h0 : ∀ i (hi : i < l.length), i + 1 < n → l[i].f0 ≠ 0) (h1 : ∀ (hi : n - 1 < l.length), l[n - 1].f0 = 0) (hp : 0 < n) :
    Calls Try.prog 25 #[.slice A n c, .func (.func 26) #[] #[]] W fun e w' => e = .returned (.int .i64 ((n - 1 : Nat) : Int)) ∧ Below W.heap.size W w' := by
  obtain ⟨pb, po, HP⟩ := tok_cells hA
  have HP := Aside0.mk HP
  have H0 := Aside0.mk h0
  have H1 := Aside0.mk h1
  have HN := Aside0.mk hn
  clear hA h0 h1 hn
  go_enter Try.func25, Try.ntmps25
  go_wp2
  go_loopg [8] n (fun gg s8 wz => ∃ i : Nat, i + 1 ≤ n ∧ n - i ≤ gg ∧ s8 = .int .i64 i ∧ Aside0 (Below W.heap.size W wz))
  case atStart => exact ⟨0, by omega, Nat.le_of_eq (Nat.sub_zero _), rfl, ⟨Below.refl _ _⟩⟩
  case round =>
    obtain ⟨i, hi, hg, rfl, HW⟩ := hrel
    have d0 : ((i : Int) < (n : Int)) = True := eq_true (by omega)
    have hil : i < l.length := by have := HN.out; omega
    obtain ⟨rfl, q0, q1, q2, q3, q4⟩ := HP.out i hil
    have h0 := H0.out i hil
    have HH1 := Aside0.mk (fun (e : i = n - 1) => (by subst e; exact H1.out hil : l[i].f0 = 0))
    have p0 := pw_cell_below HW.out q0
    have p1 := pw_cell_below HW.out q1
    have p2 := pw_cell_below HW.out q2
    have p3 := pw_cell_below HW.out q3
    have p4 := pw_cell_below HW.out q4
    have HE := Aside0.mk (isend_walk l[i] wr)
    generalize l[i] = x at p0 p1 p2 p3 p4 h0 HH1 HE
    clear q0 q1 q2 q3 q4 hil
    by_cases hlast : i + 1 = n
    · have hx : decide (x.f0 = 0) = true := by rw [HH1.out (by omega)]; rfl
      rw [hx] at HE
      clear h0
      go_wp2_with (go_at_call 26; refine HE.out.mono ?_; rintro e w1 ⟨rfl, hB⟩; have HB := Aside0.mk hB; clear hB)
      go_ret
      exact ⟨by rw [show n - 1 = i by omega]; rfl, below_then HW.out HW.out.size HB.out⟩
    · have hx : decide (x.f0 = 0) = false := decide_eq_false (h0 (by omega))
      rw [hx] at HE
      clear h0
      go_wp2_with (go_at_call 26; refine HE.out.mono ?_; rintro e w1 ⟨rfl, hB⟩; have HB := Aside0.mk hB; clear hB)
      go_roundg (n - (i + 1))
      case measure => omega
      case rel => exact ⟨i + 1, by omega, by omega, by go_num, ⟨below_then HW.out HW.out.size HB.out⟩⟩
end Go.Proofs.Ytlbiideeljbhlaa.Pr
