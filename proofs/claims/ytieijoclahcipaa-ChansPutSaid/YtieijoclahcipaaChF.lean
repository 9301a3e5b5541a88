/- Where a message stands in a sorted queue: the walks of slices.IndexFunc and of the function that it is given. Condition: none but that all lies in memory. -/
import Derived.Test.YtieijoclahcipaaChE
set_option linter.unusedSimpArgs false
set_option linter.unusedVariables false
namespace Go.Proofs.Ytieijoclahcipaa.Ch
open Go.RowKit Go.Proofs.YtieijoclahcipaaW.PrintWords Go.Proofs.YtieijoclahcipaaW.PrintLast Go.Proofs.YtieijoclahcipaaW.PrintMore Go.Proofs.Ytieijoclahcipaa.PChansPut

/-- Where a message stands: ahead of the first one that it is ahead of. -/
def spot (x : List Int) (q : List (List Int)) : Nat := q.findIdx (lessL x)

set_option maxHeartbeats 800000 in
theorem less_func (w : World) (bx : Nat) (Ax Ay : Option Addr) (cx cy : Nat) (x y : List Int) (hx : w.cell? ⟨bx, 0, none⟩ = some (.slice Ax x.length cx)) (hX : kd1.C w Ax x.length x) (hY : kd1.C w Ay y.length y) :
    Calls Try.prog 23 #[.slice Ay y.length cy, .pointer (some ⟨bx, 0, none⟩)] w fun e w' => e = .returned (.bool (lessL x y)) ∧ Drawn0 w w' := by
  have HX := Aside0.mk hX
  have HY := Aside0.mk hY
  clear hX hY
  go_enter Try.func23, Try.ntmps23
  go_wp2_with (go_at_call 12; refine (less_walk _ _ _ _ _ _ _ HX.out HY.out).mono ?_; rintro e w1 ⟨rfl, ⟨nd, rfl⟩⟩)
  go_ret
  exact ⟨rfl, ⟨nd, rfl⟩⟩

set_option maxHeartbeats 1600000 in
set_option maxRecDepth 100000 in
theorem index_walk (w : World) (bx : Nat) (Ax A : Option Addr) (cx c : Nat) (x : List Int) (q : List (List Int)) (hx : w.cell? ⟨bx, 0, none⟩ = some (.slice Ax x.length cx)) (hX : kd1.C w Ax x.length x) (hq : kd2.C w A q.length q) :
    Calls Try.prog 22 #[.slice A q.length c, .func (.func 23) #[] #[.pointer (some ⟨bx, 0, none⟩)]] w fun e w' => e = .returned (.int .i64 (if spot x q < q.length then (spot x q : Int) else -1)) ∧ Drawn0 w w' := by
  have hmq := Kd.C_max hq
  have H := Aside0.mk hq
  have HX := Aside0.mk (And.intro hx hX)
  clear hx hX hq
  obtain ⟨r, hr⟩ : ∃ r, r = (if spot x q < q.length then (spot x q : Int) else -1) := ⟨_, rfl⟩
  rw [← hr]
  have HR := Aside0.mk hr
  clear hr
  go_enter Try.func22, Try.ntmps22
  go_wp2
  go_loopg [5, 8] q.length (fun gg _ s8 wr => ∃ kk nd : Nat, kk ≤ q.length ∧ q.length - kk ≤ gg ∧ s8 = .int .i64 kk ∧ wr = w.drewN nd ∧ Aside0 (∀ (j : Nat) (h : j < q.length), j < kk → lessL x q[j] = false))
  case atStart => exact ⟨0, 0, Nat.zero_le _, by omega, rfl, rfl, ⟨fun j _ hj => absurd hj (Nat.not_lt_zero _)⟩⟩
  case round =>
    obtain ⟨kk, nd, hkk, hg, rfl, rfl, HP⟩ := hrel
    by_cases hlt : kk < q.length
    · obtain ⟨ad, B, mc, rfl, hcell, hmc, hC⟩ := queue_cell H.out kk hlt
      have HC := Aside0.mk hC
      have d0 : ((kk : Int) < (q.length : Int)) = True := eq_true (by omega)
      have HL : Aside0 (∀ nd', Calls Try.prog 23 #[.slice B q[kk].length mc, .pointer (some ⟨bx, 0, none⟩)] (w.drewN nd') fun e w' => e = .returned (.bool (lessL x q[kk])) ∧ Drawn0 (w.drewN nd') w') := ⟨fun nd' => less_func _ bx Ax B cx mc x _ HX.out.1 (Kd.C_drewN HX.out.2 nd') (Kd.C_drewN HC.out nd')⟩
      have HT := Aside0.mk (show ∀ b, lessL x q[kk] = b → lessL x q[kk] = b from fun _ h => h)
      clear hC HC
      obtain ⟨b, hb⟩ : ∃ b, lessL x q[kk] = b := ⟨_, rfl⟩
      have HE := Aside0.mk hb
      rw [hb] at HL
      clear hb HT
      generalize q[kk].length = ml at hcell hmc HL
      cases b with
      | true =>
        go_wp2_with (go_at_call 23; refine (HL.out _).mono ?_; rintro e w' ⟨rfl, ⟨nd', rfl⟩⟩)
        go_ret
        have hs : spot x q = kk := by
          unfold spot
          rw [List.findIdx_eq hlt]
          exact ⟨HE.out, fun j hj => HP.out j (by omega) hj⟩
        rw [HR.out, hs, if_pos hlt]
        exact ⟨rfl, by repeat (first | exact Drawn0.refl _ | apply Drawn0.step)⟩
      | false =>
        go_wp2_with (go_at_call 23; refine (HL.out _).mono ?_; rintro e w' ⟨rfl, ⟨nd', rfl⟩⟩)
        go_roundg (q.length - (kk + 1))
        case measure => omega
        case rel =>
          refine ⟨kk + 1, _, by omega, by omega, by go_num, rfl, ⟨fun j h hj => ?_⟩⟩
          by_cases e : j = kk
          · subst e
            exact HE.out
          · exact HP.out j h (by omega)
    · have d0 : ((kk : Int) < (q.length : Int)) = False := eq_false (by omega)
      go_wp2
      go_ret
      have hs : ¬ spot x q < q.length := by
        unfold spot
        rw [List.findIdx_lt_length]
        rintro ⟨y, hy, h⟩
        obtain ⟨j, hj, rfl⟩ := List.mem_iff_getElem.1 hy
        rw [HP.out j hj (by omega)] at h
        cases h
      rw [HR.out, if_neg hs]
      exact ⟨rfl, by repeat (first | exact Drawn0.refl _ | apply Drawn0.step)⟩
end Go.Proofs.Ytieijoclahcipaa.Ch
