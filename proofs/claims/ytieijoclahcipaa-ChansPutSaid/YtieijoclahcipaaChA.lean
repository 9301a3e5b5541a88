/- Which of two messages stands ahead: the walk. Condition: none but that the messages lie in memory. -/
import Derived.Test.YtieijoclahcipaaCx4
import Derived.Test.YtieijoclahcipaaPChansPutx1
import Derived.Outline
import Derived.BigQuiet
import Derived.Deep.LoopGhost
import Derived.WalkMore
namespace Go.Proofs.Ytieijoclahcipaa.Ch
open Go.RowKit Go.Proofs.YtieijoclahcipaaW.PrintWords Go.Proofs.YtieijoclahcipaaW.PrintLast Go.Proofs.YtieijoclahcipaaW.PrintMore Go.Proofs.Ytieijoclahcipaa.PChansPut

/-- A message, as it is read. -/
abbrev kd1 : Kd Int := Kd.int .i64
/-- A queue of messages, as it is read. -/
abbrev kd2 : Kd (List Int) := Kd.slice 2 (Kd.int .i64)

/-- Which message stands ahead, by its numbers. -/
def lessL : List Int → List Int → Bool
  | x :: a, y :: b => if x = y then lessL a b else decide (x < y)
  | a, b => decide (a.length < b.length)

theorem lessL_drop (n : Nat) : ∀ (a b : List Int), n ≤ a.length → n ≤ b.length → (∀ j, j < n → a[j]? = b[j]?) → lessL a b = lessL (a.drop n) (b.drop n) := by
  induction n with
  | zero => intro a b _ _ _; rfl
  | succ n ih =>
    intro a b ha hb h
    cases a with
    | nil => simp at ha
    | cons x a =>
      cases b with
      | nil => simp at hb
      | cons y b =>
        have h0 := h 0 (by omega)
        simp at h0
        subst h0
        simp only [lessL, if_true, List.drop_succ_cons]
        exact ih a b (by simpa using ha) (by simpa using hb) (fun j hj => by simpa using h (j + 1) (by omega))

theorem lessL_end (n : Nat) (a b : List Int) (ha : n ≤ a.length) (hb : n ≤ b.length) (h : ∀ j, j < n → a[j]? = b[j]?) (he : ¬ (n < a.length ∧ n < b.length)) : lessL a b = decide (a.length < b.length) := by
  rw [lessL_drop n a b ha hb h]
  by_cases h1 : n < a.length
  · have h2 : n = b.length := by omega
    subst h2
    rw [List.drop_length, List.drop_eq_getElem_cons h1]
    simp only [lessL]
    simp
    omega
  · have h2 : n = a.length := by omega
    subst h2
    rw [List.drop_length]
    simp only [lessL, List.length_nil, List.length_drop]
    simp
    omega

theorem lessL_differ (n : Nat) (a b : List Int) (ha : n < a.length) (hb : n < b.length) (h : ∀ j, j < n → a[j]? = b[j]?) (he : a[n] ≠ b[n]) : lessL a b = decide (a[n] < b[n]) := by
  rw [lessL_drop n a b (by omega) (by omega) h, List.drop_eq_getElem_cons ha, List.drop_eq_getElem_cons hb]
  simp only [lessL, if_neg he]

theorem cell_of_row {w : World} {A : Option Addr} {n : Nat} {l : List Int} (h : kd1.C w A n l) (i : Nat) (hi : i < l.length) : ∃ ad, A = some ad ∧ w.cell? (ad.add i) = some (.int .i64 l[i]) := by
  obtain ⟨hl, _, hr⟩ := h
  obtain ⟨ad, rfl, hc⟩ := hr (by omega)
  obtain ⟨c, _, hk, hcc⟩ := hc i _ (List.getElem?_eq_getElem hi)
  have hk' : c = [.int .i64 l[i]] := hk
  subst hk'
  have h1 := hcc 0 _ rfl
  exact ⟨ad, rfl, by simpa [Kd.int, Kd.scalar] using h1⟩

set_option maxHeartbeats 800000 in
set_option maxRecDepth 100000 in
theorem less_walk (w : World) (A0 A1 : Option Addr) (c0 c1 : Nat) (a b : List Int) (h0 : kd1.C w A0 a.length a) (h1 : kd1.C w A1 b.length b) :
    Calls Try.prog 12 #[.slice A0 a.length c0, .slice A1 b.length c1] w fun e w' => e = .returned (.bool (lessL a b)) ∧ Drawn0 w w' := by
  have hm0 := Kd.C_max h0
  have hm1 := Kd.C_max h1
  have H0 := Aside0.mk h0
  have H1 := Aside0.mk h1
  clear h0 h1
  go_enter Try.func12, Try.ntmps12
  go_wp2
  go_step3
  go_wp2
  go_step3
  go_wp2
  go_loopg [5] a.length (fun gg s5 wr => ∃ kk nd : Nat, kk ≤ a.length ∧ kk ≤ b.length ∧ a.length - kk ≤ gg ∧ s5 = .int .i64 kk ∧ wr = w.drewN nd ∧ Aside0 (∀ j, j < kk → a[j]? = b[j]?))
  case atStart => exact ⟨0, 0, Nat.zero_le _, Nat.zero_le _, by omega, rfl, rfl, ⟨fun j hj => absurd hj (Nat.not_lt_zero _)⟩⟩
  case round =>
    obtain ⟨kk, nd, hk0, hk1, hg, rfl, rfl, HP⟩ := hrel
    by_cases hl0 : kk < a.length
    · by_cases hl1 : kk < b.length
      · obtain ⟨ad0, rfl, hx0⟩ := cell_of_row H0.out kk hl0
        obtain ⟨ad1, rfl, hx1⟩ := cell_of_row H1.out kk hl1
        by_cases he : a[kk] = b[kk]
        · have d0 : ((kk : Int) < (a.length : Int)) = True := eq_true (by omega)
          have d1 : ((kk : Int) < (b.length : Int)) = True := eq_true (by omega)
          rw [he] at hx0
          go_wp2
          go_quiet (fail)
          go_wp2
          go_roundg (a.length - (kk + 1))
          case measure => omega
          case rel =>
            refine ⟨kk + 1, _, by omega, by omega, by omega, by go_num, rfl, ⟨fun j hj => ?_⟩⟩
            by_cases e : j = kk
            · subst e
              rw [List.getElem?_eq_getElem hl0, List.getElem?_eq_getElem hl1, he]
            · exact HP.out j (by omega)
        · have d0 : ((kk : Int) < (a.length : Int)) = True := eq_true (by omega)
          have d1 : ((kk : Int) < (b.length : Int)) = True := eq_true (by omega)
          have dn : (a[kk] != b[kk]) = true := by simpa using he
          have E := Aside0.mk (lessL_differ kk a b hl0 hl1 HP.out he)
          generalize hx : a[kk] = x at hx0 dn E
          generalize hy : b[kk] = y at hx1 dn E
          clear he hx hy
          go_wp2
          go_quiet (fail)
          go_wp2
          go_quiet (fail)
          go_wp2
          rw [Exit.noGoto_ret]
          go_ret
          rw [E.out]
          exact ⟨rfl, by repeat (first | exact Drawn0.refl _ | apply Drawn0.step)⟩
      · have d0 : ((kk : Int) < (a.length : Int)) = True := eq_true (by omega)
        have d1 : ((kk : Int) < (b.length : Int)) = False := eq_false (by omega)
        have E := Aside0.mk (lessL_end kk a b hk0 hk1 HP.out (by omega))
        go_wp2
        rw [Exit.noGoto_ret]
        go_ret
        rw [E.out]
        exact ⟨by simp, by repeat (first | exact Drawn0.refl _ | apply Drawn0.step)⟩
    · have d0 : ((kk : Int) < (a.length : Int)) = False := eq_false (by omega)
      have E := Aside0.mk (lessL_end kk a b hk0 hk1 HP.out (by omega))
      go_wp2
      rw [Exit.noGoto_ret]
      go_ret
      rw [E.out]
      exact ⟨by simp, by repeat (first | exact Drawn0.refl _ | apply Drawn0.step)⟩
end Go.Proofs.Ytieijoclahcipaa.Ch
