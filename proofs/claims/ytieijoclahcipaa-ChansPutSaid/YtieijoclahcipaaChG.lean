/- What becomes of a number in a variable of a type: what the code says and what the chapter says is one. No condition. -/
import Derived.Test.YtieijoclahcipaaCx4
import Derived.Test.YtieijoclahcipaaPChansPutx1
import Derived.Test.YtieijoclahcipaaVm
namespace Go.Proofs.Ytieijoclahcipaa.Ch
open Go.RowKit Go.Proofs.Ytieijoclahcipaa.PChansPut Go.Proofs.YtieijoclahcipaaW.PrintWords Go.Proofs.YtieijoclahcipaaW.PrintLast Go.Proofs.YtieijoclahcipaaW.PrintMore Go.Proofs.Ytieijoclahcipaa.Vm

theorem right_tells (b : Int) (s : Bool) : spinneretref05_Right.f b s = some (decide (1 ≤ b ∧ b ≤ 32)) := by
  unfold spinneretref05_Right.f
  by_cases h : 1 ≤ b
  · rw [if_pos (show b ≥ 1 from h)]; simp [h]
  · rw [if_neg (show ¬ b ≥ 1 from h)]; simp [h]

theorem ref_fit (b : Int) (s : Bool) (v : Int) :
    spinneretref05_Fit.f b s v = some (fitv b s v) := by
  unfold spinneretref05_Fit.f
  rw [right_tells]
  simp only [Option.bind_some]
  by_cases h : 1 ≤ b ∧ b ≤ 32
  · have hb : IntKind.u64.wrap b = b := by simp [IntKind.wrap, IntKind.bits, IntKind.signed]; omega
    obtain ⟨n, rfl⟩ := Int.eq_ofNat_of_zero_le (show 0 ≤ b by omega)
    rw [if_pos (decide_eq_true h), hb, if_pos (by omega), shl_one (by omega)]
    have h1 := pow_pos' n
    have h2 := pow_le_32 (n := n) (by omega)
    have hf : fitv (n : Int) s v = if s = true ∧ 2 ^ n / 2 ≤ v % 2 ^ n then v % 2 ^ n - 2 ^ n else v % 2 ^ n := by
      unfold fitv; rw [if_pos h]; rfl
    rw [hf]
    have h3 := tmod_fix v _ h1
    have h4 := tmod_lo v _ h1
    have h5 := Int.emod_nonneg v (show (2 : Int) ^ n ≠ 0 by omega)
    have h6 := Int.emod_lt_of_pos v h1
    generalize (2 : Int) ^ n = m at *
    have h7 : Int.tdiv m 2 = m / 2 := Int.tdiv_eq_ediv_of_nonneg (by omega)
    generalize Int.tmod v m = t at *
    generalize v % m = e at *
    rw [if_neg (by omega), h7, wrap64_id (x := m / 2) (by omega) (by omega)]
    by_cases ht : t < 0
    · rw [if_pos ht] at h3
      rw [if_pos ht, wrap64_id (x := t + m) (by omega) (by omega), h3, wrap64_id (x := e - m) (by omega) (by omega)]
      cases s <;> simp
      split <;> rfl
    · rw [if_neg ht] at h3
      rw [if_neg ht, h3, wrap64_id (x := e - m) (by omega) (by omega)]
      cases s <;> simp
      split <;> rfl
  · rw [if_neg (by simpa using h)]
    unfold fitv
    rw [if_neg h]

theorem fit_tells (k : Nat) (b : Int) (s : Bool) (v : Int) : value_Fit.f (k + 1) b s v = some (fitv b s v) := by
  unfold value_Fit.f
  by_cases h1 : b < 1
  · rw [if_pos h1]
    simp only [value_Fit.j0]
    unfold fitv
    rw [if_pos trivial, if_neg (by omega)]
  · rw [if_neg h1]
    simp only [value_Fit.j0]
    by_cases h2 : b > 32
    · unfold fitv
      rw [if_pos (decide_eq_true h2), if_neg (by omega)]
    · obtain ⟨n, rfl⟩ := Int.eq_ofNat_of_zero_le (show 0 ≤ b by omega)
      rw [if_neg (by simpa using h2)]
      have e : wrap64 (64 - (n : Int)) = ((64 - n : Nat) : Int) := by rw [wrap64_id (by omega) (by omega)]; omega
      cases s
      · have p1 := pow_pos' n
        have p2 := pow_le_32 (n := n) (by omega)
        rw [if_neg (by simp), if_pos (by omega), shl_one (by omega), wrap64_id (by omega) (by omega), and_mask (by omega)]
        unfold fitv
        rw [if_pos (by omega), if_neg (by simp)]
        rfl
      · rw [if_pos rfl, e, if_pos (by omega), shl_shr (by omega) (by omega)]


/-- May a type be? -/
def typeL (b : Int) (s : Bool) : Bool := decide (1 ≤ b ∧ b ≤ 32 ∧ (s = true → b = 16 ∨ b = 32))
theorem type_tells (b : Int) (s : Bool) : good_Type.f b s = some (typeL b s) := by
  unfold good_Type.f typeL
  repeat' split
  all_goals simp_all
  all_goals first | omega | (rcases Decidable.em (b = 32) with h | h <;> simp [h] <;> omega) | skip
theorem ref_type (b : Int) (s : Bool) : spinneretref11_Type.f b s = some (typeL b s) := by
  have h : spinneretref11_Type.f b s = good_Type.f b s := rfl
  rw [h, type_tells]
end Go.Proofs.Ytieijoclahcipaa.Ch
