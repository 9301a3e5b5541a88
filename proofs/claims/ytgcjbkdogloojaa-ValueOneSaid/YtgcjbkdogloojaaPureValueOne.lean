/- The numbers behind the statement ValueOne: what is reckoned with one number is what the chapter says. No condition. -/
import Derived.Test.YtgcjbkdogloojaaPValueOnex1
import Derived.Test.YtgcjbkdogloojaaVm
namespace Go.Proofs.Ytgcjbkdogloojaa.Pure
open Go.RowKit Go.Proofs.Ytgcjbkdogloojaa.PValueOne Go.Proofs.YtgcjbkdogloojaaW.PrintWords Go.Proofs.YtgcjbkdogloojaaW.PrintLast Go.Proofs.YtgcjbkdogloojaaW.PrintMore Go.Proofs.Ytgcjbkdogloojaa.Vm

theorem right_tells (b : Int) (s : Bool) : spinneretref05_Right.f b s = some (decide (1 ≤ b ∧ b ≤ 32)) := by
  unfold spinneretref05_Right.f
  by_cases h : 1 ≤ b
  · rw [if_pos (show b ≥ 1 from h)]; simp [h]
  · rw [if_neg (show ¬ b ≥ 1 from h)]; simp [h]

theorem ref_fit (b : Int) (s : Bool) (v : Int) :
    spinneretref05_Fit.f b s v = some (fitv b s v) := by
  unfold spinneretref05_Fit.f
  rw [right_tells]
  simp only [Option.bind_some]
  by_cases h : 1 ≤ b ∧ b ≤ 32
  · have hb : IntKind.u64.wrap b = b := by simp [IntKind.wrap, IntKind.bits, IntKind.signed]; omega
    obtain ⟨n, rfl⟩ := Int.eq_ofNat_of_zero_le (show 0 ≤ b by omega)
    rw [if_pos (decide_eq_true h), hb, if_pos (by omega), shl_one (by omega)]
    have h1 := pow_pos' n
    have h2 := pow_le_32 (n := n) (by omega)
    have hf : fitv (n : Int) s v = if s = true ∧ 2 ^ n / 2 ≤ v % 2 ^ n then v % 2 ^ n - 2 ^ n else v % 2 ^ n := by
      unfold fitv; rw [if_pos h]; rfl
    rw [hf]
    have h3 := tmod_fix v _ h1
    have h4 := tmod_lo v _ h1
    have h5 := Int.emod_nonneg v (show (2 : Int) ^ n ≠ 0 by omega)
    have h6 := Int.emod_lt_of_pos v h1
    generalize (2 : Int) ^ n = m at *
    have h7 : Int.tdiv m 2 = m / 2 := Int.tdiv_eq_ediv_of_nonneg (by omega)
    generalize Int.tmod v m = t at *
    generalize v % m = e at *
    rw [if_neg (by omega), h7, wrap64_id (x := m / 2) (by omega) (by omega)]
    by_cases ht : t < 0
    · rw [if_pos ht] at h3
      rw [if_pos ht, wrap64_id (x := t + m) (by omega) (by omega), h3, wrap64_id (x := e - m) (by omega) (by omega)]
      cases s <;> simp
      split <;> rfl
    · rw [if_neg ht] at h3
      rw [if_neg ht, h3, wrap64_id (x := e - m) (by omega) (by omega)]
      cases s <;> simp
      split <;> rfl
  · rw [if_neg (by simpa using h)]
    unfold fitv
    rw [if_neg h]

theorem ref_int (v : Int) : spinneretref05_Int.f v = some (wrap32 v) := by
  unfold spinneretref05_Int.f
  rw [ref_fit 32 true v, fitv_int]
  rfl

theorem ref_one (b : Bool) : spinneretref05_one.f b = some (if b = true then 1 else 0) := by unfold spinneretref05_one.f; split <;> rfl
theorem truth_tells (b : Bool) : value_truth.f b = some (if b = true then 1 else 0) := by unfold value_truth.f; split <;> rfl

theorem ValueOne : spinneretlaw05_ValueOne.Pure := by
  intro a0 a1 _ _
  have w0 := wrap32_lo a1
  have w1 := wrap32_hi a1
  have hn : wrap64 (-(wrap32 a1)) = -(wrap32 a1) := wrap64_id (by omega) (by omega)
  unfold spinneretlaw05_ValueOne.f value_One.f spinneretref05_One.f
  rw [ref_int a1]
  simp only [Option.bind_some, hn]
  rw [ref_int (-(wrap32 a1)), xor_ones _ w0 w1, wrap64_32, truth_tells, ref_one]
  simp only [Option.bind_some]
  by_cases h3 : a0 = 3
  · simp [h3]
  · by_cases h4 : a0 = 4
    · simp [h4]
    · by_cases h5 : a0 = 5
      · simp [h5]
      · simp [h3, h4, h5]

end Go.Proofs.Ytgcjbkdogloojaa.Pure
