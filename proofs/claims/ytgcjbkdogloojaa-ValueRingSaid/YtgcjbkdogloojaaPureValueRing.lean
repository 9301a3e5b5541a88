/- The numbers behind the statement ValueRing: each call of the ring's laws, told as a number. No condition. -/
import Derived.Test.YtgcjbkdogloojaaPValueRingx1
import Derived.Test.YtgcjbkdogloojaaVm2
namespace Go.Proofs.Ytgcjbkdogloojaa.PureValueRing
open Go.RowKit Go.Proofs.Ytgcjbkdogloojaa.PValueRing Go.Proofs.YtgcjbkdogloojaaW.PrintWords Go.Proofs.YtgcjbkdogloojaaW.PrintLast Go.Proofs.YtgcjbkdogloojaaW.PrintMore Go.Proofs.Ytgcjbkdogloojaa.Vm

theorem right_tells (b : Int) (s : Bool) : spinneretref05_Right.f b s = some (decide (1 ≤ b ∧ b ≤ 32)) := by
  unfold spinneretref05_Right.f
  by_cases h : 1 ≤ b
  · rw [if_pos (show b ≥ 1 from h)]; simp [h]
  · rw [if_neg (show ¬ b ≥ 1 from h)]; simp [h]

theorem ref_fit (b : Int) (s : Bool) (v : Int) :
    spinneretref05_Fit.f b s v = some (fitv b s v) := by
  unfold spinneretref05_Fit.f
  rw [right_tells]
  simp only [Option.bind_some]
  by_cases h : 1 ≤ b ∧ b ≤ 32
  · have hb : IntKind.u64.wrap b = b := by simp [IntKind.wrap, IntKind.bits, IntKind.signed]; omega
    obtain ⟨n, rfl⟩ := Int.eq_ofNat_of_zero_le (show 0 ≤ b by omega)
    rw [if_pos (decide_eq_true h), hb, if_pos (by omega), shl_one (by omega)]
    have h1 := pow_pos' n
    have h2 := pow_le_32 (n := n) (by omega)
    have hf : fitv (n : Int) s v = if s = true ∧ 2 ^ n / 2 ≤ v % 2 ^ n then v % 2 ^ n - 2 ^ n else v % 2 ^ n := by
      unfold fitv; rw [if_pos h]; rfl
    rw [hf]
    have h3 := tmod_fix v _ h1
    have h4 := tmod_lo v _ h1
    have h5 := Int.emod_nonneg v (show (2 : Int) ^ n ≠ 0 by omega)
    have h6 := Int.emod_lt_of_pos v h1
    generalize (2 : Int) ^ n = m at *
    have h7 : Int.tdiv m 2 = m / 2 := Int.tdiv_eq_ediv_of_nonneg (by omega)
    generalize Int.tmod v m = t at *
    generalize v % m = e at *
    rw [if_neg (by omega), h7, wrap64_id (x := m / 2) (by omega) (by omega)]
    by_cases ht : t < 0
    · rw [if_pos ht] at h3
      rw [if_pos ht, wrap64_id (x := t + m) (by omega) (by omega), h3, wrap64_id (x := e - m) (by omega) (by omega)]
      cases s <;> simp
      split <;> rfl
    · rw [if_neg ht] at h3
      rw [if_neg ht, h3, wrap64_id (x := e - m) (by omega) (by omega)]
      cases s <;> simp
      split <;> rfl
  · rw [if_neg (by simpa using h)]
    unfold fitv
    rw [if_neg h]

theorem ref_int (v : Int) : spinneretref05_Int.f v = some (wrap32 v) := by
  unfold spinneretref05_Int.f
  rw [ref_fit 32 true v, fitv_int]
  rfl
theorem truth_tells (b : Bool) : value_truth.f b = some (if b = true then 1 else 0) := by unfold value_truth.f; split <;> rfl

theorem fit_tells (k : Nat) (b : Int) (s : Bool) (v : Int) : value_Fit.f (k + 1) b s v = some (fitv b s v) := by
  unfold value_Fit.f
  by_cases h1 : b < 1
  · rw [if_pos h1]
    simp only [value_Fit.j0]
    unfold fitv
    rw [if_pos trivial, if_neg (by omega)]
  · rw [if_neg h1]
    simp only [value_Fit.j0]
    by_cases h2 : b > 32
    · unfold fitv
      rw [if_pos (decide_eq_true h2), if_neg (by omega)]
    · obtain ⟨n, rfl⟩ := Int.eq_ofNat_of_zero_le (show 0 ≤ b by omega)
      rw [if_neg (by simpa using h2)]
      have e : wrap64 (64 - (n : Int)) = ((64 - n : Nat) : Int) := by rw [wrap64_id (by omega) (by omega)]; omega
      cases s
      · have p1 := pow_pos' n
        have p2 := pow_le_32 (n := n) (by omega)
        rw [if_neg (by simp), if_pos (by omega), shl_one (by omega), wrap64_id (by omega) (by omega), and_mask (by omega)]
        unfold fitv
        rw [if_pos (by omega), if_neg (by simp)]
        rfl
      · rw [if_pos rfl, e, if_pos (by omega), shl_shr (by omega) (by omega)]


/-- What the numbers of the ring tell, each as one call tells it. -/
theorem fit_int (k : Nat) (a : Int) : value_Fit.f (k + 1) 32 true a = some (wrap32 a) := by rw [fit_tells, fitv_int]
theorem r_sum (a b : Int) : twov 9 a b = (wrap32 (wrap32 a + wrap32 b), 0) := by simp [twov]
theorem r_back (a b : Int) : twov 10 (wrap32 (wrap32 a + wrap32 b)) b = (wrap32 a, 0) := by
  simp [twov]
  unfold wrap32; omega
theorem r_mul (a b : Int) : twov 6 a b = (wrap32 (wrap32 a * wrap32 b), 0) := by simp [twov]
theorem r_ab (a b : Int) : twov 6 a (wrap32 (wrap32 a + wrap32 b)) = (wrap32 (wrap32 a * wrap32 a + wrap32 a * wrap32 b), 0) := by
  simp only [twov, if_true, wrap32_wrap32, wrap32_mul_r, Int.mul_add]
theorem r_dist (a b : Int) : twov 9 (wrap32 (wrap32 a * wrap32 a)) (wrap32 (wrap32 a * wrap32 b)) = (wrap32 (wrap32 a * wrap32 a + wrap32 a * wrap32 b), 0) := by
  simp [twov, wrap32_wrap32, wrap32_add_l, wrap32_add_r]
theorem r_lt (a b : Int) : twov 13 a b = (if wrap32 a < wrap32 b then 1 else 0, 0) := by simp [twov]
theorem r_ge (a b : Int) : twov 16 a b = (if wrap32 b ≤ wrap32 a then 1 else 0, 0) := by simp [twov]
theorem r_neg (a : Int) : value_One.f 3 a = some (wrap32 (-wrap32 a), 0) := by
  unfold value_One.f
  simp [wrap64_32]
theorem r_zero (a : Int) : twov 9 a (wrap32 (-wrap32 a)) = (0, 0) := by
  simp [twov, wrap32_wrap32]
  unfold wrap32; omega
theorem r_div0 (a b : Int) (h : wrap32 b = 0) : twov 7 a b = (0, 48) := by simp [twov, h]
theorem r_mod0 (a b : Int) (h : wrap32 b = 0) : twov 8 a b = (0, 48) := by simp [twov, h]
theorem r_div (a b : Int) (h : wrap32 b ≠ 0) : twov 7 a b = (wrap32 (Int.tdiv (wrap32 a) (wrap32 b)), 0) := by simp [twov, h]
theorem r_mod (a b : Int) (h : wrap32 b ≠ 0) : twov 8 a b = (Int.tmod (wrap32 a) (wrap32 b), 0) := by simp [twov, h]
theorem r_qb (a b : Int) : twov 6 (wrap32 (Int.tdiv (wrap32 a) (wrap32 b))) b = (wrap32 (Int.tdiv (wrap32 a) (wrap32 b) * wrap32 b), 0) := by
  simp [twov, wrap32_wrap32, wrap32_mul_l]
theorem r_whole (a b : Int) : twov 9 (wrap32 (Int.tdiv (wrap32 a) (wrap32 b) * wrap32 b)) (Int.tmod (wrap32 a) (wrap32 b)) = (wrap32 a, 0) := by
  simp only [twov, if_false, if_true, show ¬ ((9 : Int) = 6) by decide, show ¬ ((9 : Int) = 7) by decide, show ¬ ((9 : Int) = 8) by decide, wrap32_wrap32, wrap32_add_l, wrap32_add_r]
  rw [show Int.tdiv (wrap32 a) (wrap32 b) * wrap32 b + Int.tmod (wrap32 a) (wrap32 b) = wrap32 a by rw [Int.tmod_def, Int.mul_comm (wrap32 b)]; omega, wrap32_wrap32]
theorem r_shl (a c : Int) : twov 11 a c = (shv (wrap32 a) (wrap32 c), 0) := by simp [twov]
theorem r_int (c : Int) : spinneretref05_Int.f c = some (wrap32 c) := ref_int c
theorem r_shr (a c : Int) (h : wrap32 c ≠ -2147483648) : twov 12 a (-wrap32 c) = (shv (wrap32 a) (wrap32 c), 0) := by
  have l := wrap32_lo c
  have u := wrap32_hi c
  simp [twov]
  rw [wrap32_id (x := -wrap32 c) (by omega) (by omega), Int.neg_neg]
theorem r_shr' (a c : Int) : ∃ v, twov 12 a (-wrap32 c) = (v, 0) := by simp [twov]

end Go.Proofs.Ytgcjbkdogloojaa.PureValueRing
