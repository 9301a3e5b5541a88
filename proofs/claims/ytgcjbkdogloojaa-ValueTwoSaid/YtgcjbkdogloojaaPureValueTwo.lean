/- The numbers behind the statement ValueTwo: what the chapter's plain answer reckons with two numbers. No condition. -/
import Derived.Test.YtgcjbkdogloojaaPValueTwox2
import Derived.Test.YtgcjbkdogloojaaVm2
namespace Go.Proofs.Ytgcjbkdogloojaa.PureValueTwo
open Go.RowKit Go.Proofs.Ytgcjbkdogloojaa.PValueTwo Go.Proofs.YtgcjbkdogloojaaW.PrintWords Go.Proofs.YtgcjbkdogloojaaW.PrintLast Go.Proofs.YtgcjbkdogloojaaW.PrintMore Go.Proofs.Ytgcjbkdogloojaa.Vm

theorem right_tells (b : Int) (s : Bool) : spinneretref05_Right.f b s = some (decide (1 ≤ b ∧ b ≤ 32)) := by
  unfold spinneretref05_Right.f
  by_cases h : 1 ≤ b
  · rw [if_pos (show b ≥ 1 from h)]; simp [h]
  · rw [if_neg (show ¬ b ≥ 1 from h)]; simp [h]

theorem ref_fit (b : Int) (s : Bool) (v : Int) :
    spinneretref05_Fit.f b s v = some (fitv b s v) := by
  unfold spinneretref05_Fit.f
  rw [right_tells]
  simp only [Option.bind_some]
  by_cases h : 1 ≤ b ∧ b ≤ 32
  · have hb : IntKind.u64.wrap b = b := by simp [IntKind.wrap, IntKind.bits, IntKind.signed]; omega
    obtain ⟨n, rfl⟩ := Int.eq_ofNat_of_zero_le (show 0 ≤ b by omega)
    rw [if_pos (decide_eq_true h), hb, if_pos (by omega), shl_one (by omega)]
    have h1 := pow_pos' n
    have h2 := pow_le_32 (n := n) (by omega)
    have hf : fitv (n : Int) s v = if s = true ∧ 2 ^ n / 2 ≤ v % 2 ^ n then v % 2 ^ n - 2 ^ n else v % 2 ^ n := by
      unfold fitv; rw [if_pos h]; rfl
    rw [hf]
    have h3 := tmod_fix v _ h1
    have h4 := tmod_lo v _ h1
    have h5 := Int.emod_nonneg v (show (2 : Int) ^ n ≠ 0 by omega)
    have h6 := Int.emod_lt_of_pos v h1
    generalize (2 : Int) ^ n = m at *
    have h7 : Int.tdiv m 2 = m / 2 := Int.tdiv_eq_ediv_of_nonneg (by omega)
    generalize Int.tmod v m = t at *
    generalize v % m = e at *
    rw [if_neg (by omega), h7, wrap64_id (x := m / 2) (by omega) (by omega)]
    by_cases ht : t < 0
    · rw [if_pos ht] at h3
      rw [if_pos ht, wrap64_id (x := t + m) (by omega) (by omega), h3, wrap64_id (x := e - m) (by omega) (by omega)]
      cases s <;> simp
      split <;> rfl
    · rw [if_neg ht] at h3
      rw [if_neg ht, h3, wrap64_id (x := e - m) (by omega) (by omega)]
      cases s <;> simp
      split <;> rfl
  · rw [if_neg (by simpa using h)]
    unfold fitv
    rw [if_neg h]

theorem ref_int (v : Int) : spinneretref05_Int.f v = some (wrap32 v) := by
  unfold spinneretref05_Int.f
  rw [ref_fit 32 true v, fitv_int]
  rfl
theorem ref_one (b : Bool) : spinneretref05_one.f b = some (if b = true then 1 else 0) := by unfold spinneretref05_one.f; split <;> rfl

theorem shift_right_end (k : Nat) (x y : Int) (h : ¬ y < 0 ∨ x = 0 ∨ x = -1) : spinneretref05_shift.l1 (k + 2) x y = some x := by
  simp only [spinneretref05_shift.l1]
  rcases h with h | h | h
  · rw [if_neg h]; simp [spinneretref05_shift.j3]
  · subst h
    split
    · simp [spinneretref05_shift.j3]
    · simp [spinneretref05_shift.j3]
  · subst h
    split
    · simp [spinneretref05_shift.j3]
    · simp [spinneretref05_shift.j3]

theorem shift_right (d : Nat) : ∀ (k : Nat) (x y : Int), d ≤ 31 → -(2 ^ d) ≤ x → x < 2 ^ d → -2147483648 ≤ y → y ≤ 0 → 2 * d + 2 ≤ k →
    spinneretref05_shift.l1 k x y = some (x / 2 ^ (-y).toNat) := by
  induction d with
  | zero =>
    intro k x y _ h0 h1 _ hy1 hk
    obtain ⟨k, rfl⟩ : ∃ m, k = m + 2 := ⟨k - 2, by omega⟩
    simp only [Int.pow_zero] at h0 h1
    rw [shift_right_end k x y (by omega), div_far x 0 _ (by simpa using h0) (by simpa using h1) (Nat.zero_le _)]
    split <;> congr 1 <;> omega
  | succ d ih =>
    intro k x y hd h0 h1 hy0 hy1 hk
    by_cases he : ¬ y < 0 ∨ x = 0 ∨ x = -1
    · obtain ⟨k, rfl⟩ : ∃ m, k = m + 2 := ⟨k - 2, by omega⟩
      rw [shift_right_end k x y he]
      by_cases hy : y < 0
      · rw [div_far x 0 _ (by simp; omega) (by simp; omega) (Nat.zero_le _)]
        split <;> congr 1 <;> omega
      · have : y = 0 := by omega
        subst this
        simp
    · obtain ⟨k, rfl⟩ : ∃ m, k = m + 2 := ⟨k - 2, by omega⟩
      have hp := pow_pos' d
      have hp2 := pow_le_32 (n := d) (by omega)
      have e2 : (2 : Int) ^ (d + 1) = 2 ^ d * 2 := Int.pow_succ _ _
      rw [e2] at h0 h1
      have hy : y < 0 := by omega
      have hx0 : x ≠ 0 := by omega
      have hx1 : (x != -1) = true := by simp; omega
      have hn : (-y).toNat = (-(y + 1)).toNat + 1 := by omega
      have hdiv : x / 2 ^ (-y).toNat = (x / 2) / 2 ^ (-(y + 1)).toNat := by
        rw [hn, Int.pow_succ, Int.mul_comm, Int.ediv_ediv_of_nonneg (by omega)]
      have hyw : wrap64 (y + 1) = y + 1 := wrap64_id (by omega) (by omega)
      have hr := ih k (x / 2) (y + 1) (by omega) (by omega) (by omega) (by omega) (by omega) (by omega)
      simp only [spinneretref05_shift.l1]
      rw [if_pos hy, if_neg hx0, hx1]
      simp only [spinneretref05_shift.j3]
      rw [if_pos trivial, hdiv]
      by_cases hx : x < 0
      · rw [if_pos hx, wrap64_id (x := x - 1) (by omega) (by omega)]
        have : Int.tdiv (x - 1) 2 = x / 2 := by
          have h := Int.tdiv_eq_ediv (a := x - 1) (b := 2)
          rw [h, show Int.sign 2 = 1 by decide]
          split <;> omega
        rw [this, wrap64_id (by omega) (by omega), hyw]
        exact hr
      · rw [if_neg hx]
        have : Int.tdiv x 2 = x / 2 := Int.tdiv_eq_ediv_of_nonneg (by omega)
        rw [this, wrap64_id (by omega) (by omega), hyw]
        exact hr

theorem shift_left (d : Nat) : ∀ (k : Nat) (x y : Int), d ≤ 32 → wrap32 x = x → x % 2 ^ (32 - d) = 0 → 0 ≤ y → y ≤ 2147483648 → d + 70 ≤ k →
    spinneretref05_shift.l0 k x y = some (wrap32 (x * 2 ^ y.toNat)) := by
  have stop : ∀ (k : Nat) (x y : Int), 70 ≤ k → wrap32 x = x → (x = 0 ∨ y = 0) → 0 ≤ y → spinneretref05_shift.l0 k x y = some (wrap32 (x * 2 ^ y.toNat)) := by
    intro k x y hk hw h hy
    obtain ⟨k, rfl⟩ : ∃ m, k = m + 4 := ⟨k - 4, by omega⟩
    have e : x * 2 ^ y.toNat = x := by
      rcases h with h | h <;> subst h <;> simp
    rw [e, hw]
    simp only [spinneretref05_shift.l0]
    have hr := shift_right_end k x y (by omega)
    split
    · rw [if_pos (by omega)]; simp only [spinneretref05_shift.j1]; exact hr
    · simp only [spinneretref05_shift.j1]; exact hr
  induction d with
  | zero =>
    intro k x y _ hw hx hy0 _ hk
    have h0 := wrap32_lo x
    have h1 := wrap32_hi x
    have e : (2 : Int) ^ 32 = 4294967296 := by decide
    rw [Nat.sub_zero, e] at hx
    exact stop k x y (by omega) hw (by omega) hy0
  | succ d ih =>
    intro k x y hd hw hx hy0 hy1 hk
    by_cases hs : x = 0 ∨ y = 0
    · exact stop k x y (by omega) hw hs hy0
    · obtain ⟨k, rfl⟩ : ∃ m, k = m + 1 := ⟨k - 1, by omega⟩
      have h0 := wrap32_lo x
      have h1 := wrap32_hi x
      have e32 : (2 : Int) ^ (32 - d) = 2 ^ (32 - (d + 1)) * 2 := by rw [show 32 - d = (32 - (d + 1)) + 1 by omega, Int.pow_succ]
      have hdv : (2 : Int) ^ (32 - d) ∣ 4294967296 := ⟨2 ^ d, by rw [← Int.pow_add, show 32 - d + d = 32 by omega]; decide⟩
      have hx2 : wrap32 (2 * x) % 2 ^ (32 - d) = 0 := by
        obtain ⟨q, hq⟩ := wrap32_eq (2 * x)
        have a : (2 : Int) ^ (32 - d) ∣ 2 * x := by
          obtain ⟨c, hc⟩ := Int.dvd_of_emod_eq_zero hx
          exact ⟨c, by rw [e32, hc, Int.mul_comm _ 2, Int.mul_assoc]⟩
        have b : (2 : Int) ^ (32 - d) ∣ 4294967296 * q := Int.dvd_trans hdv (Int.dvd_mul_right _ _)
        rw [hq]
        exact Int.emod_eq_zero_of_dvd (Int.dvd_add a b)
      have hr := ih k (wrap32 (2 * x)) (y - 1) (by omega) (wrap32_wrap32 _) hx2 (by omega) (by omega) (by omega)
      simp only [spinneretref05_shift.l0]
      rw [if_pos (by omega), if_neg (by omega), ref_int, wrap32_64, wrap64_id (x := y - 1) (by omega) (by omega)]
      simp only [Option.bind_some]
      rw [hr, wrap32_mul_l]
      have : y.toNat = (y - 1).toNat + 1 := by omega
      rw [this, Int.pow_succ, Int.mul_comm 2 x, Int.mul_assoc, Int.mul_comm 2]

theorem ref_shift (k : Nat) (x y : Int) (hk : 110 ≤ k) (hw : wrap32 x = x) (hy0 : -2147483648 ≤ y) (hy1 : y ≤ 2147483648) :
    spinneretref05_shift.f k x y = some (shv x y) := by
  unfold spinneretref05_shift.f shv
  by_cases hy : y ≥ 0
  · rw [if_pos hy, shift_left 32 k x y (by omega) hw (by simp) hy hy1 (by omega), shift_far]
  · rw [if_neg hy]
    obtain ⟨k, rfl⟩ : ∃ m, k = m + 2 := ⟨k - 2, by omega⟩
    have h0 := wrap32_lo x
    have h1 := wrap32_hi x
    simp only [spinneretref05_shift.l0, spinneretref05_shift.j1]
    have e : (2 : Int) ^ 31 = 2147483648 := by decide
    rw [if_neg (by omega), shift_right 31 k x y (by omega) (by omega) (by omega) hy0 (by omega) (by omega)]
    by_cases hn : (-y).toNat ≤ 32
    · rw [Nat.min_eq_left hn]
    · rw [Nat.min_eq_right (by omega), div_far x 31 _ (by omega) (by omega) (by omega), div_far x 31 32 (by omega) (by omega) (by omega)]

theorem ref_two (op a b : Int) : spinneretref05_Two.f 200 op a b = some (twov op a b) := by
  have x0 := wrap32_lo a
  have x1 := wrap32_hi a
  have y0 := wrap32_lo b
  have y1 := wrap32_hi b
  have n64 : wrap64 (-wrap32 b) = -wrap32 b := wrap64_id (by omega) (by omega)
  unfold spinneretref05_Two.f
  rw [ref_int, ref_int]
  simp only [Option.bind_some]
  have J : ∀ t, spinneretref05_Two.j0 200 op (wrap32 a) (wrap32 b) t = if t = true then some (0, 48) else if op = 7 ∨ op = 8 then (if wrap32 b = 0 then none else some (twov op a b)) else some (twov op a b) := by
    intro t
    simp only [spinneretref05_Two.j0, ref_int, ref_one, wrap32_64, n64, Option.bind_some]
    rw [ref_shift 199 _ _ (by omega) (wrap32_wrap32 a) (by omega) (by omega), ref_shift 199 _ _ (by omega) (wrap32_wrap32 a) (by omega) (by omega),
      and_wide _ _ x0 x1 y0 y1, or_wide _ _ x0 x1 y0 y1, xor_wide _ _ x0 x1 y0 y1]
    cases t
    · unfold twov
      by_cases h6 : op = 6
      · subst h6; simp
      by_cases h7 : op = 7
      · subst h7; by_cases hz : wrap32 b = 0 <;> simp [hz]
      by_cases h8 : op = 8
      · subst h8; by_cases hz : wrap32 b = 0 <;> simp [hz]
      simp only [h6, h7, h8, if_false, or_self, Bool.false_eq_true]
      by_cases h9 : op = 9
      · subst h9; simp
      by_cases h10 : op = 10
      · subst h10; simp
      by_cases h11 : op = 11
      · subst h11; simp
      by_cases h12 : op = 12
      · subst h12; simp
      by_cases h13 : op = 13
      · subst h13; simp
      by_cases h14 : op = 14
      · subst h14; simp
      by_cases h15 : op = 15
      · subst h15; simp
      by_cases h16 : op = 16
      · subst h16; simp
      by_cases h17 : op = 17
      · subst h17; simp
      by_cases h18 : op = 18
      · subst h18; simp
      by_cases h19 : op = 19
      · subst h19; simp
      by_cases h20 : op = 20
      · subst h20; simp
      by_cases h21 : op = 21
      · subst h21; simp
      simp [*]
    · rfl
  rw [J, J]
  by_cases h7 : op = 7
  · subst h7
    by_cases hz : wrap32 b = 0 <;> simp [hz, twov]
  by_cases h8 : op = 8
  · subst h8
    by_cases hz : wrap32 b = 0 <;> simp [hz, twov]
  simp [h7, h8]

end Go.Proofs.Ytgcjbkdogloojaa.PureValueTwo
