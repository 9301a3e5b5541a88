/- Plain lemmas on whole numbers that wrap round at 32 bits: shifts, bits, and what is reckoned with two numbers. No condition. -/
import Derived.Test.YtgcjbkdogloojaaVm
namespace Go.Proofs.Ytgcjbkdogloojaa.Vm
open Go.RowKit Go.Proofs.YtgcjbkdogloojaaW.PrintWords Go.Proofs.YtgcjbkdogloojaaW.PrintLast Go.Proofs.YtgcjbkdogloojaaW.PrintMore

theorem wrap32_64 (x : Int) : wrap32 (wrap64 x) = wrap32 x := by unfold wrap32 wrap64; omega
theorem wrap32_add_mul (x k : Int) : wrap32 (x + 4294967296 * k) = wrap32 x := by unfold wrap32; omega
theorem wrap32_eq (x : Int) : ∃ k, wrap32 x = x + 4294967296 * k := ⟨-((x + 2147483648) / 4294967296), by unfold wrap32; omega⟩
theorem wrap32_mul_l (x y : Int) : wrap32 (wrap32 x * y) = wrap32 (x * y) := by
  obtain ⟨k, hk⟩ := wrap32_eq x
  rw [hk, Int.add_mul, Int.mul_assoc, wrap32_add_mul]
theorem wrap32_mul_r (x y : Int) : wrap32 (x * wrap32 y) = wrap32 (x * y) := by rw [Int.mul_comm, wrap32_mul_l, Int.mul_comm]
theorem wrap32_sub_r (x y : Int) : wrap32 (x - wrap32 y) = wrap32 (x - y) := by unfold wrap32; omega
theorem wrap32_sub_l (x y : Int) : wrap32 (wrap32 x - y) = wrap32 (x - y) := by unfold wrap32; omega
theorem wrap32_add_l (x y : Int) : wrap32 (wrap32 x + y) = wrap32 (x + y) := by unfold wrap32; omega
theorem wrap32_add_r (x y : Int) : wrap32 (x + wrap32 y) = wrap32 (x + y) := by unfold wrap32; omega
theorem wrap32_neg (x : Int) : wrap32 (-wrap32 x) = wrap32 (-x) := by unfold wrap32; omega
theorem wrap32_wrap32 (x : Int) : wrap32 (wrap32 x) = wrap32 x := by unfold wrap32; omega

theorem tmod_i32 (x y : Int) (h0 : -2147483648 ≤ x) (h1 : x ≤ 2147483647) : -2147483648 ≤ Int.tmod x y ∧ Int.tmod x y ≤ 2147483647 := by
  have ha : (Int.tmod x y).natAbs ≤ x.natAbs := by
    rw [Int.natAbs_tmod]; exact Nat.mod_le _ _
  by_cases hx : 0 ≤ x
  · have := Int.tmod_nonneg y hx
    omega
  · have : Int.tmod x y = -(Int.tmod (-x) y) := by rw [Int.neg_tmod]; omega
    have h2 := Int.tmod_nonneg (a := -x) y (by omega)
    omega

theorem mod_form (x y : Int) (h0 : -2147483648 ≤ x) (h1 : x ≤ 2147483647) : wrap32 (x - wrap32 (wrap32 (Int.tdiv x y) * y)) = Int.tmod x y := by
  have e : wrap32 (x - wrap32 (Int.tdiv x y) * y) = wrap32 (x - Int.tdiv x y * y) := by rw [← wrap32_sub_r, wrap32_mul_l, wrap32_sub_r]
  rw [wrap32_sub_r, e]
  have := tmod_i32 x y h0 h1
  rw [Int.tmod_def, Int.mul_comm y] at this
  rw [wrap32_id (by omega) (by omega), Int.tmod_def, Int.mul_comm y]

/-- a shift to the left by more than 32 places leaves nothing -/
theorem shift_far (x : Int) (n : Nat) : wrap32 (x * 2 ^ min n 32) = wrap32 (x * 2 ^ n) := by
  by_cases h : n ≤ 32
  · rw [Nat.min_eq_left h]
  · rw [Nat.min_eq_right (by omega)]
    have e : (2 : Int) ^ n = 4294967296 * 2 ^ (n - 32) := by
      rw [show n = 32 + (n - 32) by omega, Int.pow_add, show 32 + (n - 32) - 32 = n - 32 by omega]; rfl
    have e2 : (2 : Int) ^ 32 = 4294967296 := by decide
    rw [e, e2]
    have a := wrap32_add_mul 0 x
    have b := wrap32_add_mul 0 (x * 2 ^ (n - 32))
    rw [Int.zero_add] at a b
    rw [show x * 4294967296 = 4294967296 * x by omega, show x * (4294967296 * 2 ^ (n - 32)) = 4294967296 * (x * 2 ^ (n - 32)) by rw [Int.mul_left_comm], a, b]

theorem div_far (x : Int) (d n : Nat) (h0 : -(2 ^ d) ≤ x) (h1 : x < 2 ^ d) (h : d ≤ n) : x / 2 ^ n = if x < 0 then -1 else 0 := by
  have hp : (2 : Int) ^ d ≤ 2 ^ n := by
    have : 2 ^ d ≤ 2 ^ n := Nat.pow_le_pow_right (by decide) h
    have h2 : ((2 ^ d : Nat) : Int) ≤ ((2 ^ n : Nat) : Int) := Int.ofNat_le.mpr this
    simpa using h2
  have hq := pow_pos' n
  generalize (2 : Int) ^ n = m at *
  split
  · have a := (Int.le_ediv_iff_mul_le (a := -1) (b := x) hq).mpr (by omega)
    have b := (Int.ediv_lt_iff_lt_mul (a := x) (b := 0) hq).mpr (by omega)
    omega
  · exact Int.ediv_eq_zero_of_lt (by omega) (by omega)

theorem bits_wide (f : (n : Nat) → BitVec n → BitVec n → BitVec n) (hf : ∀ a b : BitVec 32, (f 32 a b).signExtend 64 = f 64 (a.signExtend 64) (b.signExtend 64))
    (x y : Int) (h0 : -2147483648 ≤ x) (h1 : x ≤ 2147483647) (h2 : -2147483648 ≤ y) (h3 : y ≤ 2147483647) :
    IntKind.i64.wrap (f 64 (BitVec.ofInt 64 x) (BitVec.ofInt 64 y)).toNat = IntKind.i32.wrap (f 32 (BitVec.ofInt 32 x) (BitVec.ofInt 32 y)).toNat := by
  have e : ∀ z : Int, -2147483648 ≤ z → z ≤ 2147483647 → BitVec.ofInt 64 z = (BitVec.ofInt 32 z).signExtend 64 := by
    intro z a b
    rw [BitVec.signExtend, BitVec.toInt_ofInt]
    congr 1
    rw [Int.bmod_def]
    simp
    omega
  have w64 : ∀ v : BitVec 64, IntKind.i64.wrap v.toNat = v.toInt := by
    intro v
    have := v.isLt
    rw [BitVec.toInt_eq_toNat_cond, i64_wrap]
    unfold wrap64
    split <;> omega
  have w32 : ∀ v : BitVec 32, IntKind.i32.wrap v.toNat = v.toInt := by
    intro v
    have := v.isLt
    rw [BitVec.toInt_eq_toNat_cond, i32_wrap]
    unfold wrap32
    split <;> omega
  rw [e x h0 h1, e y h2 h3, ← hf, w64, w32, BitVec.toInt_signExtend_of_le (by decide)]

theorem and_wide (x y : Int) (h0 : -2147483648 ≤ x) (h1 : x ≤ 2147483647) (h2 : -2147483648 ≤ y) (h3 : y ≤ 2147483647) : Go.bits .and .i64 x y = Go.bits .and .i32 x y :=
  bits_wide (fun _ a b => a &&& b) (fun a b => by simp) x y h0 h1 h2 h3
theorem or_wide (x y : Int) (h0 : -2147483648 ≤ x) (h1 : x ≤ 2147483647) (h2 : -2147483648 ≤ y) (h3 : y ≤ 2147483647) : Go.bits .or .i64 x y = Go.bits .or .i32 x y :=
  bits_wide (fun _ a b => a ||| b) (fun a b => by simp) x y h0 h1 h2 h3
theorem xor_wide (x y : Int) (h0 : -2147483648 ≤ x) (h1 : x ≤ 2147483647) (h2 : -2147483648 ≤ y) (h3 : y ≤ 2147483647) : Go.bits .xor .i64 x y = Go.bits .xor .i32 x y :=
  bits_wide (fun _ a b => a ^^^ b) (fun a b => by simp) x y h0 h1 h2 h3
theorem bits_i32 (op : BinOp) (x y : Int) (hop : op = .and ∨ op = .or ∨ op = .xor) : wrap64 (Go.bits op .i32 x y) = Go.bits op .i32 x y := by
  rcases hop with rfl | rfl | rfl <;> simp only [Go.bits] <;> rw [i32_wrap, wrap64_32]


/-- What a shift by a number of places tells; below 0: to the right. -/
def shv (x y : Int) : Int := if y ≥ 0 then wrap32 (x * 2 ^ min y.toNat 32) else x / 2 ^ min (-y).toNat 32

theorem shv_bounds (x y : Int) (h0 : -2147483648 ≤ x) (h1 : x ≤ 2147483647) : -2147483648 ≤ shv x y ∧ shv x y ≤ 2147483647 := by
  unfold shv
  split
  · exact ⟨wrap32_lo _, wrap32_hi _⟩
  · have p := pow_pos' (min (-y).toNat 32)
    generalize (2 : Int) ^ min (-y).toNat 32 = m at *
    by_cases hx : x < 0
    · have h : x * (m - 1) ≤ 0 := Int.mul_nonpos_of_nonpos_of_nonneg (by omega) (by omega)
      rw [Int.mul_sub] at h
      have a := (Int.le_ediv_iff_mul_le (a := x) (b := x) p).mpr (by omega)
      have b := (Int.ediv_lt_iff_lt_mul (a := x) (b := 0) p).mpr (by omega)
      omega
    · have a := Int.ediv_nonneg (a := x) (b := m) (by omega) (by omega)
      have b := Int.ediv_le_self (a := x) m (by omega)
      omega
theorem shv_lo (x y : Int) (h : -2147483648 ≤ x ∧ x ≤ 2147483647) : -9223372036854775808 ≤ shv x y := by have := shv_bounds x y h.1 h.2; omega
theorem shv_hi (x y : Int) (h : -2147483648 ≤ x ∧ x ≤ 2147483647) : shv x y ≤ 9223372036854775807 := by have := shv_bounds x y h.1 h.2; omega

/-- What is reckoned with two numbers, and the error. -/
def twov (op a b : Int) : Int × Int :=
  if op = 6 then (wrap32 (wrap32 a * wrap32 b), 0)
  else if op = 7 then (if wrap32 b = 0 then (0, 48) else (wrap32 (Int.tdiv (wrap32 a) (wrap32 b)), 0))
  else if op = 8 then (if wrap32 b = 0 then (0, 48) else (Int.tmod (wrap32 a) (wrap32 b), 0))
  else if op = 9 then (wrap32 (wrap32 a + wrap32 b), 0)
  else if op = 10 then (wrap32 (wrap32 a - wrap32 b), 0)
  else if op = 11 then (shv (wrap32 a) (wrap32 b), 0)
  else if op = 12 then (shv (wrap32 a) (-wrap32 b), 0)
  else if op = 13 then (if wrap32 a < wrap32 b then 1 else 0, 0)
  else if op = 14 then (if wrap32 a ≤ wrap32 b then 1 else 0, 0)
  else if op = 15 then (if wrap32 b < wrap32 a then 1 else 0, 0)
  else if op = 16 then (if wrap32 b ≤ wrap32 a then 1 else 0, 0)
  else if op = 17 then (if wrap32 a = wrap32 b then 1 else 0, 0)
  else if op = 18 then (if wrap32 a = wrap32 b then 0 else 1, 0)
  else if op = 19 then (Go.bits .and .i32 (wrap32 a) (wrap32 b), 0)
  else if op = 20 then (Go.bits .xor .i32 (wrap32 a) (wrap32 b), 0)
  else if op = 21 then (Go.bits .or .i32 (wrap32 a) (wrap32 b), 0)
  else (0, 42)

end Go.Proofs.Ytgcjbkdogloojaa.Vm
