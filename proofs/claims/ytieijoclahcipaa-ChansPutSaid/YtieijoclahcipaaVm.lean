/- Plain lemmas on whole numbers that wrap round: what becomes of a number in a variable of a type. No condition. -/
import Derived.Test.YtieijoclahcipaaWMore
import Derived.Laws.BitsLemmas
import Derived.RowKit
namespace Go.Proofs.Ytieijoclahcipaa.Vm
open Go.RowKit Go.Proofs.YtieijoclahcipaaW.PrintWords Go.Proofs.YtieijoclahcipaaW.PrintLast Go.Proofs.YtieijoclahcipaaW.PrintMore

theorem i64_wf {a : Int} (h : (Lit.int .i64 a).wf = true) : -9223372036854775808 ≤ a ∧ a ≤ 9223372036854775807 := by
  simpa [Lit.wf, IntKind.min, IntKind.max, IntKind.signed, IntKind.bits] using h

theorem wrap32_lo (x : Int) : -2147483648 ≤ wrap32 x := by unfold wrap32; omega
theorem wrap32_hi (x : Int) : wrap32 x ≤ 2147483647 := by unfold wrap32; omega
theorem wrap64_id {x : Int} (h0 : -9223372036854775808 ≤ x) (h1 : x ≤ 9223372036854775807) : wrap64 x = x := by unfold wrap64; omega
theorem wrap32_id {x : Int} (h0 : -2147483648 ≤ x) (h1 : x ≤ 2147483647) : wrap32 x = x := by unfold wrap32; omega
theorem wrap64_32 (x : Int) : wrap64 (wrap32 x) = wrap32 x := wrap64_id (by have := wrap32_lo x; omega) (by have := wrap32_hi x; omega)

/-- what the plain answer makes of a remainder -/
theorem tmod_fix (v m : Int) (hm : 0 < m) : (if Int.tmod v m < 0 then Int.tmod v m + m else Int.tmod v m) = v % m := by
  have h1 := Int.emod_nonneg v (show m ≠ 0 by omega)
  have h2 := Int.emod_lt_of_pos v hm
  rw [Int.tmod_eq_emod]
  split <;> split <;> omega

theorem tmod_lo (v m : Int) (hm : 0 < m) : -m < Int.tmod v m ∧ Int.tmod v m < m := by
  have h1 := Int.emod_nonneg v (show m ≠ 0 by omega)
  have h2 := Int.emod_lt_of_pos v hm
  rw [Int.tmod_eq_emod]
  split
  · omega
  · rename_i h
    have : v % m ≠ 0 := fun e => h (Or.inr (Int.dvd_of_emod_eq_zero e))
    omega

/-- a number in a variable of a type -/
def fitv (b : Int) (s : Bool) (v : Int) : Int :=
  if 1 ≤ b ∧ b ≤ 32 then
    if s = true ∧ 2 ^ b.toNat / 2 ≤ v % 2 ^ b.toNat then v % 2 ^ b.toNat - 2 ^ b.toNat else v % 2 ^ b.toNat
  else 0

theorem pow_le_32 {n : Nat} (h : n ≤ 32) : (2 : Int) ^ n ≤ 4294967296 := by
  have : 2 ^ n ≤ 2 ^ 32 := Nat.pow_le_pow_right (by decide) h
  have h2 : ((2 ^ n : Nat) : Int) ≤ ((2 ^ 32 : Nat) : Int) := Int.ofNat_le.mpr this
  simpa using h2
theorem pow_pos' (n : Nat) : (0 : Int) < 2 ^ n := Int.pow_pos (by decide)

theorem fitv_range (b : Int) (s : Bool) (v : Int) : -4294967296 ≤ fitv b s v ∧ fitv b s v ≤ 4294967296 := by
  unfold fitv
  split
  · rename_i h
    have h1 := pow_pos' b.toNat
    have h2 := pow_le_32 (n := b.toNat) (by omega)
    have h3 := Int.emod_nonneg v (show (2 : Int) ^ b.toNat ≠ 0 by omega)
    have h4 := Int.emod_lt_of_pos v h1
    generalize (2 : Int) ^ b.toNat = m at *
    split <;> omega
  · omega

/-- fitted once it stays -/
theorem fitv_fitv (b : Int) (s : Bool) (v : Int) : fitv b s (fitv b s v) = fitv b s v := by
  unfold fitv
  split
  · have h1 := pow_pos' b.toNat
    generalize (2 : Int) ^ b.toNat = m at *
    have h5 : (v % m - m) % m = v % m := by rw [Int.sub_emod, Int.emod_self]; simp
    have h6 : v % m % m = v % m := Int.emod_emod_of_dvd _ (Int.dvd_refl _)
    by_cases hc : s = true ∧ m / 2 ≤ v % m
    · rw [if_pos hc, h5, if_pos hc]
    · rw [if_neg hc, h6, if_neg hc]
  · rfl

theorem fitv_int (v : Int) : fitv 32 true v = wrap32 v := by
  unfold fitv wrap32
  rw [if_pos (by omega)]
  show (if true = true ∧ (4294967296 : Int) / 2 ≤ v % 4294967296 then v % 4294967296 - 4294967296 else v % 4294967296) = _
  split <;> rename_i h <;> simp at h <;> omega

theorem i64_wrap (n : Int) : IntKind.i64.wrap n = wrap64 n := by rw [IntKind.wrap_i64]; unfold wrap64; rfl
theorem i32_wrap (n : Int) : IntKind.i32.wrap n = wrap32 n := by rw [IntKind.wrap_i32]; unfold wrap32; rfl

theorem shl_one {n : Nat} (h : n ≤ 32) : shl .i64 1 (n : Int) = 2 ^ n := by
  unfold shl
  have e : min ((n : Int)).toNat IntKind.i64.bits = n := by simp [IntKind.bits]; omega
  rw [e, Int.one_mul, i64_wrap]
  have h1 := pow_pos' n
  have h2 := pow_le_32 h
  exact wrap64_id (by omega) (by omega)

/-- shifted up and down again -/
theorem shl_shr {n : Nat} (h0 : 1 ≤ n) (h : n ≤ 32) (v : Int) : shr .i64 (shl .i64 v ((64 - n : Nat) : Int)) ((64 - n : Nat) : Int) = fitv n true v := by
  unfold shl shr fitv
  have e : min (((64 - n : Nat) : Int)).toNat IntKind.i64.bits = 64 - n := by simp [IntKind.bits]
  rw [e, i64_wrap, if_pos (by omega), show ((n : Int)).toNat = n from rfl]
  have hk : (2 : Int) ^ (64 - n) * 2 ^ n = 18446744073709551616 := by
    rw [← Int.pow_add, show 64 - n + n = 64 by omega]; decide
  have hm : (2 : Int) ^ n = 2 * 2 ^ (n - 1) := by
    conv => lhs; rw [show n = (n - 1) + 1 by omega, Int.pow_succ]
    omega
  have p1 := pow_pos' (n - 1)
  have p2 := pow_pos' (64 - n)
  generalize (2 : Int) ^ (64 - n) = K at *
  rw [hm] at hk ⊢
  generalize (2 : Int) ^ (n - 1) = g at *
  have hg : K * g = 9223372036854775808 := by have : K * (2 * g) = 2 * (K * g) := by rw [Int.mul_left_comm]
                                              omega
  unfold wrap64
  rw [← hg, ← hk, show v * K + K * g = K * (v + g) by rw [Int.mul_add, Int.mul_comm v K], Int.mul_emod_mul_of_pos _ _ p2,
    ← Int.mul_sub, Int.mul_ediv_cancel_left _ (by omega)]
  have e1 := Int.emod_nonneg v (show 2 * g ≠ 0 by omega)
  have e2 := Int.emod_lt_of_pos v (show 0 < 2 * g by omega)
  have e3 := Int.emod_nonneg (v + g) (show 2 * g ≠ 0 by omega)
  have e4 := Int.emod_lt_of_pos (v + g) (show 0 < 2 * g by omega)
  have e5 : (v + g) % (2 * g) = (v % (2 * g) + g) % (2 * g) := by rw [Int.emod_add_emod]
  have e6 : 2 * g / 2 = g := by omega
  rw [e6, e5]
  generalize v % (2 * g) = r at *
  by_cases hr : g ≤ r
  · rw [if_pos ⟨rfl, hr⟩]
    have : (r + g) % (2 * g) = r - g := by
      rw [show r + g = (r - g) + 2 * g by omega, Int.add_emod_right]
      exact Int.emod_eq_of_lt (by omega) (by omega)
    omega
  · rw [if_neg (fun h => hr h.2)]
    have : (r + g) % (2 * g) = r + g := Int.emod_eq_of_lt (by omega) (by omega)
    omega

theorem and_mask {n : Nat} (h : n ≤ 32) (v : Int) : Go.bits .and .i64 v (2 ^ n - 1) = v % 2 ^ n := by
  have h2 := pow_le_32 h
  have h1 := pow_pos' n
  simp only [Go.bits]
  rw [i64_wrap]
  have e : (BitVec.ofInt IntKind.i64.bits v &&& BitVec.ofInt IntKind.i64.bits (2 ^ n - 1)).toNat = (v % 2 ^ n).toNat := by
    rw [BitVec.toNat_and, BitVec.toNat_ofInt, BitVec.toNat_ofInt]
    show (v % 18446744073709551616).toNat &&& (((2 : Int) ^ n - 1) % 18446744073709551616).toNat = _
    rw [Int.emod_eq_of_lt (a := (2 : Int) ^ n - 1) (by omega) (by omega)]
    have : ((2 : Int) ^ n - 1).toNat = 2 ^ n - 1 := by
      have : (2 : Int) ^ n = ((2 ^ n : Nat) : Int) := by simp
      rw [this]; omega
    rw [this, Nat.and_two_pow_sub_one_eq_mod]
    have hd : (2 : Int) ^ n ∣ 18446744073709551616 := by
      have : (18446744073709551616 : Int) = 2 ^ n * 2 ^ (64 - n) := by
        rw [← Int.pow_add, show n + (64 - n) = 64 by omega]; decide
      exact ⟨_, this⟩
    have h3 : v % 18446744073709551616 % 2 ^ n = v % 2 ^ n := Int.emod_emod_of_dvd v hd
    have h4 := Int.emod_nonneg v (show (18446744073709551616 : Int) ≠ 0 by omega)
    rw [← h3]
    obtain ⟨a, ha⟩ := Int.eq_ofNat_of_zero_le h4
    rw [ha]
    have : (2 : Int) ^ n = ((2 ^ n : Nat) : Int) := by simp
    rw [this, ← Int.natCast_emod, Int.toNat_natCast, Int.toNat_natCast]
  rw [e]
  have e1 := Int.emod_nonneg v (show (2 : Int) ^ n ≠ 0 by omega)
  have e2 := Int.emod_lt_of_pos v h1
  rw [Int.toNat_of_nonneg e1]
  exact wrap64_id (by omega) (by omega)

/-- all bits turned -/
theorem xor_ones (x : Int) (h0 : -2147483648 ≤ x) (h1 : x ≤ 2147483647) : Go.bits .xor .i32 (-1) x = -x - 1 := by
  simp only [Go.bits]
  rw [i32_wrap]
  have e : (BitVec.ofInt IntKind.i32.bits (-1) ^^^ BitVec.ofInt IntKind.i32.bits x).toNat = 4294967295 - (x % 4294967296).toNat := by
    show (BitVec.ofInt 32 (-1) ^^^ BitVec.ofInt 32 x).toNat = _
    rw [show BitVec.ofInt 32 (-1) = BitVec.allOnes 32 by decide]
    rw [BitVec.allOnes_xor, BitVec.toNat_not, BitVec.toNat_ofInt]
    rfl
  rw [e]
  unfold wrap32
  omega

end Go.Proofs.Ytieijoclahcipaa.Vm
