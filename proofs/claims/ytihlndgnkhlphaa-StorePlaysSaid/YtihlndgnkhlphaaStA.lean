/- The store's memory, read as plain data; what a text's hash is. Condition: texts are at most 2^63 - 1 bytes. -/
import Derived.Test.YtihlndgnkhlphaaPStorePlaysx1
import Derived.Test.YtihlndgnkhlphaaSm
namespace Go.Proofs.Ytihlndgnkhlphaa.St
open Go.RowKit Go.Proofs.YtihlndgnkhlphaaW.PrintWords Go.Proofs.YtihlndgnkhlphaaW.PrintLast Go.Proofs.YtihlndgnkhlphaaW.PrintMore Go.Proofs.Ytihlndgnkhlphaa.PStorePlays
open Go.Proofs.Ytihlndgnkhlphaa.Sm

/-- A store, as plain data. -/
structure Data where
  most : Int
  keys : List ByteArray
  bits : List Int
  slots : List Nat

def ints (l : List Nat) : List Int := l.map fun n : Nat => (n : Int)
theorem ints_length (l : List Nat) : (ints l).length = l.length := by simp [ints]

/-- The block g (from b on) is a store that reads so. -/
def StoreIn (w : World) (b g : Nat) (S : Data) : Prop :=
  ∃ kv bv sv, w.heap[g]? = some (.cells #[.int .i64 S.most, kv, bv, sv] 53 (0, 0)) ∧ b ≤ g ∧ w.ownsRow b 9 1 kv S.keys.length (pw_strs S.keys) ∧
    w.ownsRow b 34 1 bv S.bits.length (nums .u64 S.bits) ∧ w.ownsRow b 3 1 sv (ints S.slots).length (nums .i64 (ints S.slots))

theorem hash_ex (s : ByteArray) (hs : s.size ≤ 9223372036854775807) : ∀ (d k : Nat) (h i : Int), 0 ≤ h → h < 18446744073709551616 → 0 ≤ i → i ≤ s.size → (s.size : Int) - i = d → d < k →
    ∃ r, store_hash.l0 k s h (s.size : Int) i = some r ∧ 0 ≤ r ∧ r < 18446744073709551616 := by
  intro d
  induction d with
  | zero =>
    intro k h i h0 h1 hi0 hi1 hd hk
    obtain ⟨k, rfl⟩ : ∃ m, k = m + 1 := ⟨k - 1, by omega⟩
    exact ⟨h, by simp only [store_hash.l0]; rw [if_neg (by omega)], h0, h1⟩
  | succ d ih =>
    intro k h i h0 h1 hi0 hi1 hd hk
    obtain ⟨k, rfl⟩ : ∃ m, k = m + 1 := ⟨k - 1, by omega⟩
    simp only [store_hash.l0]
    rw [if_pos (by omega), if_pos hi0, if_pos (by omega)]
    have hw : wrap64 (i + 1) = i + 1 := by unfold wrap64; omega
    rw [hw]
    have hr : ∀ x : Int, 0 ≤ IntKind.u64.wrap x ∧ IntKind.u64.wrap x < 18446744073709551616 := by
      intro x
      simp only [IntKind.wrap, IntKind.bits, IntKind.signed]
      simp
      omega
    exact ih k _ (i + 1) (hr _).1 (hr _).2 (by omega) (by omega) (by omega) (by omega)

/-- A text's hash. -/
def hsh (s : ByteArray) : Nat := ((store_hash.f (s.size + 1) s).getD 0).toNat
theorem hash_tells (s : ByteArray) (hs : s.size ≤ 9223372036854775807) : store_hash.f (s.size + 1) s = some ((hsh s : Nat) : Int) ∧ hsh s < 18446744073709551616 := by
  obtain ⟨r, hr, h0, h1⟩ := hash_ex s hs s.size (s.size + 1) 14695981039346656037 0 (by omega) (by omega) (by omega) (by omega) (by omega) (by omega)
  have e : store_hash.f (s.size + 1) s = some r := hr
  unfold hsh
  rw [e]
  simp
  omega
end Go.Proofs.Ytihlndgnkhlphaa.St
