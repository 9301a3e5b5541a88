/- The same message, the same channel: what is told of them. Condition: at most 2^63 - 1 numbers. -/
import Derived.Test.YtieijoclahcipaaChJ
namespace Go.Proofs.Ytieijoclahcipaa.Ch
open Go.RowKit Go.Proofs.YtieijoclahcipaaW.PrintWords Go.Proofs.YtieijoclahcipaaW.PrintLast Go.Proofs.YtieijoclahcipaaW.PrintMore Go.Proofs.Ytieijoclahcipaa.PChansPut Go.Proofs.Ytieijoclahcipaa.Vm

theorem numbers_go (l : List Int) (hl : l.length ≤ 9223372036854775807) : ∀ (n k i : Nat), i + n = l.length → n < k → spinneretref12_Numbers.l0 k l l (i : Int) = some true := by
  intro n
  induction n with
  | zero =>
    intro k i hi hk
    obtain ⟨k, rfl⟩ : ∃ j, k = j + 1 := ⟨k - 1, by omega⟩
    simp only [spinneretref12_Numbers.l0]
    rw [if_neg (by omega)]
  | succ n ih =>
    intro k i hi hk
    obtain ⟨k, rfl⟩ : ∃ j, k = j + 1 := ⟨k - 1, by omega⟩
    simp only [spinneretref12_Numbers.l0]
    have hw : wrap64 ((i : Int) + 1) = ((i + 1 : Nat) : Int) := by rw [wrap64_id (by omega) (by omega)]; omega
    rw [if_pos (by omega), if_pos (by omega), if_pos trivial, hw, if_pos (by omega)]
    exact ih k (i + 1) (by omega) (by omega)

theorem numbers_same (l : List Int) (k : Nat) (hl : l.length ≤ 9223372036854775807) (hk : l.length < k) : spinneretref12_Numbers.f k l l = some true := by
  unfold spinneretref12_Numbers.f
  rw [if_pos rfl]
  exact numbers_go l hl l.length k 0 (by omega) hk

/-- The longest message. -/
def longest : List (List Int) → Nat
  | [] => 0
  | y :: q => y.length + longest q
theorem longest_le {q : List (List Int)} {y : List Int} (h : y ∈ q) : y.length ≤ longest q := by
  induction q with
  | nil => cases h
  | cons z q ih =>
    rcases List.mem_cons.1 h with rfl | h
    · simp [longest]
    · have := ih h
      simp [longest]
      omega

theorem same_go (q : List (List Int)) (sh : Int) (hl : q.length ≤ 9223372036854775807) (hq : ∀ y, y ∈ q → y.length ≤ 9223372036854775807) : ∀ (n k i : Nat), i + n = q.length → n + longest q + 1 < k → spinneretref12_SameChan.l0 k (i : Int) sh q sh q = some true := by
  intro n
  induction n with
  | zero =>
    intro k i hi hk
    obtain ⟨k, rfl⟩ : ∃ j, k = j + 1 := ⟨k - 1, by omega⟩
    simp only [spinneretref12_SameChan.l0]
    rw [if_neg (by omega)]
  | succ n ih =>
    intro k i hi hk
    obtain ⟨k, rfl⟩ : ∃ j, k = j + 1 := ⟨k - 1, by omega⟩
    simp only [spinneretref12_SameChan.l0]
    have hil : i < q.length := by omega
    have hrd : rd_L1 q (i : Int) = q[i] := by
      unfold rd_L1
      rw [Int.toNat_natCast, List.getD_eq_getElem?_getD, List.getElem?_eq_getElem hil]
      rfl
    have hw : wrap64 ((i : Int) + 1) = ((i + 1 : Nat) : Int) := by rw [wrap64_id (by omega) (by omega)]; omega
    have hlo := longest_le (List.getElem_mem hil)
    rw [if_pos (by omega), if_pos (by omega), hrd, numbers_same q[i] k (hq _ (List.getElem_mem hil)) (by omega)]
    simp only [Option.bind_some, if_true]
    rw [hw, if_pos (by omega)]
    exact ih k (i + 1) (by omega) (by omega)

theorem same_chan (q : List (List Int)) (sh : Int) (hl : q.length ≤ 9223372036854775807) (hq : ∀ y, y ∈ q → y.length ≤ 9223372036854775807) : spinneretref12_SameChan.f (q.length + longest q + 3) sh q sh q = some true := by
  unfold spinneretref12_SameChan.f
  rw [if_pos rfl]
  simp only [spinneretref12_SameChan.j0]
  rw [if_neg (by simp)]
  exact same_go q sh hl hq q.length _ 0 (by omega) (by omega)
end Go.Proofs.Ytieijoclahcipaa.Ch
