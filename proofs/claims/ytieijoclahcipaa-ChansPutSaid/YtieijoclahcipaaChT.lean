/- What the document's put makes, in plain lists. Condition: rows shorter than 2^63. -/
import Derived.Test.YtieijoclahcipaaChS
namespace Go.Proofs.Ytieijoclahcipaa.Ch
open Go.RowKit Go.Proofs.YtieijoclahcipaaW.PrintWords Go.Proofs.YtieijoclahcipaaW.PrintLast Go.Proofs.YtieijoclahcipaaW.PrintMore Go.Proofs.Ytieijoclahcipaa.PChansPut Go.Proofs.Ytieijoclahcipaa.Vm

theorem rd_at (a : List Int) (i : Nat) (h : i < a.length) : rd a (i : Int) = a[i] := by
  unfold rd
  rw [Int.toNat_natCast, List.getD_eq_getElem?_getD, List.getElem?_eq_getElem h]
  rfl

theorem less_go (a b : List Int) (ha : a.length ≤ 9223372036854775807) : ∀ (n k i : Nat), i + n = a.length → i ≤ b.length → 2 * n + 2 < k → (∀ j, j < i → a[j]? = b[j]?) → spinneretref13_Less.l0 k a b (i : Int) = some (lessL a b) := by
  intro n
  induction n with
  | zero =>
    intro k i hi hib hk hp
    obtain ⟨k, rfl⟩ : ∃ j, k = j + 2 := ⟨k - 2, by omega⟩
    simp only [spinneretref13_Less.l0, spinneretref13_Less.j1]
    rw [if_neg (by omega), if_neg (by decide), lessL_end i a b (by omega) hib hp (by omega)]
    simp
  | succ n ih =>
    intro k i hi hib hk hp
    obtain ⟨k, rfl⟩ : ∃ j, k = j + 2 := ⟨k - 2, by omega⟩
    simp only [spinneretref13_Less.l0, spinneretref13_Less.j1]
    rw [if_pos (by omega)]
    by_cases hb : i < b.length
    · have hw : wrap64 ((i : Int) + 1) = ((i + 1 : Nat) : Int) := by rw [wrap64_id (by omega) (by omega)]; omega
      rw [if_pos (decide_eq_true (by omega)), if_pos (by omega), if_pos (by omega), if_pos (by omega), rd_at a i (by omega), rd_at b i hb, hw]
      by_cases e : a[i] = b[i]
      · rw [if_pos e]
        refine ih k (i + 1) (by omega) (by omega) (by omega) (fun j hj => ?_)
        by_cases ej : j = i
        · subst ej
          rw [List.getElem?_eq_getElem (by omega), List.getElem?_eq_getElem hb, e]
        · exact hp j (by omega)
      · rw [if_neg e, lessL_differ i a b (by omega) hb hp e]
    · rw [if_neg (by simpa using hb), lessL_end i a b (by omega) hib hp (by omega)]
      simp

theorem ref_less (a b : List Int) (ha : a.length ≤ 9223372036854775807) : spinneretref13_Less.f (2 * a.length + 3) a b = some (lessL a b) := by
  unfold spinneretref13_Less.f
  exact less_go a b ha a.length _ 0 (by omega) (by omega) (by omega) (fun j hj => absurd hj (Nat.not_lt_zero _))

/-- Has the new message been put ahead of the i-th? -/
def putDone (so : Bool) (x : List Int) (q : List (List Int)) (i : Nat) : Bool := so && decide (spot x q < i)
/-- The queue that the document's put has made when it has come to the i-th message. -/
def putUpto (so : Bool) (x : List Int) (q : List (List Int)) (i : Nat) : List (List Int) :=
  if putDone so x q i = true then q.take (spot x q) ++ [x] ++ (q.take i).drop (spot x q) else q.take i

theorem putDone_zero (so : Bool) (x : List Int) (q : List (List Int)) : putDone so x q 0 = false := by simp [putDone]
theorem putUpto_zero (so : Bool) (x : List Int) (q : List (List Int)) : putUpto so x q 0 = [] := by simp [putUpto, putDone_zero]

theorem putUpto_len (so : Bool) (x : List Int) (q : List (List Int)) (i : Nat) (hi : i ≤ q.length) : (putUpto so x q i).length = if putDone so x q i = true then i + 1 else i := by
  unfold putUpto
  split
  · rename_i h
    simp [putDone] at h
    simp
    omega
  · simp
    omega

/-- It is put ahead of this one. -/
theorem put_here (x : List Int) (q : List (List Int)) (i : Nat) (hi : i < q.length) (hd : putDone true x q i = false) (hl : lessL x q[i] = true) : spot x q = i := by
  have hd' : i ≤ spot x q := by simpa [putDone] using hd
  have hd2 : i ≤ q.findIdx (fun y => lessL x y) := hd'
  show q.findIdx (fun y => lessL x y) = i
  have h1 : q.findIdx (fun y => lessL x y) < q.length := List.findIdx_lt_length_of_exists ⟨q[i], List.getElem_mem hi, hl⟩
  rcases Nat.lt_or_ge i (q.findIdx (fun y => lessL x y)) with h | h
  · have := List.not_of_lt_findIdx h
    simp [hl] at this
  · omega

theorem put_step_here (x : List Int) (q : List (List Int)) (i : Nat) (hi : i < q.length) (hd : putDone true x q i = false) (hl : lessL x q[i] = true) : putUpto true x q i ++ [x] ++ [q[i]] = putUpto true x q (i + 1) ∧ putDone true x q (i + 1) = true := by
  have e := put_here x q i hi hd hl
  have h2 : putDone true x q (i + 1) = true := by simp [putDone]; omega
  refine ⟨?_, h2⟩
  have e2 : (q.take (i + 1)).drop i = [q[i]] := by
    rw [List.take_add_one, List.getElem?_eq_getElem hi, List.drop_append_of_le_length (by simp; omega)]
    simp
  unfold putUpto
  rw [if_pos h2, if_neg (by rw [hd]; decide), e, e2]

theorem put_step_on (so : Bool) (x : List Int) (q : List (List Int)) (i : Nat) (hi : i < q.length) (h : so = false ∨ putDone so x q i = true ∨ lessL x q[i] = false) : putUpto so x q i ++ [q[i]] = putUpto so x q (i + 1) ∧ putDone so x q (i + 1) = putDone so x q i := by
  have e2 : q.take (i + 1) = q.take i ++ [q[i]] := by rw [List.take_add_one, List.getElem?_eq_getElem hi]; rfl
  by_cases hd : putDone so x q i = true
  · have h2 : putDone so x q (i + 1) = true := by
      simp [putDone] at hd ⊢
      exact ⟨hd.1, by omega⟩
    refine ⟨?_, by rw [hd, h2]⟩
    unfold putUpto
    simp [putDone] at hd
    rw [if_pos h2, if_pos (by simp [putDone, hd]), e2, List.drop_append_of_le_length (by simp; omega)]
    simp
  · have hd' : putDone so x q i = false := by simpa using hd
    have h2 : putDone so x q (i + 1) = false := by
      rcases h with h | h | h
      · simp [putDone, h]
      · exact absurd h hd
      · cases so
        · simp [putDone]
        · simp [putDone] at hd' ⊢
          rcases Nat.lt_or_ge i (spot x q) with h3 | h3
          · exact h3
          · exfalso
            have e3 : spot x q = i := by omega
            have h4 : q.findIdx (fun y => lessL x y) = i := e3
            have := List.findIdx_getElem (xs := q) (p := fun y => lessL x y) (w := by rw [h4]; exact hi)
            simp only [h4, h] at this
            cases this
    refine ⟨?_, by rw [hd', h2]⟩
    unfold putUpto
    simp only [h2, hd', e2]
    simp

theorem put_end (so : Bool) (x : List Int) (q : List (List Int)) : insL so x q = if putDone so x q q.length = true then putUpto so x q q.length else putUpto so x q q.length ++ [x] := by
  unfold insL putUpto
  cases so
  · simp [putDone]
  · have hle : spot x q ≤ q.length := List.findIdx_le_length
    by_cases h : spot x q < q.length
    · simp [putDone, h]
    · have e : spot x q = q.length := by omega
      simp [putDone, e]
end Go.Proofs.Ytieijoclahcipaa.Ch
