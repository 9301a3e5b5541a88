/- Plain Lean, no program: a table of slots that is searched from a text's own place on. -/
namespace Go.Proofs.Ytihlndgnkhlphaa.Sm

section
variable {K : Type} (H : K → Nat) (keys : List K) (slots : List Nat) (key : K)

/-- Here a search for a text ends: the slot is empty, or bears its number. -/
def Stop (i : Nat) : Prop := slots[i]? = some 0 ∨ ∃ n, slots[i]? = some (n + 1) ∧ keys[n]? = some key

def place (d : Nat) : Nat := (H key + d) % slots.length

/-- A search ends after d steps. -/
def Found (d : Nat) : Prop := Stop keys slots key (place H slots key d) ∧ ∀ e, e < d → ¬ Stop keys slots key (place H slots key e)

/-- The first j texts stand in the slots. -/
structure Inv (j : Nat) : Prop where
  le : j ≤ keys.length
  pos : 0 < slots.length
  small : ∀ (i n : Nat), slots[i]? = some (n + 1) → n < j
  there : ∀ (n : Nat) (k : K), n < j → keys[n]? = some k → ∃ d, Found H keys slots k d ∧ slots[place H slots k d]? = some (n + 1)
  free : slots.count 0 + j = slots.length
end

section
variable {K : Type} {H : K → Nat} {keys : List K} {slots : List Nat} {key : K}

theorem place_lt (hp : 0 < slots.length) (d : Nat) : place H slots key d < slots.length := Nat.mod_lt _ hp

theorem found_unique {d d' : Nat} (h : Found H keys slots key d) (h' : Found H keys slots key d') : d = d' := by
  rcases Nat.lt_trichotomy d d' with a | a | a
  · exact absurd h.1 (h'.2 d a)
  · exact a
  · exact absurd h'.1 (h.2 d' a)

theorem first_stop (d : Nat) : Stop keys slots key (place H slots key d) → ∃ d', Found H keys slots key d' := by
  induction d using Nat.strongRecOn with
  | _ d ih =>
    intro h
    by_cases hh : ∃ e, e < d ∧ Stop keys slots key (place H slots key e)
    · obtain ⟨e, he, hs⟩ := hh
      exact ih e he hs
    · exact ⟨d, h, fun e he hs => hh ⟨e, he, hs⟩⟩

theorem count_pos_index : ∀ (l : List Nat), 0 < l.count 0 → ∃ i : Nat, l[i]? = some 0
  | [], h => by simp at h
  | a :: l, h => by
    by_cases ha : a = 0
    · exact ⟨0, by simp [ha]⟩
    · have : 0 < l.count 0 := by
        rw [List.count_cons] at h
        simpa [ha] using h
      obtain ⟨i, hi⟩ := count_pos_index l this
      exact ⟨i + 1, by simpa using hi⟩

theorem exists_found {j : Nat} (hI : Inv H keys slots j) (hj : j < slots.length) (key : K) : ∃ d, Found H keys slots key d := by
  have hf := hI.free
  obtain ⟨z, hz⟩ := count_pos_index slots (by omega)
  have hzl : z < slots.length := by
    rcases Nat.lt_or_ge z slots.length with h | h
    · exact h
    · rw [List.getElem?_eq_none h] at hz; cases hz
  have hpl : place H slots key (z + (slots.length - H key % slots.length)) = z := by
    unfold place
    have hm := Nat.mod_lt (H key) hI.pos
    have e : H key = slots.length * (H key / slots.length) + H key % slots.length := (Nat.div_add_mod _ _).symm
    have e2 : H key + (z + (slots.length - H key % slots.length)) = z + slots.length * (H key / slots.length + 1) := by
      rw [Nat.mul_add]; omega
    rw [e2, Nat.add_mul_mod_self_left, Nat.mod_eq_of_lt hzl]
  exact first_stop _ (by rw [hpl]; exact Or.inl hz)

/-- No two of the texts that stand there are one. -/
theorem Inv.apart {j : Nat} (hI : Inv H keys slots j) {n n' : Nat} {k : K} (hn : n < j) (hn' : n' < j) (h : keys[n]? = some k) (h' : keys[n']? = some k) : n = n' := by
  obtain ⟨d, hd, e⟩ := hI.there n k hn h
  obtain ⟨d', hd', e'⟩ := hI.there n' k hn' h'
  have := found_unique hd hd'
  subst this
  rw [e] at e'
  simpa using e'

/-- A search that ends at an empty slot: the text isn't there. -/
theorem Inv.absent {j d : Nat} (hI : Inv H keys slots j) (hd : Found H keys slots key d) (hz : slots[place H slots key d]? = some 0) {n : Nat} (hn : n < j) : keys[n]? ≠ some key := by
  intro h
  obtain ⟨d', hd', e'⟩ := hI.there n key hn h
  have := found_unique hd hd'
  subst this
  rw [hz] at e'
  simp at e'

/-- A search that ends at another slot has found the text. -/
theorem Inv.present {d n : Nat} (hd : Found H keys slots key d) (hz : slots[place H slots key d]? = some (n + 1)) : keys[n]? = some key := by
  rcases hd.1 with h | ⟨n', h, h'⟩
  · rw [hz] at h; simp at h
  · rw [hz] at h
    simp at h
    subst h
    exact h'

theorem count_set : ∀ (l : List Nat) (i v : Nat), l[i]? = some 0 → v ≠ 0 → (l.set i v).count 0 + 1 = l.count 0
  | [], _, _, h, _ => by simp at h
  | a :: l, 0, v, h, hv => by
    simp at h
    subst h
    simp [hv]
  | a :: l, i + 1, v, h, hv => by
    have := count_set l i v (by simpa using h) hv
    simp only [List.set_cons_succ, List.count_cons]
    omega

theorem set_get {l : List Nat} {i v x : Nat} (h : i < l.length) : (l.set i v)[x]? = if x = i then some v else l[x]? := by
  rw [List.getElem?_set]
  by_cases e : i = x
  · subst e; simp [h]
  · rw [if_neg e, if_neg (fun h => e h.symm)]

/-- One text more is put where its search ends. -/
theorem Inv.insert {j d : Nat} (hI : Inv H keys slots j) (hk : keys[j]? = some key) (hd : Found H keys slots key d) (hz : slots[place H slots key d]? = some 0) :
    Inv H keys (slots.set (place H slots key d) (j + 1)) (j + 1) := by
  have hjl : j < keys.length := by
    rcases Nat.lt_or_ge j keys.length with h | h
    · exact h
    · rw [List.getElem?_eq_none h] at hk; cases hk
  have hlt := place_lt (H := H) (key := key) hI.pos d
  have hplace : ∀ k e, place H (slots.set (place H slots key d) (j + 1)) k e = place H slots k e := by
    intro k e; unfold place; rw [List.length_set]
  generalize hi0 : place H slots key d = i0 at *
  have hget : ∀ x, (slots.set i0 (j + 1))[x]? = if x = i0 then some (j + 1) else slots[x]? := fun x => set_get hlt
  refine ⟨hjl, by rw [List.length_set]; exact hI.pos, ?_, ?_, ?_⟩
  · intro i n h
    rw [hget] at h
    split at h
    · simp at h; omega
    · have := hI.small i n h; omega
  · intro n k hn hkn
    rcases Nat.lt_or_ge n j with hnj | hnj
    · obtain ⟨d', hd', e'⟩ := hI.there n k hnj hkn
      have hne : place H slots k d' ≠ i0 := by
        intro e; rw [e, hz] at e'; simp at e'
      refine ⟨d', ⟨?_, ?_⟩, ?_⟩
      · rw [hplace]
        right
        exact ⟨n, by rw [hget, if_neg hne]; exact e', hkn⟩
      · intro e he hs
        rw [hplace] at hs
        refine hd'.2 e he ?_
        rcases hs with hs | ⟨n', hs, hk'⟩
        · rw [hget] at hs
          split at hs
          · simp at hs
          · exact Or.inl hs
        · rw [hget] at hs
          split at hs
          · rename_i ei
            rw [ei]
            exact Or.inl hz
          · exact Or.inr ⟨n', hs, hk'⟩
      · rw [hplace, hget, if_neg hne]; exact e'
    · have : n = j := by omega
      subst this
      rw [hk] at hkn
      simp at hkn
      subst hkn
      refine ⟨d, ⟨?_, ?_⟩, ?_⟩
      · rw [hplace, hi0]
        exact Or.inr ⟨n, by rw [hget, if_pos rfl], hk⟩
      · intro e he hs
        rw [hplace] at hs
        have hno := hd.2 e he
        rcases hs with hs | ⟨n', hs, hk'⟩
        · rw [hget] at hs
          split at hs
          · simp at hs
          · exact hno (Or.inl hs)
        · rw [hget] at hs
          split at hs
          · rename_i ei
            exact hno (by rw [ei]; exact Or.inl hz)
          · exact hno (Or.inr ⟨n', hs, hk'⟩)
      · rw [hplace, hi0, hget, if_pos rfl]
  · have := count_set slots i0 (j + 1) hz (by omega)
    have := hI.free
    rw [List.length_set]
    omega

theorem Inv.empty (m : Nat) (hm : 0 < m) (keys : List K) : Inv H keys (List.replicate m 0) 0 := by
  refine ⟨Nat.zero_le _, by simpa using hm, ?_, ?_, by simp⟩
  · intro i n h
    rw [List.getElem?_replicate] at h
    split at h <;> simp at h
  · intro n k hn; omega

/-- A text more behind all changes nothing of what stands there. -/
theorem Inv.snoc {j : Nat} (hI : Inv H keys slots j) (k : K) : Inv H (keys ++ [k]) slots j := by
  have hget : ∀ n, n < j → (keys ++ [k])[n]? = keys[n]? := fun n hn => List.getElem?_append_left (by have := hI.le; omega)
  have hstop : ∀ q i, Stop (keys ++ [k]) slots q i ↔ Stop keys slots q i := by
    intro q i
    unfold Stop
    constructor
    · rintro (h | ⟨n, h, h'⟩)
      · exact Or.inl h
      · exact Or.inr ⟨n, h, by rw [← hget n (hI.small i n h)]; exact h'⟩
    · rintro (h | ⟨n, h, h'⟩)
      · exact Or.inl h
      · exact Or.inr ⟨n, h, by rw [hget n (hI.small i n h)]; exact h'⟩
  have hfound : ∀ q d, Found H keys slots q d → Found H (keys ++ [k]) slots q d := fun q d h => ⟨(hstop _ _).mpr h.1, fun e he hs => h.2 e he ((hstop _ _).mp hs)⟩
  refine ⟨by have := hI.le; simp; omega, hI.pos, hI.small, ?_, hI.free⟩
  intro n q hn hq
  rw [hget n hn] at hq
  obtain ⟨d, hd, e⟩ := hI.there n q hn hq
  exact ⟨d, hfound q d hd, e⟩

theorem found_snoc {j d : Nat} (hI : Inv H keys slots j) (k q : K) (h : Found H keys slots q d) : Found H (keys ++ [k]) slots q d := by
  have hget : ∀ n, n < j → (keys ++ [k])[n]? = keys[n]? := fun n hn => List.getElem?_append_left (by have := hI.le; omega)
  have hstop : ∀ q i, Stop (keys ++ [k]) slots q i ↔ Stop keys slots q i := by
    intro q i
    unfold Stop
    constructor
    · rintro (h | ⟨n, h, h'⟩)
      · exact Or.inl h
      · exact Or.inr ⟨n, h, by rw [← hget n (hI.small i n h)]; exact h'⟩
    · rintro (h | ⟨n, h, h'⟩)
      · exact Or.inl h
      · exact Or.inr ⟨n, h, by rw [hget n (hI.small i n h)]; exact h'⟩
  exact ⟨(hstop _ _).mpr h.1, fun e he hs => h.2 e he ((hstop _ _).mp hs)⟩
end
end Go.Proofs.Ytihlndgnkhlphaa.Sm
