/- The order of messages, and what a sorted put leaves: in plain lists. No condition. -/
import Derived.Test.YtieijoclahcipaaChH
namespace Go.Proofs.Ytieijoclahcipaa.Ch

theorem lessL_nil_nil : lessL [] [] = false := by simp [lessL]
theorem lessL_nil_cons (y : Int) (b : List Int) : lessL [] (y :: b) = true := by simp [lessL]
theorem lessL_cons_nil (x : Int) (a : List Int) : lessL (x :: a) [] = false := by simp [lessL]
theorem lessL_cons (x y : Int) (a b : List Int) : lessL (x :: a) (y :: b) = if x = y then lessL a b else decide (x < y) := by simp [lessL]

theorem lessL_irrefl : ∀ x : List Int, lessL x x = false
  | [] => lessL_nil_nil
  | x :: a => by rw [lessL_cons, if_pos rfl]; exact lessL_irrefl a

theorem lessL_trans : ∀ x y z : List Int, lessL x y = true → lessL y z = true → lessL x z = true
  | [], [], _, h, _ => by rw [lessL_nil_nil] at h; cases h
  | [], _ :: _, [], _, h => by rw [lessL_cons_nil] at h; cases h
  | [], _ :: _, _ :: _, _, _ => lessL_nil_cons _ _
  | _ :: _, [], _, h, _ => by rw [lessL_cons_nil] at h; cases h
  | _ :: _, _ :: _, [], _, h => by rw [lessL_cons_nil] at h; cases h
  | x :: a, y :: b, z :: c, h1, h2 => by
    rw [lessL_cons] at h1 h2 ⊢
    by_cases e1 : x = y
    · subst e1
      rw [if_pos rfl] at h1
      by_cases e2 : x = z
      · rw [if_pos e2] at h2 ⊢
        exact lessL_trans a b c h1 h2
      · rw [if_neg e2] at h2 ⊢
        exact h2
    · rw [if_neg e1] at h1
      have l1 := of_decide_eq_true h1
      by_cases e2 : y = z
      · subst e2
        rw [if_neg e1]
        exact h1
      · rw [if_neg e2] at h2
        have l2 := of_decide_eq_true h2
        rw [if_neg (by omega)]
        exact decide_eq_true (by omega)

theorem lessL_asymm (x y : List Int) (h : lessL x y = true) : lessL y x = false := by
  cases h2 : lessL y x with
  | false => rfl
  | true =>
    have := lessL_trans x y x h h2
    rw [lessL_irrefl] at this
    cases this

theorem lessL_total : ∀ x y : List Int, lessL x y = false → lessL y x = false → x = y
  | [], [], _, _ => rfl
  | [], _ :: _, h, _ => by rw [lessL_nil_cons] at h; cases h
  | _ :: _, [], _, h => by rw [lessL_nil_cons] at h; cases h
  | x :: a, y :: b, h1, h2 => by
    rw [lessL_cons] at h1 h2
    by_cases e : x = y
    · subst e
      rw [if_pos rfl] at h1 h2
      rw [lessL_total a b h1 h2]
    · rw [if_neg e] at h1
      rw [if_neg (fun h => e h.symm)] at h2
      have l1 := of_decide_eq_false h1
      have l2 := of_decide_eq_false h2
      omega

/-- Nothing that stands ahead is greater. -/
def Rises (q : List (List Int)) : Prop := q.Pairwise (fun x y => lessL y x = false)

theorem lessL_mono (x z z' : List Int) (h : lessL x z = true) (hz : lessL z' z = false) : lessL z' x = false := by
  cases h2 : lessL z' x with
  | false => rfl
  | true =>
    have := lessL_trans z' x z h2 h
    rw [hz] at this
    cases this

/-- A sorted queue stays sorted. -/
theorem rises_ins (x : List Int) (q : List (List Int)) (h : Rises q) : Rises (insL true x q) := by
  unfold insL
  simp only [if_true, spot]
  induction q with
  | nil => simp [Rises]
  | cons y q ih =>
    have hp := List.pairwise_cons.1 h
    rw [List.findIdx_cons]
    cases hy : lessL x y with
    | true =>
      simp only [cond_true, List.take_zero, List.drop_zero, List.nil_append, List.singleton_append]
      refine List.pairwise_cons.2 ⟨fun z hz => ?_, h⟩
      rcases List.mem_cons.1 hz with rfl | hz
      · exact lessL_asymm x _ hy
      · exact lessL_mono x y z hy (hp.1 z hz)
    | false =>
      simp only [cond_false, List.take_succ_cons, List.drop_succ_cons, List.cons_append]
      refine List.pairwise_cons.2 ⟨fun z hz => ?_, ih hp.2⟩
      rcases List.mem_append.1 hz with hz | hz
      · rcases List.mem_append.1 hz with hz | hz
        · exact hp.1 z (List.mem_of_mem_take hz)
        · rw [List.mem_singleton.1 hz]; exact hy
      · exact hp.1 z (List.mem_of_mem_drop hz)

/-- What stands ahead of a sorted queue is put there again. -/
theorem ins_head (x : List Int) (q : List (List Int)) (h : Rises (x :: q)) : insL true x q = x :: q := by
  unfold insL
  simp only [if_true, spot]
  have hp := List.pairwise_cons.1 h
  induction q with
  | nil => simp
  | cons y q ih =>
    rw [List.findIdx_cons]
    cases hy : lessL x y with
    | true => simp
    | false =>
      have e : x = y := lessL_total x y hy (hp.1 y List.mem_cons_self)
      subst e
      simp only [cond_false, List.take_succ_cons, List.drop_succ_cons, List.cons_append]
      have h2 : Rises (x :: q) := hp.2
      rw [ih h2 (List.pairwise_cons.1 h2)]

theorem insL_len (so : Bool) (x : List Int) (q : List (List Int)) : (insL so x q).length = q.length + 1 := by
  unfold insL
  cases so
  · simp
  · simp only [if_true]
    have h : spot x q ≤ q.length := List.findIdx_le_length
    simp
    omega

theorem insL_mem {so : Bool} {x y : List Int} {q : List (List Int)} (h : y ∈ insL so x q) : y = x ∨ y ∈ q := by
  unfold insL at h
  rcases List.mem_append.1 h with h | h
  · rcases List.mem_append.1 h with h | h
    · exact Or.inr (List.mem_of_mem_take h)
    · exact Or.inl (List.mem_singleton.1 h)
  · exact Or.inr (List.mem_of_mem_drop h)

/-- A fitted message is fitted. -/
theorem fitsL_fitsL : ∀ (fs : List PChansPut.S47) (m : List Int), fitsL fs (fitsL fs m) = fitsL fs m
  | [], _ => by simp [fitsL]
  | _ :: _, [] => by simp [fitsL]
  | t :: fs, v :: m => by
    have h := fitsL_fitsL fs m
    unfold fitsL at h ⊢
    simp only [List.zipWith_cons_cons]
    rw [Vm.fitv_fitv, h]

/-- A put that is done. -/
theorem put_done {room : Int} {fs : List PChansPut.S47} {q : List (List Int)} {m : List Int} (h : putE room fs q m = 0) : m.length = fs.length ∧ (∀ t, t ∈ fs → typeL t.f0 t.f1 = true) ∧ (q.length : Int) < room ∧ (∀ so, putQ room fs q m so = insL so (fitsL fs m) q) ∧ putS 0 room fs q m = 0 := by
  have h0 := h
  unfold putE at h
  split at h
  · cases h
  · rename_i h1
    split at h
    · cases h
    · rename_i h2
      split at h
      · cases h
      · rename_i h3
        refine ⟨by omega, fun t ht => ?_, by omega, fun so => ?_, ?_⟩
        · cases e : typeL t.f0 t.f1 with
          | true => rfl
          | false => exact absurd ⟨t, ht, e⟩ h2
        · unfold putQ
          rw [if_pos h0]
        · unfold putS
          split <;> rfl

/-- A put that may be done. -/
theorem put_may {room : Int} {fs : List PChansPut.S47} {q : List (List Int)} {m : List Int} (h1 : m.length = fs.length) (h2 : ∀ t, t ∈ fs → typeL t.f0 t.f1 = true) (h3 : (q.length : Int) < room) : putE room fs q m = 0 := by
  unfold putE
  rw [if_neg (by omega), if_neg (fun ⟨t, ht, e⟩ => by rw [h2 t ht] at e; cases e), if_neg (by omega)]
end Go.Proofs.Ytieijoclahcipaa.Ch
