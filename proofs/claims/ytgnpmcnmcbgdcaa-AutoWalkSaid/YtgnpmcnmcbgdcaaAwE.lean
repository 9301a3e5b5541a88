/- How the places of a proctype are numbered: in plain lists. No condition. -/
import Derived.Test.YtgnpmcnmcbgdcaaAwD
set_option linter.unusedSimpArgs false
set_option linter.unusedVariables false
namespace Go.Proofs.Ytgnpmcnmcbgdcaa.Aw
open Go.RowKit Go.Proofs.YtgnpmcnmcbgdcaaW.PrintWords Go.Proofs.YtgnpmcnmcbgdcaaW.PrintLast Go.Proofs.YtgnpmcnmcbgdcaaW.PrintMore Go.Proofs.Ytgnpmcnmcbgdcaa.PAutoWalk

/-- The ways of a place, escapes behind. -/
def ways (l : S36) : List S40 := l.f0 ++ l.f1.flatten
/-- May it be walked? -/
def okL (locs : List S36) (rts : List Int) : Bool := rts.all (insideL locs.length) && locs.all (fun l => (ways l).all (fun w => insideL locs.length w.f1))
/-- Places that ways lead to are met. -/
def meetsL (s : List Int × List Int) (ws : List S40) : List Int × List Int := ws.foldl (fun s w => meetL s w.f1) s
/-- All that is led to from the places that were met is met. -/
def drainL (locs : List S36) : Nat → List Int × List Int → Nat → List Int × List Int
  | 0, s, _ => s
  | k + 1, s, d => if d < s.2.length then drainL locs k (meetsL s (ways (locs.getD (s.2.getD d 0).toNat z36))) (d + 1) else s
/-- From some places on. -/
def runL (locs : List S36) (s : List Int × List Int) : List Int → List Int × List Int
  | [] => s
  | r :: rs => runL locs (drainL locs (locs.length + 1) (meetL s r) s.2.length) rs
/-- The numbers and the order. -/
def numL (locs : List S36) (st fi : Int) (more : List Int) : List Int × List Int := meetL (runL locs (List.replicate locs.length (-1), []) (st :: more)) fi
/-- A place by new numbers. -/
def reWays (num : List Int) (ws : List S40) : List S40 := ws.map (fun w => toL (num.getD w.f1.toNat 0) w)
def rePlace (num : List Int) (l : S36) : S36 := ⟨reWays num l.f0, l.f1.map (reWays num), l.f2, l.f3, l.f4, l.f5, l.f6⟩

def negs (l : List Int) : Nat := l.countP (fun x => decide (x < 0))
theorem negs_set : ∀ (l : List Int) (i : Nat) (v : Int), i < l.length → l.getD i 0 < 0 → 0 ≤ v → negs (l.set i v) + 1 = negs l
  | [], i, v, h, _, _ => by simp at h
  | x :: l, 0, v, _, h, hv => by
    have h : x < 0 := by simpa using h
    unfold negs
    rw [List.set_cons_zero, List.countP_cons, List.countP_cons]
    simp [h, show ¬ v < 0 by omega]
  | x :: l, i + 1, v, hl, h, hv => by
    have ih := negs_set l i v (by simpa using hl) (by simpa using h) hv
    unfold negs at ih ⊢
    rw [List.set_cons_succ, List.countP_cons, List.countP_cons]
    omega

/-- What holds of numbers and order. -/
structure Good (n : Nat) (s : List Int × List Int) : Prop where
  len : s.1.length = n
  inn : ∀ x, x ∈ s.2 → 0 ≤ x ∧ x < n
  cnt : negs s.1 + s.2.length = n
theorem Good.le {n : Nat} {s : List Int × List Int} (h : Good n s) : s.2.length ≤ n := by have := h.cnt; omega

theorem good_new (n : Nat) : Good n (List.replicate n (-1), []) := ⟨by simp, fun x hx => by simp at hx, by simp [negs, List.countP_replicate]⟩

theorem good_meet {n : Nat} {s : List Int × List Int} (h : Good n s) (i : Int) (hi : 0 ≤ i ∧ i < n) : Good n (meetL s i) ∧ s.2.length ≤ (meetL s i).2.length := by
  unfold meetL
  split
  · rename_i hv
    refine ⟨⟨by simpa using h.len, fun x hx => ?_, ?_⟩, by simp⟩
    · rcases List.mem_append.1 hx with hx | hx
      · exact h.inn x hx
      · rw [List.mem_singleton.1 hx]
        exact hi
    · have := negs_set s.1 i.toNat (s.2.length : Int) (by rw [h.len]; omega) hv (by omega)
      have := h.cnt
      simp
      omega
  · exact ⟨h, Nat.le_refl _⟩

theorem good_meets {n : Nat} (ws : List S40) : ∀ {s : List Int × List Int}, Good n s → (∀ w, w ∈ ws → insideL n w.f1 = true) → Good n (meetsL s ws) ∧ s.2.length ≤ (meetsL s ws).2.length := by
  induction ws with
  | nil => intro s h _; exact ⟨h, Nat.le_refl _⟩
  | cons w ws ih =>
    intro s h hw
    have h1 := good_meet h w.f1 (by simpa [insideL] using hw w List.mem_cons_self)
    have h2 := ih h1.1 (fun x hx => hw x (List.mem_cons_of_mem _ hx))
    exact ⟨h2.1, Nat.le_trans h1.2 h2.2⟩

theorem meetsL_snoc (s : List Int × List Int) (ws : List S40) (w : S40) : meetsL s (ws ++ [w]) = meetL (meetsL s ws) w.f1 := by simp [meetsL]
theorem meetsL_nil (s : List Int × List Int) : meetsL s [] = s := rfl

theorem drain_end (locs : List S36) (k : Nat) (s : List Int × List Int) (d : Nat) (h : s.2.length ≤ d) : drainL locs k s d = s := by
  cases k with
  | zero => rfl
  | succ k => simp only [drainL]; rw [if_neg (by omega)]
theorem drain_step (locs : List S36) (k : Nat) (s : List Int × List Int) (d : Nat) (h : d < s.2.length) : drainL locs (k + 1) s d = drainL locs k (meetsL s (ways (locs.getD (s.2.getD d 0).toNat z36))) (d + 1) := by
  simp only [drainL]; rw [if_pos h]
theorem run_snoc (locs : List S36) (r : Int) : ∀ (rs : List Int) (s : List Int × List Int), runL locs s (rs ++ [r]) = drainL locs (locs.length + 1) (meetL (runL locs s rs) r) (runL locs s rs).2.length
  | [], s => rfl
  | x :: rs, s => run_snoc locs r rs _

theorem ok_loc {locs : List S36} {rts : List Int} (h : okL locs rts = true) (i : Nat) (hi : i < locs.length) : ∀ w, w ∈ ways locs[i] → insideL locs.length w.f1 = true := by
  unfold okL at h
  simp only [Bool.and_eq_true, List.all_eq_true] at h
  exact h.2 _ (List.getElem_mem hi)
theorem ok_root {locs : List S36} {rts : List Int} (h : okL locs rts = true) {r : Int} (hr : r ∈ rts) : 0 ≤ r ∧ r < locs.length := by
  unfold okL at h
  simp only [Bool.and_eq_true, List.all_eq_true] at h
  simpa [insideL] using h.1 r hr
theorem insideL_iff (n : Nat) (i : Int) : insideL n i = true ↔ 0 ≤ i ∧ i < n := by simp [insideL]

theorem good_drain {locs : List S36} {rts : List Int} (hok : okL locs rts = true) : ∀ (k : Nat) {s : List Int × List Int} (d : Nat), Good locs.length s → Good locs.length (drainL locs k s d)
  | 0, s, d, h => h
  | k + 1, s, d, h => by
    simp only [drainL]
    split
    · rename_i hd
      have hx := h.inn (s.2.getD d 0) (by rw [List.getD_eq_getElem?_getD, List.getElem?_eq_getElem hd]; exact List.getElem_mem hd)
      have hi : (s.2.getD d 0).toNat < locs.length := by omega
      have e : locs.getD (s.2.getD d 0).toNat z36 = locs[(s.2.getD d 0).toNat] := by rw [List.getD_eq_getElem?_getD, List.getElem?_eq_getElem hi]; rfl
      rw [e]
      exact good_drain hok k (d + 1) (good_meets _ h (ok_loc hok _ hi)).1
    · exact h
theorem good_run {locs : List S36} {rts : List Int} (hok : okL locs rts = true) : ∀ (rs : List Int) {s : List Int × List Int}, Good locs.length s → (∀ r, r ∈ rs → 0 ≤ r ∧ r < locs.length) → Good locs.length (runL locs s rs)
  | [], s, h, _ => h
  | r :: rs, s, h, hr => good_run hok rs (good_drain hok _ _ (good_meet h r (hr r List.mem_cons_self)).1) (fun x hx => hr x (List.mem_cons_of_mem _ hx))
end Go.Proofs.Ytgnpmcnmcbgdcaa.Aw
