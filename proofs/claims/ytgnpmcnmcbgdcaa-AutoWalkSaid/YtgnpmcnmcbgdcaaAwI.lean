/- The reference's 'may it be walked?' is okL. Condition: rows within the form's reach. -/
import Derived.Test.YtgnpmcnmcbgdcaaAwE2
import Derived.Test.YtgnpmcnmcbgdcaaPAutoWalkx3
set_option linter.unusedSimpArgs false
set_option linter.unusedVariables false
namespace Go.Proofs.Ytgnpmcnmcbgdcaa.Aw
open Go.RowKit Go.Proofs.YtgnpmcnmcbgdcaaW.PrintWords Go.Proofs.YtgnpmcnmcbgdcaaW.PrintLast Go.Proofs.YtgnpmcnmcbgdcaaW.PrintMore Go.Proofs.Ytgnpmcnmcbgdcaa.PAutoWalk

/-- From some fuel on. -/
def Ev (f : Nat → Option Bool) (r : Bool) : Prop := ∃ k, ∀ k', k ≤ k' → f k' = some r
theorem Ev.suc {f g : Nat → Option Bool} {r : Bool} (h : Ev f r) (e : ∀ k, g (k + 1) = f k) : Ev g r := by
  obtain ⟨k, hk⟩ := h
  refine ⟨k + 1, fun k' h' => ?_⟩
  obtain ⟨j, rfl⟩ : ∃ j, k' = j + 1 := ⟨k' - 1, by omega⟩
  rw [e]
  exact hk j (by omega)

section
variable (nm : ByteArray) (par : Int) (fr : List S62) (ini : List Int) (locs : List S36) (st fi ac pr pv : Int)

theorem inside_law (i : Int) : spinneretref09_inside.f nm par fr ini locs st fi ac pr pv i = some (insideL locs.length i) := by
  unfold spinneretref09_inside.f insideL
  by_cases h : i ≥ 0
  · have h' : 0 ≤ i := h
    simp [h, h']
  · have h' : ¬ 0 ≤ i := h
    simp [h']

theorem suc64 (n : Nat) (h : n < 9223372036854775807) : wrap64 ((n : Int) + 1) = ((n + 1 : Nat) : Int) := by
  unfold wrap64; omega

theorem law3 (x8 : Int) (rows : List (List S40)) (i : Nat) (hi : i < rows.length) (hl : rows.length < 9223372036854775807) (hr : rows[i].length < 9223372036854775807) (r : Bool) :
    ∀ (n j : Nat) (ok : Bool), rows[i].length - j = n → j ≤ rows[i].length →
      Ev (fun k => spinneretref09_fits.l2 k (ok && (rows[i].drop j).all (fun w => insideL locs.length w.f1)) x8 rows ((i + 1 : Nat) : Int) nm par fr ini locs st fi ac pr pv) r →
      Ev (fun k => spinneretref09_fits.l3 k ok x8 rows i j nm par fr ini locs st fi ac pr pv) r := by
  have hrd : rd_L5 rows (i : Int) = rows[i] := by unfold rd_L5; rw [Int.toNat_natCast, List.getD_eq_getElem?_getD, List.getElem?_eq_getElem hi]; rfl
  intro n
  induction n with
  | zero =>
    intro j ok hn hj h
    have hj' : j = rows[i].length := by omega
    rw [hj', List.drop_length, List.all_nil, Bool.and_true] at h
    refine h.suc (fun k => ?_)
    simp only [spinneretref09_fits.l3]
    rw [hrd, if_pos (by omega), if_pos (by omega), if_neg (by omega), suc64 _ (by omega)]
  | succ n ih =>
    intro j ok hn hj h
    have hjl : j < rows[i].length := by omega
    have hrt : rd_T40 rows[i] (j : Int) = rows[i][j] := by unfold rd_T40; rw [Int.toNat_natCast, List.getD_eq_getElem?_getD, List.getElem?_eq_getElem hjl]; rfl
    rw [List.drop_eq_getElem_cons hjl, List.all_cons, ← Bool.and_assoc] at h
    refine (ih (j + 1) _ (by omega) (by omega) h).suc (fun k => ?_)
    simp only [spinneretref09_fits.l3]
    rw [hrd, if_pos (by omega), if_pos (by omega), if_pos (by omega), if_pos (by omega), inside_law, hrt, suc64 _ (by omega), Option.bind_some]
    cases ok
    · rw [if_neg (by decide), Bool.false_and]
    · rw [if_pos rfl, Bool.true_and]

theorem law2 (x8 : Nat) (rows : List (List S40)) (hx : x8 < 9223372036854775807) (hl : rows.length < 9223372036854775807) (hr : ∀ i (h : i < rows.length), rows[i].length < 9223372036854775807) (r : Bool) :
    ∀ (n i : Nat) (ok : Bool), rows.length - i = n → i ≤ rows.length →
      Ev (fun k => spinneretref09_fits.l1 k (ok && (rows.drop i).all (fun l => l.all (fun w => insideL locs.length w.f1))) ((x8 + 1 : Nat) : Int) nm par fr ini locs st fi ac pr pv) r →
      Ev (fun k => spinneretref09_fits.l2 k ok x8 rows i nm par fr ini locs st fi ac pr pv) r := by
  intro n
  induction n with
  | zero =>
    intro j ok hn hj h
    have hj' : j = rows.length := by omega
    rw [hj', List.drop_length, List.all_nil, Bool.and_true] at h
    refine h.suc (fun k => ?_)
    simp only [spinneretref09_fits.l2]
    rw [if_neg (by omega), suc64 _ hx]
  | succ n ih =>
    intro i ok hn hj h
    have hil : i < rows.length := by omega
    rw [List.drop_eq_getElem_cons hil, List.all_cons, ← Bool.and_assoc] at h
    have h2 := ih (i + 1) _ (by omega) (by omega) h
    have h3 := law3 nm par fr ini locs st fi ac pr pv x8 rows i hil hl (hr i hil) r _ 0 ok rfl (Nat.zero_le _) (by rw [List.drop_zero]; exact h2)
    refine h3.suc (fun k => ?_)
    simp only [spinneretref09_fits.l2]
    rw [if_pos (by omega)]
    rfl

theorem law1 (hl : locs.length < 9223372036854775807) (he : ∀ l, l ∈ locs → l.f0.length < 9223372036854775807 ∧ l.f1.length < 5864062014804 ∧ ∀ e, e ∈ l.f1 → e.length < 9223372036854775807) :
    ∀ (n x8 : Nat) (ok : Bool), locs.length - x8 = n → x8 ≤ locs.length →
      Ev (fun k => spinneretref09_fits.l1 k ok x8 nm par fr ini locs st fi ac pr pv) (ok && (locs.drop x8).all (fun l => (ways l).all (fun w => insideL locs.length w.f1))) := by
  intro n
  induction n with
  | zero =>
    intro j ok hn hj
    have hj' : j = locs.length := by omega
    rw [hj', List.drop_length, List.all_nil, Bool.and_true]
    refine ⟨1, fun k hk => ?_⟩
    obtain ⟨k, rfl⟩ : ∃ j, k = j + 1 := ⟨k - 1, by omega⟩
    simp only [spinneretref09_fits.l1]
    rw [if_neg (by omega)]
  | succ n ih =>
    intro x8 ok hn hj
    have hxl : x8 < locs.length := by omega
    have hrt : rd_T36 locs (x8 : Int) = locs[x8] := by unfold rd_T36; rw [Int.toNat_natCast, List.getD_eq_getElem?_getD, List.getElem?_eq_getElem hxl]; rfl
    have hel := he _ (List.getElem_mem hxl)
    rw [List.drop_eq_getElem_cons hxl, List.all_cons, ← Bool.and_assoc]
    have hw : (ways locs[x8]).all (fun w => insideL locs.length w.f1) = (locs[x8].f0 :: locs[x8].f1).all (fun l => l.all (fun w => insideL locs.length w.f1)) := by
      unfold ways
      rw [List.all_append, List.all_flatten, List.all_cons]
    rw [hw]
    have h1 := ih (x8 + 1) (ok && (locs[x8].f0 :: locs[x8].f1).all (fun l => l.all (fun w => insideL locs.length w.f1))) (by omega) (by omega)
    have h2 := law2 nm par fr ini locs st fi ac pr pv x8 (locs[x8].f0 :: locs[x8].f1) (by omega) (by rw [List.length_cons]; omega) (fun i h => by
      cases i with
      | zero => exact hel.1
      | succ i => exact hel.2.2 _ (List.getElem_mem _)) _ _ 0 ok rfl (Nat.zero_le _) (by rw [List.drop_zero]; exact h1)
    refine h2.suc (fun k => ?_)
    simp only [spinneretref09_fits.l1]
    rw [if_pos (by omega), if_pos (by omega), hrt]
    unfold spinneretref09_lists.f
    rw [Option.bind_some, if_pos (by simp; omega), Option.bind_some]
    rfl

theorem law0 (more : List Int) (hm : more.length < 9223372036854775807) (r : Bool) :
    ∀ (n j : Nat) (ok : Bool), more.length - j = n → j ≤ more.length →
      Ev (fun k => spinneretref09_fits.l1 k (ok && (more.drop j).all (insideL locs.length)) 0 nm par fr ini locs st fi ac pr pv) r →
      Ev (fun k => spinneretref09_fits.l0 k more ok j nm par fr ini locs st fi ac pr pv) r := by
  intro n
  induction n with
  | zero =>
    intro j ok hn hj h
    have hj' : j = more.length := by omega
    rw [hj', List.drop_length, List.all_nil, Bool.and_true] at h
    refine h.suc (fun k => ?_)
    simp only [spinneretref09_fits.l0]
    rw [if_neg (by omega)]
  | succ n ih =>
    intro j ok hn hj h
    have hjl : j < more.length := by omega
    have hrt : rd more (j : Int) = more[j] := by unfold rd; rw [Int.toNat_natCast, List.getD_eq_getElem?_getD, List.getElem?_eq_getElem hjl]; rfl
    rw [List.drop_eq_getElem_cons hjl, List.all_cons, ← Bool.and_assoc] at h
    refine (ih (j + 1) _ (by omega) (by omega) h).suc (fun k => ?_)
    simp only [spinneretref09_fits.l0]
    rw [if_pos (by omega), if_pos (by omega), inside_law, hrt, suc64 _ (by omega), Option.bind_some]
    cases ok
    · rw [if_neg (by decide), Bool.false_and]
    · rw [if_pos rfl, Bool.true_and]

theorem fits_law (more : List Int) (hm : more.length < 9223372036854775807) (hl : locs.length < 9223372036854775807) (he : ∀ l, l ∈ locs → l.f0.length < 9223372036854775807 ∧ l.f1.length < 5864062014804 ∧ ∀ e, e ∈ l.f1 → e.length < 9223372036854775807) :
    ∃ k, spinneretref09_fits.f k nm par fr ini locs st fi ac pr pv more = some (okL locs (st :: fi :: more)) := by
  have hk : ∀ ok : Bool, ∃ k, spinneretref09_fits.j0 k more ok nm par fr ini locs st fi ac pr pv = some ((ok && more.all (insideL locs.length)) && locs.all (fun l => (ways l).all (fun w => insideL locs.length w.f1))) := by
    intro ok
    have h1 := law1 nm par fr ini locs st fi ac pr pv hl he _ 0 (ok && more.all (insideL locs.length)) rfl (Nat.zero_le _)
    rw [List.drop_zero] at h1
    obtain ⟨k, hk⟩ := law0 nm par fr ini locs st fi ac pr pv more hm _ _ 0 ok rfl (Nat.zero_le _) (by rw [List.drop_zero]; exact h1)
    refine ⟨k + 1, ?_⟩
    simp only [spinneretref09_fits.j0]
    exact hk k (Nat.le_refl _)
  unfold spinneretref09_fits.f
  simp only [inside_law, Option.bind_some]
  obtain ⟨k, hk⟩ := hk (insideL locs.length st && insideL locs.length fi)
  refine ⟨k, ?_⟩
  have e : okL locs (st :: fi :: more) = ((insideL locs.length st && insideL locs.length fi && more.all (insideL locs.length)) && locs.all (fun l => (ways l).all (fun w => insideL locs.length w.f1))) := by
    unfold okL
    rw [List.all_cons, List.all_cons]
    simp only [Bool.and_assoc]
  rw [e, ← hk]
  cases insideL locs.length st
  · rw [if_neg (by decide), Bool.false_and]
  · rw [if_pos rfl, Bool.true_and]
end
end Go.Proofs.Ytgnpmcnmcbgdcaa.Aw
