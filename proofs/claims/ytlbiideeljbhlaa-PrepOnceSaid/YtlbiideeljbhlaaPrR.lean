/- How a row of tokens is read. Condition: each row is within the form's own reach. -/
import Derived.Test.YtlbiideeljbhlaaPrA
import Derived.Deep.Slices
import Derived.Deep.Fields
import Derived.ChangeSame
import Derived.SizedLaws
import Derived.Lib.SmallJoins
set_option linter.unusedSimpArgs false
set_option linter.unusedVariables false
namespace Go.Proofs.Ytlbiideeljbhlaa.Pr
open Go.ChangeShapes Go.WideShapes Go.Deep
open Go.RowKit Go.Proofs.YtlbiideeljbhlaaW.PrintWords Go.Proofs.YtlbiideeljbhlaaW.PrintLast Go.Proofs.YtlbiideeljbhlaaW.PrintMore Go.Proofs.Ytlbiideeljbhlaa.PPrepSkips

/-- Each row in a datum is within the reach. -/
def Light {H : Type} (t : TypeId) (d : DataW H) : Prop := ∀ n, n ∈ d.weights Try.prog t → n ≤ reachBytes

theorem weightsAll_in {H : Type} {e : TypeId} {d : DataW H} {l : List (DataW H)} (h : d ∈ l) (n : Nat) (hn : n ∈ d.weights Try.prog e) : n ∈ DataW.weightsAll Try.prog e l := by
  induction l with
  | nil => cases h
  | cons x r ih =>
    simp only [DataW.weightsAll, List.mem_append]
    rcases List.mem_cons.1 h with rfl | h
    · exact Or.inl hn
    · exact Or.inr (ih h)

theorem light_each {H : Type} {ts : List TypeId} {ds : List (DataW H)} (h : (DataW.weightsEach Try.prog ts ds).all (· ≤ reachBytes) = true) {j : Nat} {t : TypeId} {d : DataW H} (ht : ts[j]? = some t) (hd : ds[j]? = some d) : Light t d := fun n hn => by
  have := List.all_eq_true.1 h _ (DataW.weights_mem_each ht hd n hn)
  simpa using this

theorem light_field {H : Type} {t : TypeId} {fs : Array Field} {ds : List (DataW H)} (ht : Try.prog.underlying t = some (.struct fs)) (hb : Light t (.agg ds)) {j : Nat} {f : Field} {d : DataW H} (hf : fs[j]? = some f) (hd : ds[j]? = some d) : Light f.type d := fun n hn => hb n (by
  simp only [DataW.weights, ht]
  exact DataW.weights_mem_each (by rw [List.getElem?_map]; simp [hf]) hd n hn)

theorem sized_of_trod {α H : Type} {enc : TypeId × Value → H} {w : World} {spare : Nat → Bool} {held : Bool} (d : Kd α) (Q : α → Prop) (z : α) (B : Nat) {t e : TypeId} (ht : Try.prog.underlying t = some (.slice e)) (hsz : Try.prog.cellsOf e = d.sz) (hby : Try.prog.bytesOf e = B)
    (hel : ∀ n cs x, DataW.trod enc Try.prog w 0 spare held n e cs = some x → Light e x.1 → ∃ p, d.K w p cs ∧ Q p)
    {fuel : Nat} {cs : List Value} {x : DataW H × List MemPlace} (h : DataW.trod enc Try.prog w 0 spare held fuel t cs = some x) (hb : Light t x.1) :
    ∃ (A : Option Addr) (n c : Nat) (l : List α), cs = [.slice A n c] ∧ n ≤ c ∧ l.length = n ∧ n * B ≤ 140737488351232 ∧ d.C w A n l ∧ ∀ p, p ∈ l → Q p := by
  rcases open_slice ht h with ⟨rfl, _⟩ | ⟨a, len, cap, m, n, D, Pl, rfl, _, hl, hmx, hmm, rfl, hi⟩
  · exact ⟨none, 0, 0, [], rfl, Nat.le_refl _, rfl, by omega, Kd.C_nil d w, fun p hp => by cases hp⟩
  · have hlm : len ≤ m := by rw [hmm]; split <;> omega
    have hz := hb (((List.range len).map D).length + ((List.range (m - len)).map fun j => D (len + j)).length |> (· * Try.prog.bytesOf e)) (by simp [DataW.weights, ht])
    simp only [List.length_map, List.length_range, hby] at hz
    have hz2 : len * B ≤ 140737488351232 := Nat.le_trans (Nat.mul_le_mul_right B (Nat.le_add_right len (m - len))) hz
    have each : ∀ i, i < len → ∃ p, (∃ cs', w.cells? 0 (a.add (i * d.sz)) d.sz = some cs' ∧ d.K w p cs') ∧ Q p := by
      intro i hil
      obtain ⟨cs', hc, hd⟩ := hi i (by omega)
      rw [hsz] at hc
      obtain ⟨p, hK, hQ⟩ := hel n cs' _ hd (fun n hn => hb n (by
        simp only [DataW.weights, ht, List.mem_cons, List.mem_append]
        exact Or.inr (Or.inl (weightsAll_in (List.mem_map.2 ⟨i, by simpa using hil, rfl⟩) n hn))))
      exact ⟨p, ⟨cs', hc, hK⟩, hQ⟩
    obtain ⟨f, hf⟩ : ∃ f : Nat → α, ∀ i, i < len → (∃ cs', w.cells? 0 (a.add (i * d.sz)) d.sz = some cs' ∧ d.K w (f i) cs') ∧ Q (f i) := by
      refine ⟨fun i => if h : i < len then (each i h).choose else z, fun i hil => ?_⟩
      simp only [dif_pos hil]
      exact (each i hil).choose_spec
    refine ⟨some a, len, cap, (List.range len).map f, rfl, hl, by simp, hz2, ⟨by simp, by unfold maxLen at hmx; omega, fun _ => ⟨a, rfl, fun j p hj => ?_⟩⟩, fun p hp => ?_⟩
    · have hjl : j < len := by
        have := (List.getElem?_eq_some_iff.1 hj).1
        simpa using this
      rw [List.getElem?_map, List.getElem?_range hjl] at hj
      simp at hj
      subst hj
      obtain ⟨⟨cs', hc, hK⟩, _⟩ := hf j hjl
      refine ⟨cs', d.K_len hK, hK, fun i u hu => ?_⟩
      obtain ⟨hcl, _, hat⟩ := World.cells?_some hc
      have hil : i < cs'.length := (List.getElem?_eq_some_iff.1 hu).1
      have h1 := hat i (by rw [← d.K_len hK]; exact hil)
      rw [Go.Deep.add_add] at h1
      rw [h1]
      exact hu
    · obtain ⟨i, hil, rfl⟩ := List.mem_map.1 hp
      exact (hf i (by simpa using hil)).2

theorem cells2 : Try.prog.cellsOf 2 = 1 := by kernel_rfl
theorem cells3 : Try.prog.cellsOf 3 = 1 := by kernel_rfl
theorem cells9 : Try.prog.cellsOf 9 = 1 := by kernel_rfl
theorem cells26 : Try.prog.cellsOf 26 = 5 := by kernel_rfl
theorem bytes26 : Try.prog.bytesOf 26 = 48 := by kernel_rfl
theorem list5 {α : Type} {cs : List α} (h : cs.length = 5) : ∃ c0 c1 c2 c3 c4, cs = [c0, c1, c2, c3, c4] := by
  match cs, h with
  | [c0, c1, c2, c3, c4], _ => exact ⟨c0, c1, c2, c3, c4, rfl⟩
section
variable {H : Type} {enc : TypeId × Value → H} {w : World} {spare : Nat → Bool} {held : Bool}
/-- A row of tokens that came in. -/
theorem toks_sized {n : Nat} {cs : List Value} {x : DataW H × List MemPlace} (h : DataW.trod enc Try.prog w 0 spare held n 22 cs = some x) (hb : Light 22 x.1) :
    ∃ (A : Option Addr) (n c : Nat) (l : List S26), cs = [.slice A n c] ∧ n ≤ c ∧ l.length = n ∧ n ≤ 2932031007400 ∧ k26.C w A n l ∧ ∀ x, x ∈ l → x.f3.size ≤ maxLen := by
  obtain ⟨A, n, c, l, h1, h2, h3, h4, h5, h6⟩ := sized_of_trod k26 (fun x => x.f3.size ≤ maxLen) z26 48 Try.underlying22 (by rw [cells26]; rfl) bytes26 (fun n cs x h hb => by
    obtain ⟨xs, m, _, rfl, hl, hlen, hf⟩ := DataW.trod_struct Try.underlying26 h
    rw [cells26] at hl
    obtain ⟨v0, v1, v2, v3, v4, rfl⟩ := list5 hl
    obtain ⟨y0, y1, y2, y3, y4, rfl⟩ := list5 (cs := xs) hlen
    have h0 := hf 0 _ rfl
    have h1 := hf 1 _ rfl
    have h2 := hf 2 _ rfl
    have h3 := hf 3 _ rfl
    have h4 := hf 4 _ rfl
    simp [cells2, cells3, cells9] at h0 h1 h2 h3 h4
    obtain ⟨a0, e0, _, _⟩ := DataW.trod_int Try.underlying3 h0
    obtain ⟨a1, e1, _, _⟩ := DataW.trod_int Try.underlying3 h1
    obtain ⟨a2, e2, _, _⟩ := DataW.trod_int Try.underlying3 h2
    obtain ⟨s3, e3, _, hs3⟩ := DataW.trod_string Try.underlying9 h3
    obtain ⟨a4, e4, _, _⟩ := DataW.trod_int Try.underlying2 h4
    simp at e0 e1 e2 e3 e4
    subst e0 e1 e2 e3 e4
    exact ⟨⟨a0, a1, a2, s3, a4⟩, k26_mk w ⟨a0, a1, a2, s3, a4⟩, hs3⟩) h hb
  exact ⟨A, n, c, l, h1, h2, h3, by omega, h5, h6⟩
end
end Go.Proofs.Ytlbiideeljbhlaa.Pr
