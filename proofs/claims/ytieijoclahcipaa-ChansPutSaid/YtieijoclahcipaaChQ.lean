/- How the arguments are read: a row of messages, a row of types, a channel. Condition: each row is within the form's own reach. -/
import Derived.Test.YtieijoclahcipaaChM
import Derived.SizedLaws
namespace Go.Proofs.Ytieijoclahcipaa.Ch
open Go.ChangeShapes Go.WideShapes Go.Deep
open Go.RowKit Go.Proofs.YtieijoclahcipaaW.PrintWords Go.Proofs.YtieijoclahcipaaW.PrintLast Go.Proofs.YtieijoclahcipaaW.PrintMore Go.Proofs.Ytieijoclahcipaa.PChansPut

/-- Each row in a datum is within the reach. -/
def Light {H : Type} (t : TypeId) (d : DataW H) : Prop := ∀ n, n ∈ d.weights Try.prog t → n ≤ reachBytes

theorem weightsAll_in {H : Type} {e : TypeId} {d : DataW H} {l : List (DataW H)} (h : d ∈ l) (n : Nat) (hn : n ∈ d.weights Try.prog e) : n ∈ DataW.weightsAll Try.prog e l := by
  induction l with
  | nil => cases h
  | cons x r ih =>
    simp only [DataW.weightsAll, List.mem_append]
    rcases List.mem_cons.1 h with rfl | h
    · exact Or.inl hn
    · exact Or.inr (ih h)

theorem light_each {H : Type} {ts : List TypeId} {ds : List (DataW H)} (h : (DataW.weightsEach Try.prog ts ds).all (· ≤ reachBytes) = true) {j : Nat} {t : TypeId} {d : DataW H} (ht : ts[j]? = some t) (hd : ds[j]? = some d) : Light t d := fun n hn => by
  have := List.all_eq_true.1 h _ (DataW.weights_mem_each ht hd n hn)
  simpa using this

theorem sized_of_trod {α H : Type} {enc : TypeId × Value → H} {w : World} {spare : Nat → Bool} {held : Bool} (d : Kd α) (Q : α → Prop) (z : α) (B : Nat) {t e : TypeId} (ht : Try.prog.underlying t = some (.slice e)) (hsz : Try.prog.cellsOf e = d.sz) (hby : Try.prog.bytesOf e = B)
    (hel : ∀ n cs x, DataW.trod enc Try.prog w 0 spare held n e cs = some x → Light e x.1 → ∃ p, d.K w p cs ∧ Q p)
    {fuel : Nat} {cs : List Value} {x : DataW H × List MemPlace} (h : DataW.trod enc Try.prog w 0 spare held fuel t cs = some x) (hb : Light t x.1) :
    ∃ (A : Option Addr) (n c : Nat) (l : List α), cs = [.slice A n c] ∧ n ≤ c ∧ l.length = n ∧ n * B ≤ 140737488351232 ∧ d.C w A n l ∧ ∀ p, p ∈ l → Q p := by
  rcases open_slice ht h with ⟨rfl, _⟩ | ⟨a, len, cap, m, n, D, Pl, rfl, _, hl, hmx, hmm, rfl, hi⟩
  · exact ⟨none, 0, 0, [], rfl, Nat.le_refl _, rfl, by omega, Kd.C_nil d w, fun p hp => by cases hp⟩
  · have hlm : len ≤ m := by rw [hmm]; split <;> omega
    have hz := hb (((List.range len).map D).length + ((List.range (m - len)).map fun j => D (len + j)).length |> (· * Try.prog.bytesOf e)) (by simp [DataW.weights, ht])
    simp only [List.length_map, List.length_range, hby] at hz
    have hz2 : len * B ≤ 140737488351232 := Nat.le_trans (Nat.mul_le_mul_right B (Nat.le_add_right len (m - len))) hz
    have each : ∀ i, i < len → ∃ p, (∃ cs', w.cells? 0 (a.add (i * d.sz)) d.sz = some cs' ∧ d.K w p cs') ∧ Q p := by
      intro i hil
      obtain ⟨cs', hc, hd⟩ := hi i (by omega)
      rw [hsz] at hc
      obtain ⟨p, hK, hQ⟩ := hel n cs' _ hd (fun n hn => hb n (by
        simp only [DataW.weights, ht, List.mem_cons, List.mem_append]
        exact Or.inr (Or.inl (weightsAll_in (List.mem_map.2 ⟨i, by simpa using hil, rfl⟩) n hn))))
      exact ⟨p, ⟨cs', hc, hK⟩, hQ⟩
    obtain ⟨f, hf⟩ : ∃ f : Nat → α, ∀ i, i < len → (∃ cs', w.cells? 0 (a.add (i * d.sz)) d.sz = some cs' ∧ d.K w (f i) cs') ∧ Q (f i) := by
      refine ⟨fun i => if h : i < len then (each i h).choose else z, fun i hil => ?_⟩
      simp only [dif_pos hil]
      exact (each i hil).choose_spec
    refine ⟨some a, len, cap, (List.range len).map f, rfl, hl, by simp, hz2, ⟨by simp, by unfold maxLen at hmx; omega, fun _ => ⟨a, rfl, fun j p hj => ?_⟩⟩, fun p hp => ?_⟩
    · have hjl : j < len := by
        have := (List.getElem?_eq_some_iff.1 hj).1
        simpa using this
      rw [List.getElem?_map, List.getElem?_range hjl] at hj
      simp at hj
      subst hj
      obtain ⟨⟨cs', hc, hK⟩, _⟩ := hf j hjl
      refine ⟨cs', d.K_len hK, hK, fun i u hu => ?_⟩
      obtain ⟨hcl, _, hat⟩ := World.cells?_some hc
      have hil : i < cs'.length := (List.getElem?_eq_some_iff.1 hu).1
      have h1 := hat i (by rw [← d.K_len hK]; exact hil)
      rw [Go.Deep.add_add] at h1
      rw [h1]
      exact hu
    · obtain ⟨i, hil, rfl⟩ := List.mem_map.1 hp
      exact (hf i (by simpa using hil)).2

theorem bytes2 : Try.prog.bytesOf 2 = 8 := by kernel_rfl
theorem bytes29 : Try.prog.bytesOf 29 = 24 := by kernel_rfl
theorem bytes47 : Try.prog.bytesOf 47 = 16 := by kernel_rfl

/-- A message that came in. -/
theorem msg_sized {H : Type} {enc : TypeId × Value → H} {w : World} {spare : Nat → Bool} {held : Bool} {n : Nat} {cs : List Value} {x : DataW H × List MemPlace} (h : DataW.trod enc Try.prog w 0 spare held n 29 cs = some x) (hb : Light 29 x.1) :
    ∃ (A : Option Addr) (n c : Nat) (l : List Int), cs = [.slice A n c] ∧ n ≤ c ∧ l.length = n ∧ n < 17592186044416 ∧ kd1.C w A n l := by
  obtain ⟨A, n, c, l, h1, h2, h3, h4, h5, _⟩ := sized_of_trod kd1 (fun _ => True) 0 8 Try.underlying29 (by rw [cells2]; rfl) bytes2 (fun n cs x h _ => by
    obtain ⟨v, rfl, _, _⟩ := DataW.trod_int Try.underlying2 h
    exact ⟨v, rfl, trivial⟩) h hb
  exact ⟨A, n, c, l, h1, h2, h3, by omega, h5⟩

/-- A row of messages that came in. -/
theorem msgs_sized {H : Type} {enc : TypeId × Value → H} {w : World} {spare : Nat → Bool} {held : Bool} {n : Nat} {cs : List Value} {x : DataW H × List MemPlace} (h : DataW.trod enc Try.prog w 0 spare held n 25 cs = some x) (hb : Light 25 x.1) :
    ∃ (A : Option Addr) (n c : Nat) (l : List (List Int)), cs = [.slice A n c] ∧ n ≤ c ∧ l.length = n ∧ n ≤ 5864062014634 ∧ kd2.C w A n l ∧ ∀ p, p ∈ l → p.length < 17592186044416 := by
  obtain ⟨A, n, c, l, h1, h2, h3, h4, h5, h6⟩ := sized_of_trod kd2 (fun p => p.length < 17592186044416) [] 24 Try.underlying25 (by rw [cells29]; rfl) bytes29 (fun n cs x h hb => by
    obtain ⟨A, n, c, l, rfl, hnc, rfl, hn, hC⟩ := msg_sized h hb
    exact ⟨l, ⟨A, c, rfl, hnc, hC⟩, hn⟩) h hb
  exact ⟨A, n, c, l, h1, h2, h3, by omega, h5, h6⟩

/-- A row of types that came in. -/
theorem types_sized {H : Type} {enc : TypeId × Value → H} {w : World} {spare : Nat → Bool} {held : Bool} {n : Nat} {cs : List Value} {x : DataW H × List MemPlace} (h : DataW.trod enc Try.prog w 0 spare held n 22 cs = some x) (hb : Light 22 x.1) :
    ∃ (A : Option Addr) (n c : Nat) (l : List S47), cs = [.slice A n c] ∧ n ≤ c ∧ l.length = n ∧ n < 17592186044416 ∧ k47.C w A n l := by
  obtain ⟨A, n, c, l, h1, h2, h3, h4, h5, _⟩ := sized_of_trod k47 (fun _ => True) z47 16 Try.underlying22 (by rw [cells47]; rfl) bytes47 (fun n cs x h _ => by
    obtain ⟨y0, y1, m, _, hl, h0, h1⟩ := trod_struct2 Try.underlying47 h
    rw [cells47] at hl
    match cs, hl with
    | [v0, v1], _ =>
      simp [cells3, cells4] at h0 h1
      obtain ⟨a, e0, _, _⟩ := DataW.trod_int Try.underlying3 h0
      obtain ⟨b, e1, _⟩ := DataW.trod_bool Try.underlying4 h1
      simp at e0 e1
      subst e0 e1
      exact ⟨⟨a, b⟩, k47_mk w ⟨a, b⟩, trivial⟩) h hb
  exact ⟨A, n, c, l, h1, h2, h3, by omega, h5⟩
end Go.Proofs.Ytieijoclahcipaa.Ch
