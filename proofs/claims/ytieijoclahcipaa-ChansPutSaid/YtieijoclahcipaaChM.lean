/- How the arguments are read: a row of messages, a row of types. Condition: the reading's bulk is at most 1048576. -/
import Derived.Test.YtieijoclahcipaaChK
import Derived.Test.YtieijoclahcipaaBulk
import Derived.Deep.Slices
import Derived.Deep.Fields
import Derived.ChangeSame
namespace Go.Proofs.Ytieijoclahcipaa.Ch
open Go.ChangeShapes Go.WideShapes Go.Deep
open Go.RowKit Go.Proofs.YtieijoclahcipaaW.PrintWords Go.Proofs.YtieijoclahcipaaW.PrintLast Go.Proofs.YtieijoclahcipaaW.PrintMore Go.Proofs.Ytieijoclahcipaa.PChansPut

theorem row_of_trod {α H : Type} {enc : TypeId × Value → H} {w : World} {spare : Nat → Bool} {held : Bool} (d : Kd α) (Q : α → Prop) (z : α) {t e : TypeId} (ht : Try.prog.underlying t = some (.slice e)) (hsz : Try.prog.cellsOf e = d.sz)
    (hel : ∀ n cs x, DataW.trod enc Try.prog w 0 spare held n e cs = some x → Rows.uptoBulk x.1 ≤ 1048576 → ∃ p, d.K w p cs ∧ Q p)
    {fuel : Nat} {cs : List Value} {x : DataW H × List MemPlace} (h : DataW.trod enc Try.prog w 0 spare held fuel t cs = some x) (hb : Rows.uptoBulk x.1 ≤ 1048576) :
    ∃ (A : Option Addr) (n c : Nat) (l : List α), cs = [.slice A n c] ∧ n ≤ c ∧ l.length = n ∧ n ≤ 1048576 ∧ d.C w A n l ∧ ∀ p, p ∈ l → Q p := by
  rcases open_slice ht h with ⟨rfl, _⟩ | ⟨a, len, cap, m, n, D, Pl, rfl, _, hl, hmx, hmm, rfl, hi⟩
  · exact ⟨none, 0, 0, [], rfl, Nat.le_refl _, rfl, by omega, Kd.C_nil d w, fun p hp => by cases hp⟩
  · have hlm : len ≤ m := by rw [hmm]; split <;> omega
    have hbl := bulks.slice_le ((List.range len).map D) ((List.range (m - len)).map fun j => D (len + j))
    have hbe := bulks.slice_elems ((List.range len).map D) ((List.range (m - len)).map fun j => D (len + j))
    simp only [List.length_map, List.length_range] at hbl
    have hbx : Rows.uptoBulk (DataW.slice ((List.range len).map D) ((List.range (m - len)).map fun j => D (len + j))) ≤ 1048576 := hb
    have each : ∀ i, i < len → ∃ p, (∃ cs', w.cells? 0 (a.add (i * d.sz)) d.sz = some cs' ∧ d.K w p cs') ∧ Q p := by
      intro i hil
      obtain ⟨cs', hc, hd⟩ := hi i (by omega)
      rw [hsz] at hc
      have hDi : Rows.uptoBulk (D i) ≤ Rows.uptoBulkAll ((List.range len).map D) := bulks.part_le (List.mem_map.2 ⟨i, by simpa using hil, rfl⟩)
      obtain ⟨p, hK, hQ⟩ := hel n cs' _ hd (by show Rows.uptoBulk (D i) ≤ _; omega)
      exact ⟨p, ⟨cs', hc, hK⟩, hQ⟩
    obtain ⟨f, hf⟩ : ∃ f : Nat → α, ∀ i, i < len → (∃ cs', w.cells? 0 (a.add (i * d.sz)) d.sz = some cs' ∧ d.K w (f i) cs') ∧ Q (f i) := by
      refine ⟨fun i => if h : i < len then (each i h).choose else z, fun i hil => ?_⟩
      simp only [dif_pos hil]
      exact (each i hil).choose_spec
    refine ⟨some a, len, cap, (List.range len).map f, rfl, hl, by simp, by omega, ⟨by simp, by unfold maxLen at hmx; omega, fun _ => ⟨a, rfl, fun j p hj => ?_⟩⟩, fun p hp => ?_⟩
    · have hjl : j < len := by
        have := (List.getElem?_eq_some_iff.1 hj).1
        simpa using this
      rw [List.getElem?_map, List.getElem?_range hjl] at hj
      simp at hj
      subst hj
      obtain ⟨⟨cs', hc, hK⟩, _⟩ := hf j hjl
      refine ⟨cs', d.K_len hK, hK, fun i u hu => ?_⟩
      obtain ⟨hcl, _, hat⟩ := World.cells?_some hc
      have hil : i < cs'.length := (List.getElem?_eq_some_iff.1 hu).1
      have h1 := hat i (by rw [← d.K_len hK]; exact hil)
      rw [Go.Deep.add_add] at h1
      rw [h1]
      exact hu
    · obtain ⟨i, hil, rfl⟩ := List.mem_map.1 hp
      exact (hf i (by simpa using hil)).2

theorem cells2 : Try.prog.cellsOf 2 = 1 := by kernel_rfl
theorem cells29 : Try.prog.cellsOf 29 = 1 := by kernel_rfl
theorem cells47 : Try.prog.cellsOf 47 = 2 := by kernel_rfl
theorem cells3 : Try.prog.cellsOf 3 = 1 := by kernel_rfl
theorem cells4 : Try.prog.cellsOf 4 = 1 := by kernel_rfl

/-- A message that came in. -/
theorem msg_of_trod {H : Type} {enc : TypeId × Value → H} {w : World} {spare : Nat → Bool} {held : Bool} {n : Nat} {cs : List Value} {x : DataW H × List MemPlace} (h : DataW.trod enc Try.prog w 0 spare held n 29 cs = some x) (hb : Rows.uptoBulk x.1 ≤ 1048576) :
    ∃ (A : Option Addr) (n c : Nat) (l : List Int), cs = [.slice A n c] ∧ n ≤ c ∧ l.length = n ∧ n ≤ 1048576 ∧ kd1.C w A n l := by
  obtain ⟨A, n, c, l, h1, h2, h3, h4, h5, _⟩ := row_of_trod kd1 (fun _ => True) 0 Try.underlying29 (by rw [cells2]; rfl) (fun n cs x h _ => by
    obtain ⟨v, rfl, _, _⟩ := DataW.trod_int Try.underlying2 h
    exact ⟨v, rfl, trivial⟩) h hb
  exact ⟨A, n, c, l, h1, h2, h3, h4, h5⟩

/-- A row of messages that came in. -/
theorem msgs_of_trod {H : Type} {enc : TypeId × Value → H} {w : World} {spare : Nat → Bool} {held : Bool} {n : Nat} {cs : List Value} {x : DataW H × List MemPlace} (h : DataW.trod enc Try.prog w 0 spare held n 25 cs = some x) (hb : Rows.uptoBulk x.1 ≤ 1048576) :
    ∃ (A : Option Addr) (n c : Nat) (l : List (List Int)), cs = [.slice A n c] ∧ n ≤ c ∧ l.length = n ∧ n ≤ 1048576 ∧ kd2.C w A n l ∧ ∀ p, p ∈ l → p.length ≤ 1048576 := by
  exact row_of_trod kd2 (fun p => p.length ≤ 1048576) [] Try.underlying25 (by rw [cells29]; rfl) (fun n cs x h hb => by
    obtain ⟨A, n, c, l, rfl, hnc, rfl, hn, hC⟩ := msg_of_trod h hb
    exact ⟨l, ⟨A, c, rfl, hnc, hC⟩, hn⟩) h hb

/-- A row of types that came in. -/
theorem types_of_trod {H : Type} {enc : TypeId × Value → H} {w : World} {spare : Nat → Bool} {held : Bool} {n : Nat} {cs : List Value} {x : DataW H × List MemPlace} (h : DataW.trod enc Try.prog w 0 spare held n 22 cs = some x) (hb : Rows.uptoBulk x.1 ≤ 1048576) :
    ∃ (A : Option Addr) (n c : Nat) (l : List S47), cs = [.slice A n c] ∧ n ≤ c ∧ l.length = n ∧ n ≤ 1048576 ∧ k47.C w A n l := by
  obtain ⟨A, n, c, l, h1, h2, h3, h4, h5, _⟩ := row_of_trod k47 (fun _ => True) z47 Try.underlying22 (by rw [cells47]; rfl) (fun n cs x h _ => by
    obtain ⟨y0, y1, m, _, hl, h0, h1⟩ := trod_struct2 Try.underlying47 h
    rw [cells47] at hl
    match cs, hl with
    | [v0, v1], _ =>
      simp [cells3, cells4] at h0 h1
      obtain ⟨a, e0, _, _⟩ := DataW.trod_int Try.underlying3 h0
      obtain ⟨b, e1, _⟩ := DataW.trod_bool Try.underlying4 h1
      simp at e0 e1
      subst e0 e1
      exact ⟨⟨a, b⟩, k47_mk w ⟨a, b⟩, trivial⟩) h hb
  exact ⟨A, n, c, l, h1, h2, h3, h4, h5⟩
end Go.Proofs.Ytieijoclahcipaa.Ch
