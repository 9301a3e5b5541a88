/- How the arguments of the law on numbering are read. Condition: each row is within the form's own reach. -/
import Derived.Test.YtgnpmcnmcbgdcaaAwQ
import Derived.Deep.Slices
import Derived.Deep.Fields
import Derived.ChangeSame
import Derived.SizedLaws
import Derived.Lib.SmallJoins
set_option linter.unusedSimpArgs false
set_option linter.unusedVariables false
namespace Go.Proofs.Ytgnpmcnmcbgdcaa.Aw
open Go.ChangeShapes Go.WideShapes Go.Deep
open Go.RowKit Go.Proofs.YtgnpmcnmcbgdcaaW.PrintWords Go.Proofs.YtgnpmcnmcbgdcaaW.PrintLast Go.Proofs.YtgnpmcnmcbgdcaaW.PrintMore Go.Proofs.Ytgnpmcnmcbgdcaa.PAutoWalk

/-- Each row in a datum is within the reach. -/
def Light {H : Type} (t : TypeId) (d : DataW H) : Prop := ∀ n, n ∈ d.weights Try.prog t → n ≤ reachBytes

theorem weightsAll_in {H : Type} {e : TypeId} {d : DataW H} {l : List (DataW H)} (h : d ∈ l) (n : Nat) (hn : n ∈ d.weights Try.prog e) : n ∈ DataW.weightsAll Try.prog e l := by
  induction l with
  | nil => cases h
  | cons x r ih =>
    simp only [DataW.weightsAll, List.mem_append]
    rcases List.mem_cons.1 h with rfl | h
    · exact Or.inl hn
    · exact Or.inr (ih h)

theorem light_each {H : Type} {ts : List TypeId} {ds : List (DataW H)} (h : (DataW.weightsEach Try.prog ts ds).all (· ≤ reachBytes) = true) {j : Nat} {t : TypeId} {d : DataW H} (ht : ts[j]? = some t) (hd : ds[j]? = some d) : Light t d := fun n hn => by
  have := List.all_eq_true.1 h _ (DataW.weights_mem_each ht hd n hn)
  simpa using this

theorem light_field {H : Type} {t : TypeId} {fs : Array Field} {ds : List (DataW H)} (ht : Try.prog.underlying t = some (.struct fs)) (hb : Light t (.agg ds)) {j : Nat} {f : Field} {d : DataW H} (hf : fs[j]? = some f) (hd : ds[j]? = some d) : Light f.type d := fun n hn => hb n (by
  simp only [DataW.weights, ht]
  exact DataW.weights_mem_each (by rw [List.getElem?_map]; simp [hf]) hd n hn)

theorem sized_of_trod {α H : Type} {enc : TypeId × Value → H} {w : World} {spare : Nat → Bool} {held : Bool} (d : Kd α) (Q : α → Prop) (z : α) (B : Nat) {t e : TypeId} (ht : Try.prog.underlying t = some (.slice e)) (hsz : Try.prog.cellsOf e = d.sz) (hby : Try.prog.bytesOf e = B)
    (hel : ∀ n cs x, DataW.trod enc Try.prog w 0 spare held n e cs = some x → Light e x.1 → ∃ p, d.K w p cs ∧ Q p)
    {fuel : Nat} {cs : List Value} {x : DataW H × List MemPlace} (h : DataW.trod enc Try.prog w 0 spare held fuel t cs = some x) (hb : Light t x.1) :
    ∃ (A : Option Addr) (n c : Nat) (l : List α), cs = [.slice A n c] ∧ n ≤ c ∧ l.length = n ∧ n * B ≤ 140737488351232 ∧ d.C w A n l ∧ ∀ p, p ∈ l → Q p := by
  rcases open_slice ht h with ⟨rfl, _⟩ | ⟨a, len, cap, m, n, D, Pl, rfl, _, hl, hmx, hmm, rfl, hi⟩
  · exact ⟨none, 0, 0, [], rfl, Nat.le_refl _, rfl, by omega, Kd.C_nil d w, fun p hp => by cases hp⟩
  · have hlm : len ≤ m := by rw [hmm]; split <;> omega
    have hz := hb (((List.range len).map D).length + ((List.range (m - len)).map fun j => D (len + j)).length |> (· * Try.prog.bytesOf e)) (by simp [DataW.weights, ht])
    simp only [List.length_map, List.length_range, hby] at hz
    have hz2 : len * B ≤ 140737488351232 := Nat.le_trans (Nat.mul_le_mul_right B (Nat.le_add_right len (m - len))) hz
    have each : ∀ i, i < len → ∃ p, (∃ cs', w.cells? 0 (a.add (i * d.sz)) d.sz = some cs' ∧ d.K w p cs') ∧ Q p := by
      intro i hil
      obtain ⟨cs', hc, hd⟩ := hi i (by omega)
      rw [hsz] at hc
      obtain ⟨p, hK, hQ⟩ := hel n cs' _ hd (fun n hn => hb n (by
        simp only [DataW.weights, ht, List.mem_cons, List.mem_append]
        exact Or.inr (Or.inl (weightsAll_in (List.mem_map.2 ⟨i, by simpa using hil, rfl⟩) n hn))))
      exact ⟨p, ⟨cs', hc, hK⟩, hQ⟩
    obtain ⟨f, hf⟩ : ∃ f : Nat → α, ∀ i, i < len → (∃ cs', w.cells? 0 (a.add (i * d.sz)) d.sz = some cs' ∧ d.K w (f i) cs') ∧ Q (f i) := by
      refine ⟨fun i => if h : i < len then (each i h).choose else z, fun i hil => ?_⟩
      simp only [dif_pos hil]
      exact (each i hil).choose_spec
    refine ⟨some a, len, cap, (List.range len).map f, rfl, hl, by simp, hz2, ⟨by simp, by unfold maxLen at hmx; omega, fun _ => ⟨a, rfl, fun j p hj => ?_⟩⟩, fun p hp => ?_⟩
    · have hjl : j < len := by
        have := (List.getElem?_eq_some_iff.1 hj).1
        simpa using this
      rw [List.getElem?_map, List.getElem?_range hjl] at hj
      simp at hj
      subst hj
      obtain ⟨⟨cs', hc, hK⟩, _⟩ := hf j hjl
      refine ⟨cs', d.K_len hK, hK, fun i u hu => ?_⟩
      obtain ⟨hcl, _, hat⟩ := World.cells?_some hc
      have hil : i < cs'.length := (List.getElem?_eq_some_iff.1 hu).1
      have h1 := hat i (by rw [← d.K_len hK]; exact hil)
      rw [Go.Deep.add_add] at h1
      rw [h1]
      exact hu
    · obtain ⟨i, hil, rfl⟩ := List.mem_map.1 hp
      exact (hf i (by simpa using hil)).2

theorem cells2 : Try.prog.cellsOf 2 = 1 := by kernel_rfl
theorem cells3 : Try.prog.cellsOf 3 = 1 := by kernel_rfl
theorem cells4 : Try.prog.cellsOf 4 = 1 := by kernel_rfl
theorem cells9 : Try.prog.cellsOf 9 = 1 := by kernel_rfl
theorem cells22 : Try.prog.cellsOf 22 = 1 := by kernel_rfl
theorem cells23 : Try.prog.cellsOf 23 = 1 := by kernel_rfl
theorem cells24 : Try.prog.cellsOf 24 = 1 := by kernel_rfl
theorem cells26 : Try.prog.cellsOf 26 = 10 := by kernel_rfl
theorem cells27 : Try.prog.cellsOf 27 = 1 := by kernel_rfl
theorem cells33 : Try.prog.cellsOf 33 = 1 := by kernel_rfl
theorem cells34 : Try.prog.cellsOf 34 = 1 := by kernel_rfl
theorem cells36 : Try.prog.cellsOf 36 = 7 := by kernel_rfl
theorem cells38 : Try.prog.cellsOf 38 = 7 := by kernel_rfl
theorem cells40 : Try.prog.cellsOf 40 = 9 := by kernel_rfl
theorem cells62 : Try.prog.cellsOf 62 = 2 := by kernel_rfl
theorem bytes2 : Try.prog.bytesOf 2 = 8 := by kernel_rfl
theorem bytes3 : Try.prog.bytesOf 3 = 8 := by kernel_rfl
theorem bytes33 : Try.prog.bytesOf 33 = 24 := by kernel_rfl
theorem bytes36 : Try.prog.bytesOf 36 = 56 := by kernel_rfl
theorem bytes40 : Try.prog.bytesOf 40 = 112 := by kernel_rfl
theorem bytes62 : Try.prog.bytesOf 62 = 16 := by kernel_rfl

section
variable {H : Type} {enc : TypeId × Value → H} {w : World} {spare : Nat → Bool} {held : Bool}
/-- A row of ints that came in. -/
theorem ints_sized {n : Nat} {cs : List Value} {x : DataW H × List MemPlace} (h : DataW.trod enc Try.prog w 0 spare held n 27 cs = some x) (hb : Light 27 x.1) :
    ∃ (A : Option Addr) (n c : Nat) (l : List Int), cs = [.slice A n c] ∧ n ≤ c ∧ l.length = n ∧ n ≤ 17592186043904 ∧ k1.C w A n l := by
  obtain ⟨A, n, c, l, h1, h2, h3, h4, h5, _⟩ := sized_of_trod k1 (fun _ => True) 0 8 Try.underlying27 (by rw [cells3]; rfl) bytes3 (fun n cs x h _ => by
    obtain ⟨v, rfl, _, _⟩ := DataW.trod_int Try.underlying3 h
    exact ⟨v, rfl, trivial⟩) h hb
  exact ⟨A, n, c, l, h1, h2, h3, by omega, h5⟩
theorem nums_sized {n : Nat} {cs : List Value} {x : DataW H × List MemPlace} (h : DataW.trod enc Try.prog w 0 spare held n 23 cs = some x) (hb : Light 23 x.1) :
    ∃ (A : Option Addr) (n c : Nat) (l : List Int), cs = [.slice A n c] ∧ n ≤ c ∧ l.length = n ∧ n ≤ 17592186043904 ∧ k1.C w A n l := by
  obtain ⟨A, n, c, l, h1, h2, h3, h4, h5, _⟩ := sized_of_trod k1 (fun _ => True) 0 8 Try.underlying23 (by rw [cells2]; rfl) bytes2 (fun n cs x h _ => by
    obtain ⟨v, rfl, _, _⟩ := DataW.trod_int Try.underlying2 h
    exact ⟨v, rfl, trivial⟩) h hb
  exact ⟨A, n, c, l, h1, h2, h3, by omega, h5⟩
/-- A row of types that came in. -/
theorem types_sized {n : Nat} {cs : List Value} {x : DataW H × List MemPlace} (h : DataW.trod enc Try.prog w 0 spare held n 22 cs = some x) (hb : Light 22 x.1) :
    ∃ (A : Option Addr) (n c : Nat) (l : List S62), cs = [.slice A n c] ∧ n ≤ c ∧ l.length = n ∧ n ≤ 17592186043904 ∧ k62.C w A n l := by
  obtain ⟨A, n, c, l, h1, h2, h3, h4, h5, _⟩ := sized_of_trod k62 (fun _ => True) z62 16 Try.underlying22 (by rw [cells62]; rfl) bytes62 (fun n cs x h _ => by
    obtain ⟨y0, y1, m, _, hl, h0, h1⟩ := trod_struct2 Try.underlying62 h
    rw [cells62] at hl
    match cs, hl with
    | [v0, v1], _ =>
      simp [cells3, cells4] at h0 h1
      obtain ⟨a, e0, _, _⟩ := DataW.trod_int Try.underlying3 h0
      obtain ⟨b, e1, _⟩ := DataW.trod_bool Try.underlying4 h1
      simp at e0 e1
      subst e0 e1
      exact ⟨⟨a, b⟩, k62_mk w ⟨a, b⟩, trivial⟩) h hb
  exact ⟨A, n, c, l, h1, h2, h3, by omega, h5⟩

theorem list7 {α : Type} {cs : List α} (h : cs.length = 7) : ∃ c0 c1 c2 c3 c4 c5 c6, cs = [c0, c1, c2, c3, c4, c5, c6] := by
  match cs, h with
  | [c0, c1, c2, c3, c4, c5, c6], _ => exact ⟨c0, c1, c2, c3, c4, c5, c6, rfl⟩
theorem list9 {α : Type} {cs : List α} (h : cs.length = 9) : ∃ c0 c1 c2 c3 c4 c5 c6 c7 c8, cs = [c0, c1, c2, c3, c4, c5, c6, c7, c8] := by
  match cs, h with
  | [c0, c1, c2, c3, c4, c5, c6, c7, c8], _ => exact ⟨c0, c1, c2, c3, c4, c5, c6, c7, c8, rfl⟩
theorem list10 {α : Type} {cs : List α} (h : cs.length = 10) : ∃ c0 c1 c2 c3 c4 c5 c6 c7 c8 c9, cs = [c0, c1, c2, c3, c4, c5, c6, c7, c8, c9] := by
  match cs, h with
  | [c0, c1, c2, c3, c4, c5, c6, c7, c8, c9], _ => exact ⟨c0, c1, c2, c3, c4, c5, c6, c7, c8, c9, rfl⟩
theorem list3 {α : Type} {cs : List α} (h : cs.length = 3) : ∃ c0 c1 c2, cs = [c0, c1, c2] := by
  match cs, h with
  | [c0, c1, c2], _ => exact ⟨c0, c1, c2, rfl⟩

/-- A statement that came in. -/
theorem stm_sized {n : Nat} {cs : List Value} {x : DataW H × List MemPlace} (h : DataW.trod enc Try.prog w 0 spare held n 38 cs = some x) (hb : Light 38 x.1) :
    ∃ (p : S38) (A4 A5 : Option Addr) (c4 c5 : Nat), cs = [.int .i64 p.f0, .int .i64 p.f1, .int .i64 p.f2, .int .i64 p.f3, .slice A4 p.f4.length c4, .slice A5 p.f5.length c5, .string p.f6] ∧ p.f4.length ≤ c4 ∧ k1.C w A4 p.f4.length p.f4 ∧ p.f5.length ≤ c5 ∧ k1.C w A5 p.f5.length p.f5 ∧ p.f4.length ≤ 17592186043904 ∧ p.f5.length ≤ 17592186043904 := by
  obtain ⟨xs, m, _, rfl, hl, hlen, hf⟩ := DataW.trod_struct Try.underlying38 h
  rw [cells38] at hl
  obtain ⟨v0, v1, v2, v3, v4, v5, v6, rfl⟩ := list7 hl
  obtain ⟨y0, y1, y2, y3, y4, y5, y6, rfl⟩ := list7 (cs := xs) hlen
  have h0 := hf 0 _ rfl
  have h1 := hf 1 _ rfl
  have h2 := hf 2 _ rfl
  have h3 := hf 3 _ rfl
  have h4 := hf 4 _ rfl
  have h5 := hf 5 _ rfl
  have h6 := hf 6 _ rfl
  simp [cells3, cells27, cells9] at h0 h1 h2 h3 h4 h5 h6
  obtain ⟨a0, e0, _, _⟩ := DataW.trod_int Try.underlying3 h0
  obtain ⟨a1, e1, _, _⟩ := DataW.trod_int Try.underlying3 h1
  obtain ⟨a2, e2, _, _⟩ := DataW.trod_int Try.underlying3 h2
  obtain ⟨a3, e3, _, _⟩ := DataW.trod_int Try.underlying3 h3
  obtain ⟨A4, n4, c4, l4, e4, hc4, hl4, hn4, hC4⟩ := ints_sized h4 (light_field Try.underlying38 hb (j := 4) rfl rfl)
  obtain ⟨A5, n5, c5, l5, e5, hc5, hl5, hn5, hC5⟩ := ints_sized h5 (light_field Try.underlying38 hb (j := 5) rfl rfl)
  obtain ⟨s, e6, _⟩ := DataW.trod_string Try.underlying9 h6
  simp at e0 e1 e2 e3 e4 e5 e6
  subst e0 e1 e2 e3 e4 e5 e6 hl4 hl5
  exact ⟨⟨a0, a1, a2, a3, l4, l5, s⟩, A4, A5, c4, c5, rfl, hc4, hC4, hc5, hC5, hn4, hn5⟩
/-- A way that came in. -/
theorem way_sized {n : Nat} {cs : List Value} {x : DataW H × List MemPlace} (h : DataW.trod enc Try.prog w 0 spare held n 40 cs = some x) (hb : Light 40 x.1) :
    ∃ p : S40, k40.K w p cs ∧ (p.f0.f4.length ≤ 9223372036854775807 ∧ p.f0.f5.length ≤ 9223372036854775807) := by
  obtain ⟨xs, m, _, rfl, hl, hlen, hf⟩ := DataW.trod_struct Try.underlying40 h
  rw [cells40] at hl
  obtain ⟨v0, v1, v2, v3, v4, v5, v6, v7, v8, rfl⟩ := list9 hl
  obtain ⟨y0, y1, y2, rfl⟩ := list3 (cs := xs) hlen
  have h0 := hf 0 _ rfl
  have h1 := hf 1 _ rfl
  have h2 := hf 2 _ rfl
  simp [cells3, cells38] at h0 h1 h2
  obtain ⟨p, A4, A5, c4, c5, e0, hc4, hC4, hc5, hC5, hn4, hn5⟩ := stm_sized h0 (light_field Try.underlying40 hb (j := 0) rfl rfl)
  obtain ⟨a1, e1, _, _⟩ := DataW.trod_int Try.underlying3 h1
  obtain ⟨a2, e2, _, _⟩ := DataW.trod_int Try.underlying3 h2
  simp at e0 e1 e2
  obtain ⟨rfl, rfl, rfl, rfl, rfl, rfl, rfl⟩ := e0
  subst e1 e2
  exact ⟨⟨p, a1, a2⟩, k40_mk w ⟨p, a1, a2⟩ hc4 hC4 hc5 hC5, by show p.f4.length ≤ _; omega, by show p.f5.length ≤ _; omega⟩
/-- A row of ways that came in. -/
theorem ways_sized {n : Nat} {cs : List Value} {x : DataW H × List MemPlace} (h : DataW.trod enc Try.prog w 0 spare held n 33 cs = some x) (hb : Light 33 x.1) :
    ∃ (A : Option Addr) (n c : Nat) (l : List S40), cs = [.slice A n c] ∧ n ≤ c ∧ l.length = n ∧ n ≤ 1256584717428 ∧ k40.C w A n l ∧ ∀ x, x ∈ l → x.f0.f4.length ≤ 9223372036854775807 ∧ x.f0.f5.length ≤ 9223372036854775807 := by
  obtain ⟨A, n, c, l, h1, h2, h3, h4, h5, h6⟩ := sized_of_trod k40 (fun x => x.f0.f4.length ≤ 9223372036854775807 ∧ x.f0.f5.length ≤ 9223372036854775807) ⟨⟨0, 0, 0, 0, [], [], ⟨#[]⟩⟩, 0, 0⟩ 112 Try.underlying33 (by rw [cells40]; rfl) bytes40 (fun n cs x h hb => way_sized h hb) h hb
  exact ⟨A, n, c, l, h1, h2, h3, by omega, h5, h6⟩
/-- A row of such rows. -/
theorem escs_sized {n : Nat} {cs : List Value} {x : DataW H × List MemPlace} (h : DataW.trod enc Try.prog w 0 spare held n 34 cs = some x) (hb : Light 34 x.1) :
    ∃ (A : Option Addr) (n c : Nat) (l : List (List S40)), cs = [.slice A n c] ∧ n ≤ c ∧ l.length = n ∧ n ≤ 5864062014634 ∧ (Kd.slice 40 k40).C w A n l ∧ ∀ r, r ∈ l → r.length ≤ 1256584717428 ∧ FewW r := by
  obtain ⟨A, n, c, l, h1, h2, h3, h4, h5, h6⟩ := sized_of_trod (Kd.slice 40 k40) (fun r : List S40 => r.length ≤ 1256584717428 ∧ FewW r) [] 24 Try.underlying34 (by rw [cells33]; rfl) bytes33 (fun n cs x h hb => by
    obtain ⟨A, n, c, l, rfl, hnc, rfl, hn, hC, hw⟩ := ways_sized h hb
    exact ⟨l, ⟨A, c, rfl, hnc, hC⟩, hn, ⟨by omega, hw⟩⟩) h hb
  exact ⟨A, n, c, l, h1, h2, h3, by omega, h5, h6⟩
/-- What is known of a place that came in. -/
structure Small (l : S36) : Prop where
  few : FewL l
  out : l.f0.length ≤ 1256584717428
  len : l.f1.length ≤ 5864062014634
  esc : ∀ r, r ∈ l.f1 → r.length ≤ 1256584717428
/-- A row of places that came in. -/
theorem locs_sized {n : Nat} {cs : List Value} {x : DataW H × List MemPlace} (h : DataW.trod enc Try.prog w 0 spare held n 24 cs = some x) (hb : Light 24 x.1) :
    ∃ (A : Option Addr) (n c : Nat) (l : List S36), cs = [.slice A n c] ∧ n ≤ c ∧ l.length = n ∧ n ≤ 2513169434843 ∧ k36.C w A n l ∧ ∀ r, r ∈ l → Small r := by
  obtain ⟨A, n, c, l, h1, h2, h3, h4, h5, h6⟩ := sized_of_trod k36 Small z36 56 Try.underlying24 (by rw [cells36]; rfl) bytes36 (fun n cs x h hb => by
    obtain ⟨xs, m, _, rfl, hl, hlen, hf⟩ := DataW.trod_struct Try.underlying36 h
    rw [cells36] at hl
    obtain ⟨v0, v1, v2, v3, v4, v5, v6, rfl⟩ := list7 hl
    obtain ⟨y0, y1, y2, y3, y4, y5, y6, rfl⟩ := list7 (cs := xs) hlen
    have h0 := hf 0 _ rfl
    have h1 := hf 1 _ rfl
    have h2 := hf 2 _ rfl
    have h3 := hf 3 _ rfl
    have h4 := hf 4 _ rfl
    have h5 := hf 5 _ rfl
    have h6 := hf 6 _ rfl
    simp [cells33, cells34, cells4] at h0 h1 h2 h3 h4 h5 h6
    obtain ⟨A0, n0, c0, l0, e0, hc0, hl0, hn0, hC0, hw0⟩ := ways_sized h0 (light_field Try.underlying36 hb (j := 0) rfl rfl)
    obtain ⟨A1, n1, c1, l1, e1, hc1, hl1, hn1, hC1, hw1⟩ := escs_sized h1 (light_field Try.underlying36 hb (j := 1) rfl rfl)
    obtain ⟨b2, e2, _⟩ := DataW.trod_bool Try.underlying4 h2
    obtain ⟨b3, e3, _⟩ := DataW.trod_bool Try.underlying4 h3
    obtain ⟨b4, e4, _⟩ := DataW.trod_bool Try.underlying4 h4
    obtain ⟨b5, e5, _⟩ := DataW.trod_bool Try.underlying4 h5
    obtain ⟨b6, e6, _⟩ := DataW.trod_bool Try.underlying4 h6
    simp at e0 e1 e2 e3 e4 e5 e6
    subst e0 e1 e2 e3 e4 e5 e6 hl0 hl1
    exact ⟨⟨l0, l1, b2, b3, b4, b5, b6⟩, k36_mk w ⟨l0, l1, b2, b3, b4, b5, b6⟩ hc0 hC0 hc1 hC1, ⟨⟨⟨by show l0.length ≤ _; omega, hw0⟩, by show l1.length ≤ _; omega, fun r hr => (hw1 r hr).2⟩, hn0, hn1, fun r hr => (hw1 r hr).1⟩⟩) h hb
  exact ⟨A, n, c, l, h1, h2, h3, by omega, h5, h6⟩
end
end Go.Proofs.Ytgnpmcnmcbgdcaa.Aw
