/- The statement StorePlays: whatever is put, asked and marked, in whatever order, all is answered as the document says. No condition. -/
import Derived.Test.YtihlndgnkhlphaaRows
import Derived.Test.YtihlndgnkhlphaaStY
import Derived.WalkKit
import Derived.ProofKit
import Derived.OpenShut
import Derived.ChangeOld
import Derived.Below
import Derived.SizedLaws
import Derived.Deep.Slices
import Derived.Deep.Fields
import Derived.ChangeSame
import Derived.Carry
namespace Go.Proofs.Ytihlndgnkhlphaa.storePlays
open Go.ChangeShapes Go.WideShapes Go.ChangeAt Go.RowKit Go.Deep
theorem own : ownKnob Try.prog.godebug = none := by kernel_rfl
theorem laidOut : laidOutB Try.prog = true := by kernel_rfl
theorem cells36 : Try.prog.cellsOf 36 = 4 := by kernel_rfl
theorem cells3 : Try.prog.cellsOf 3 = 1 := by kernel_rfl
theorem cells9 : Try.prog.cellsOf 9 = 1 := by kernel_rfl
theorem cells34 : Try.prog.cellsOf 34 = 1 := by kernel_rfl

/-- An act in memory: its four cells. -/
theorem act_in {H : Type} {enc : TypeId × Value → H} {w : World} {base : Nat} {spare : Nat → Bool} {held : Bool} {n : Nat} {cs : List Value} {x : DataW H × List MemPlace} (h : DataW.trod enc Try.prog w base spare held n 36 cs = some x) :
    ∃ a : St.ActD, cs = [.int .i64 a.kind, .int .i64 a.n, .string a.key, .int .u64 a.y] ∧ a.key.size ≤ maxLen := by
  obtain ⟨xs, m, _, _, hl, hxl, hf⟩ := DataW.trod_struct Try.underlying36 h
  rw [cells36] at hl
  match cs, hl, xs, hxl with
  | [v0, v1, v2, v3], _, [y0, y1, y2, y3], _ =>
    have f0 := hf 0 _ rfl
    have f1 := hf 1 _ rfl
    have f2 := hf 2 _ rfl
    have f3 := hf 3 _ rfl
    simp [cells3, cells9, cells34] at f0 f1 f2 f3
    obtain ⟨a0, e0, _, _⟩ := DataW.trod_int Try.underlying3 f0
    obtain ⟨a1, e1, _, _⟩ := DataW.trod_int Try.underlying3 f1
    obtain ⟨a2, e2, _, hs⟩ := DataW.trod_string Try.underlying9 f2
    obtain ⟨a3, e3, _, _⟩ := DataW.trod_int Try.underlying34 f3
    simp at e0 e1 e2 e3
    subst e0 e1 e2 e3
    exact ⟨⟨a0, a1, a2, a3⟩, rfl, hs⟩

/-- A row of acts in memory. -/
theorem row_in (W : World) (a : Addr) (len : Nat)
    (each : ∀ i, i < len → ∃ act : St.ActD, W.cells? 0 (a.add (i * 4)) 4 = some [.int .i64 act.kind, .int .i64 act.n, .string act.key, .int .u64 act.y] ∧ act.key.size ≤ maxLen) :
    ∃ l : List St.ActD, l.length = len ∧ (∀ (i : Nat) (t : St.ActD), l[i]? = some t → ∃ b off : Nat, some a = some (⟨b, off, none⟩ : Addr) ∧ b < W.heap.size ∧ W.cell? ⟨b, off + i * 4, none⟩ = some (.int .i64 t.kind) ∧ W.cell? ⟨b, off + i * 4 + 1, none⟩ = some (.int .i64 t.n) ∧ W.cell? ⟨b, off + i * 4 + 2, none⟩ = some (.string t.key) ∧ W.cell? ⟨b, off + i * 4 + 3, none⟩ = some (.int .u64 t.y)) ∧
      (∀ t, t ∈ l → t.key.size ≤ 9223372036854775807) := by
  obtain ⟨f, hfc⟩ : ∃ f : Nat → St.ActD, ∀ i, i < len → W.cells? 0 (a.add (i * 4)) 4 = some [.int .i64 (f i).kind, .int .i64 (f i).n, .string (f i).key, .int .u64 (f i).y] ∧ (f i).key.size ≤ maxLen := by
    refine ⟨fun i => if h : i < len then (each i h).choose else ⟨0, 0, ⟨#[]⟩, 0⟩, fun i hil => ?_⟩
    simp only [dif_pos hil]
    exact (each i hil).choose_spec
  refine ⟨(List.range len).map f, by simp, fun i t h => ?_, fun t h => ?_⟩
  · have hil : i < len := by
      have := (List.getElem?_eq_some_iff.1 h).1
      simpa using this
    rw [List.getElem?_map, List.getElem?_range hil] at h
    simp at h
    subst h
    obtain ⟨hc, _⟩ := hfc i hil
    obtain ⟨_, _, hat⟩ := World.cells?_some hc
    have k0 := hat 0 (by omega)
    have k1 := hat 1 (by omega)
    have k2 := hat 2 (by omega)
    have k3 := hat 3 (by omega)
    simp only [List.getElem?_cons_zero, List.getElem?_cons_succ] at k0 k1 k2 k3
    obtain ⟨b, off, spot⟩ := a
    have hspot : spot = none := by
      obtain ⟨_, _, hat0⟩ := World.cells?_some (hfc 0 (by omega)).1
      have z0 := hat0 0 (by omega)
      simp only [List.getElem?_cons_zero] at z0
      have := World.cell?_spot z0
      simpa [Addr.add] using this
    subst hspot
    have hb : b < W.heap.size := by
      have := World.block_lt_of_cell? W _ k0
      simpa [block_add] using this
    simp only [Go.WideShapes.add_plain, Nat.add_zero] at k0 k1 k2 k3
    exact ⟨b, off, rfl, hb, k0, k1, k2, k3⟩
  · obtain ⟨i, hil, rfl⟩ := List.mem_map.1 h
    have := (hfc i (by simpa using hil)).2
    unfold maxLen at this
    exact this

set_option maxRecDepth 100000 in
set_option maxHeartbeats 1000000 in
theorem lifted (os : Os) (started : os.Started) (H : Type) (enc : TypeId × Value → H) :
    ReturnsInHanded {} Try.checked os 3 .any (Rows.storePlaysSpec.pre6 enc Try.prog Try.f3 Rows.storePlaysRow.domain false) (Rows.storePlaysSpec.post enc Try.prog Try.f3 false true false false) := by
  refine returnsInHanded_of_change_sized (C := Try.checked) own started (by kernel_rfl) Try.func3
    (ChangeSpec.witness6 (enc := enc) (C := Try.checked) false ⟨#[], #[.int .i64 0, .slice none 0 0], []⟩ 8 (by kernel_rfl) (by kernel_rfl) (by kernel_rfl) (by kernel_rfl)) ?_
  intro W base args ds gs before hval0 hW _ _ _
  have hval : ∀ (j : Nat) t v, Try.f3.params[j]? = some t → args[j]? = some v → Value.okWide Try.prog W .any base t v := hval0
  have hW' := hW
  obtain ⟨p, q, hA0, hV, rfl, _, _⟩ := hW
  have hA : DataW.TrodAll enc Try.prog W 0 (fun _ => true) true Try.f3.params.toList args.toList ds p := hA0
  rw [Try.params3] at hA hval
  obtain ⟨v0, vs0, d0, ds0, p0, q0, hargs, rfl, rfl, h0, r0⟩ := trodAll_cons hA
  obtain ⟨v1, vs1, d1, ds1, p1, q1, rfl, rfl, rfl, h1, r1⟩ := trodAll_cons r0
  obtain ⟨rfl, rfl, rfl⟩ := trodAll_nil r1
  obtain rfl : args = #[v0, v1] := by cases args; simp_all
  obtain ⟨rfl, rfl⟩ := trodVars_none hV
  obtain ⟨most, rfl, rfl, rfl, w0⟩ := open_int Try.underlying3 (hval 0 3 v0 rfl rfl) h0
  obtain ⟨a0, len, cap, rfl⟩ := okWide_slice Try.underlying22 (hval 1 22 v1 rfl rfl)
  have h1k := h1
  obtain ⟨fuel, hf⟩ := h1
  clear hA0 hval0
  simp only [List.append_nil, List.nil_append] at hW'
  have hlt : ∀ x ∈ p1, x.block < W.heap.size := fun x hx => by simpa using hW'.lt x hx
  have fin : ∀ (W' : World), Below W.heap.size W W' → Rows.storePlaysSpec.post enc Try.checked.prog Try.f3 false true false false W #[.int .i64 most, .slice a0 len cap] (.bool true) W' := by
    intro W' hnx
    exact ⟨_, _, _, [] ++ [], _, [], hW', trodAll_mk1 (shut_bool Try.underlying4 _), trodAll_cons_mk (shut_int Try.underlying3 w0) (trodAll_mk1 (Below.trod laidOut (by kernel_rfl) (of_decide_eq_true (by kernel_rfl)) h1k hnx hlt)), rfl, hnx.frame _, fun h => by cases h⟩
  by_cases hm : most < 1 ∨ 20000 < most
  · refine (St.plays_out W most _ hm).mono fun e W' ⟨he, hnx⟩ => ?_
    subst he
    exact ⟨_, rfl, fin _ hnx⟩
  rcases open_slice Try.underlying22 hf with ⟨hcs, hx⟩ | ⟨a, len', cap', m, n, D, Pl, hcs, _, hl, hmx, hmm, hx, hi⟩
  · simp [Value.cells] at hcs
    obtain ⟨rfl, rfl, rfl⟩ := hcs
    refine (St.plays_walk W most none 0 [] (by simp) (fun i k h => by simp at h) (fun k h => by simp at h) (by omega) (by omega)).mono fun e W' ⟨he, hnx⟩ => ?_
    subst he
    exact ⟨_, rfl, fin _ hnx⟩
  · simp [Value.cells] at hcs
    obtain ⟨rfl, rfl, rfl⟩ := hcs
    simp only [if_true] at hmm
    subst hmm
    unfold maxLen at hmx
    rw [cells36] at hi
    have each : ∀ i, i < len → ∃ act : St.ActD, W.cells? 0 (a.add (i * 4)) 4 = some [.int .i64 act.kind, .int .i64 act.n, .string act.key, .int .u64 act.y] ∧ act.key.size ≤ maxLen := by
      intro i hil
      obtain ⟨cs', hc, ht⟩ := hi i (by omega)
      obtain ⟨act, rfl, hs⟩ := act_in ht
      exact ⟨act, hc, hs⟩
    obtain ⟨l, rfl, hrow, hks⟩ := row_in W a _ each
    refine (St.plays_walk W most (some a) _ l (by omega) hrow hks (by omega) (by omega)).mono fun e W' ⟨he, hnx⟩ => ?_
    subst he
    exact ⟨_, rfl, fin _ hnx⟩
theorem over : Rows.storePlaysRow.holds Try.pinned (OpenSpec.ofChange Rows.storePlaysSpec) :=
  OpenClaim.holds_of_wide 3 Try.f3 rfl rfl rfl rfl rfl rfl rfl ⟨rfl, rfl, rfl, rfl, rfl⟩ rfl rfl rfl rfl rfl (by kernel_rfl) Try.func3 (by kernel_rfl)
    (of_decide_eq_true (by kernel_rfl)) (by unfold Func.isWrapper; first | (rw [if_pos (by decide +kernel)]; kernel_rfl) | (rw [if_neg (by decide +kernel)]; exact ⟨rfl, rfl⟩))
    (fun os started H enc _ => lifted os started H enc)
end Go.Proofs.Ytihlndgnkhlphaa.storePlays
namespace Go.Proofs.Ytihlndgnkhlphaa
/-- The statement. -/
theorem storePlays_holds : Rows.StorePlaysSaid := storePlays.over
end Go.Proofs.Ytihlndgnkhlphaa
