/- What a sorted queue keeps: in plain lists. No condition. -/
import Derived.Test.YtieijoclahcipaaChN
namespace Go.Proofs.Ytieijoclahcipaa.Ch
open Go.Proofs.Ytieijoclahcipaa.PChansPut

/-- A queue that sorted puts have made. -/
structure Sorted (room : Int) (fs : List S47) (q : List (List Int)) : Prop where
  rises : Rises q
  fit : ∀ y, y ∈ q → y.length = fs.length ∧ fitsL fs y = y
  types : q ≠ [] → ∀ t, t ∈ fs → typeL t.f0 t.f1 = true
  room : q ≠ [] → (q.length : Int) ≤ room

theorem sorted_nil (room : Int) (fs : List S47) : Sorted room fs [] := ⟨List.Pairwise.nil, fun y hy => (by cases hy), fun h => absurd rfl h, fun h => absurd rfl h⟩

theorem sorted_put {room : Int} {fs : List S47} {q : List (List Int)} {m : List Int} (h : Sorted room fs q) (e : putE room fs q m = 0) : Sorted room fs (putQ room fs q m true) ∧ (putQ room fs q m true).length = q.length + 1 := by
  obtain ⟨h1, h2, h3, h4, _⟩ := put_done e
  rw [h4 true]
  refine ⟨⟨rises_ins _ _ h.rises, fun y hy => ?_, fun _ => h2, fun _ => by rw [insL_len]; omega⟩, insL_len _ _ _⟩
  rcases insL_mem hy with rfl | hy
  · exact ⟨fits_len ⟨h1.symm, rfl⟩, fitsL_fitsL fs m⟩
  · exact h.fit y hy

theorem sorted_again {room : Int} {fs : List S47} {q : List (List Int)} (h : Sorted room fs q) (j : Nat) (hj : j < q.length) : putE room fs (q.drop (j + 1)) q[j] = 0 ∧ putQ room fs (q.drop (j + 1)) q[j] true = q.drop j := by
  have hm : q[j] ∈ q := List.getElem_mem hj
  have hne : q ≠ [] := fun e => by rw [e] at hj; cases hj
  have e : putE room fs (q.drop (j + 1)) q[j] = 0 := put_may (h.fit _ hm).1 (h.types hne) (by have := h.room hne; rw [List.length_drop]; omega)
  refine ⟨e, ?_⟩
  rw [(put_done e).2.2.2.1 true, (h.fit _ hm).2]
  have hd : q.drop j = q[j] :: q.drop (j + 1) := List.drop_eq_getElem_cons hj
  have hr : Rises (q[j] :: q.drop (j + 1)) := by
    rw [← hd]
    exact List.Pairwise.sublist (List.drop_sublist _ _) h.rises
  rw [ins_head _ _ hr, hd]

theorem sorted_less {room : Int} {fs : List S47} {q : List (List Int)} (h : Sorted room fs q) (i : Nat) (hi : i + 1 < q.length) : lessL q[i + 1] q[i] = false := by
  exact List.pairwise_iff_getElem.1 h.rises i (i + 1) (by omega) hi (by omega)
end Go.Proofs.Ytieijoclahcipaa.Ch
