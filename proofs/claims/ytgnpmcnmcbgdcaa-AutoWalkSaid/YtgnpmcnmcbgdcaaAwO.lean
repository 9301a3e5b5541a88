/- How the reference lists a place's ways. Condition: fewer than 2^47/24 escapes. -/
import Derived.Test.YtgnpmcnmcbgdcaaAwN
set_option linter.unusedSimpArgs false
set_option linter.unusedVariables false
namespace Go.Proofs.Ytgnpmcnmcbgdcaa.Aw
open Go.RowKit Go.Proofs.YtgnpmcnmcbgdcaaW.PrintWords Go.Proofs.YtgnpmcnmcbgdcaaW.PrintLast Go.Proofs.YtgnpmcnmcbgdcaaW.PrintMore Go.Proofs.Ytgnpmcnmcbgdcaa.PAutoWalk

/-- Rows of ways that lie in an elder world. -/
def kF (w : World) : Kd (List S40) := Kd.fixed (Kd.slice 40 k40) w
theorem kF_sz (w : World) : 0 < (kF w).sz := by show 0 < 1; decide

theorem R_one {α : Type} (d : Kd α) (hd : d.sz = 1) (e : Nat) (w : World) (base : Nat) (hb : base ≤ w.heap.size) (u : Value) (x : α) (hx : ∀ ok, d.M (w.alloc (.cells #[u] e)) base ok x [u]) : d.R e (w.alloc (.cells #[u] e)) base (fun _ => True) (.slice (some ⟨w.heap.size, 0, none⟩) 1 1) [x] := by
  refine ⟨fun _ _ => trivial, [u], ?_, ?_⟩
  · rw [hd]
    exact World.ownsRow_lit (base := base) (e := e) (size := 1) w #[u] 1 hb (by unfold maxLen; omega) (by simp)
  · rw [hd]
    refine ⟨rfl, fun j p hj => ?_⟩
    cases j with
    | zero =>
      cases hj
      exact hx _
    | succ j => simp at hj

set_option maxHeartbeats 800000 in
set_option maxRecDepth 100000 in
theorem lists_walk (w W : World) (A0 A1 : Option Addr) (n0 c0 n1 c1 : Nat) (l : S36) (b2 b3 b4 b5 b6 : Bool) (hn0 : n0 = l.f0.length) (hn1 : n1 = l.f1.length) (hc0 : l.f0.length ≤ c0) (h0 : k40.C w A0 l.f0.length l.f0) (h1 : ReadsRow ((Kd.slice 40 k40).K w) 1 W A1 l.f1.length l.f1) (hl : l.f1.length ≤ 5864062014800) :
    Calls Try.prog 18 #[.agg #[.slice A0 n0 c0, .slice A1 n1 c1, .bool b2, .bool b3, .bool b4, .bool b5, .bool b6]] W fun e w' => ∃ L c', e = .returned (.slice L (n1 + 1) c') ∧ (kF w).R 33 w' W.heap.size (fun _ => True) (.slice L (n1 + 1) c') (l.f0 :: l.f1) ∧ Below W.heap.size W w' := by
  have HN := Aside0.mk (And.intro hn0 hn1)
  have H0 := Aside0.mk (And.intro hc0 h0)
  have H1 := Aside0.mk h1
  have HL := Aside0.mk hl
  clear hn0 hn1 hc0 h0 h1 hl
  go_enter Try.func18, Try.ntmps18
  go_upto_region 1 with fail
  refine wp_world (fun W1 => Aside0 (Below W.heap.size W W1 ∧ W1.heap[W.heap.size]? = some (.cells #[.slice A0 n0 c0, .slice A1 n1 c1, .bool b2, .bool b3, .bool b4, .bool b5, .bool b6] 36 (0, 0)))) ⟨below_alloc (Below.refl _ _) _, blk_new _ _⟩ (fun W1 H1a => ?_)
  have y0 : W1.cell? ⟨W.heap.size, 0, none⟩ = some (.slice A0 n0 c0) := (blk_cell H1a.out.2 0).trans rfl
  go_upto_region 2 with fail
  have hk : (kF w).K W l.f0 [.slice A0 n0 c0] := ⟨A0, c0, by rw [HN.out.1], H0.out.1, H0.out.2⟩
  have HR1 := R_one (kF w) rfl 33 W1 W.heap.size H1a.out.1.size (.slice A0 n0 c0) l.f0 (fun ok => hk)
  refine wp_world (fun W2 => Aside0 (Below W.heap.size W W2 ∧ W2.heap[W.heap.size]? = some (.cells #[.slice A0 n0 c0, .slice A1 n1 c1, .bool b2, .bool b3, .bool b4, .bool b5, .bool b6] 36 (0, 0)) ∧ (kF w).R 33 W2 W.heap.size (fun _ => True) (.slice (some ⟨W1.heap.size, 0, none⟩) 1 1) [l.f0])) ⟨below_then H1a.out.1 H1a.out.1.size (below_alloc (Below.refl _ _) _), blk_below H1a.out.2 (below_alloc (Below.refl _ _) _), HR1⟩ (fun W2 H2 => ?_)
  clear y0 HR1 hk
  have y1 : W2.cell? ⟨W.heap.size, 1, none⟩ = some (.slice A1 n1 c1) := (blk_cell H2.out.2.1 1).trans rfl
  have HRR : Aside0 (ReadsRow ((Kd.slice 40 k40).K w) 1 W2 A1 n1 l.f1) := ⟨by rw [HN.out.2]; exact reads_keep H1.out H2.out.1⟩
  have hsz := H2.out.1.size
  go_wp2_with (at_builtin; refine Kd.R_append_rows (kF w) (Rr := (Kd.slice 40 k40).K w) (w0 := W) W.heap.size rfl (.tmp 7) (.tmp 9) 34 33 (.slice none 0 0) 24 rfl Try.underlying34 info33 rfl (kF_sz w) (by decide) (.slice (some ⟨W1.heap.size, 0, none⟩) 1 1) [l.f0] l.f1 A1 n1 c1 (fun _ => True) (fun _ => False) rfl rfl H2.out.2.2 HRR.out (fun x cs hk => hk) (fun k hk => hk.elim) (fun _ _ => trivial) H2.out.1 hsz (by have := HN.out.2; have := HL.out; show (1 + n1) * 24 ≤ _; omega) ?_; intro v w3 hR hB _ _; obtain ⟨L, c', e⟩ := Kd.R_slice hR; rw [show ([l.f0] ++ l.f1).length = n1 + 1 by have := HN.out.2; simp only [List.length_append, List.length_cons, List.length_nil]; omega] at e; subst e; have HR := Aside0.mk (And.intro hR hB); clear hR hB)
  go_ret
  exact ⟨_, _, rfl, HR.out.1, HR.out.2⟩
end Go.Proofs.Ytgnpmcnmcbgdcaa.Aw
