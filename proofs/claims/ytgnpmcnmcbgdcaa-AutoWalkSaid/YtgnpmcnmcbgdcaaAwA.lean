/- The kinds of what auto.Walk makes, and slices.Clone's walk at ways. Condition: fewer than 2^47/112 ways. -/
import Derived.Test.YtgnpmcnmcbgdcaaPAutoWalkx4
import Derived.Test.YtgnpmcnmcbgdcaaPAutoWalkx2
import Derived.Outline
import Derived.BigQuiet
import Derived.Deep.LoopGhost
import Derived.WalkMore
import Derived.Lib.SliceRun
import Derived.Maps.AppendAt
set_option linter.unusedSimpArgs false
set_option linter.unusedVariables false
namespace Go.Proofs.Ytgnpmcnmcbgdcaa.Aw
open Go.RowKit Go.Proofs.YtgnpmcnmcbgdcaaW.PrintWords Go.Proofs.YtgnpmcnmcbgdcaaW.PrintLast Go.Proofs.YtgnpmcnmcbgdcaaW.PrintMore Go.Proofs.Ytgnpmcnmcbgdcaa.PAutoWalk

abbrev k1 : Kd Int := Kd.int .i64
/-- A way whose statement lies in an elder world. -/
def k40m (w : World) : Kd S40 := Kd.iso (Kd.pair (Kd.fixed k38 w) (Kd.pair (Kd.int .i64) (Kd.int .i64))) (fun x : S40 => (x.f0, x.f1, x.f2))
/-- A row of ways of the call's own. -/
abbrev k33m (w : World) : Kd (List S40) := Kd.slice 40 (k40m w)
/-- A place whose ways are of the call's own. -/
def k36m (w : World) : Kd S36 := Kd.iso (Kd.pair (Kd.slice 40 (k40m w)) (Kd.pair (Kd.slice 33 (Kd.slice 40 (k40m w))) (Kd.pair Kd.bool (Kd.pair Kd.bool (Kd.pair Kd.bool (Kd.pair Kd.bool Kd.bool)))))) (fun x : S36 => (x.f0, x.f1, x.f2, x.f3, x.f4, x.f5, x.f6))

theorem k40m_of (w W : World) (base : Nat) (ok : Nat → Prop) (x : S40) (cs : List Value) (h : k40.K w x cs) : (k40m w).M W base ok x cs := h
theorem k40m_K (w W : World) (x : S40) (cs : List Value) (hb : Below w.heap.size w W) (h : (k40m w).K W x cs) : k40.K W x cs := by
  obtain ⟨c1, c2, e, h1, h2⟩ := h
  exact ⟨c1, c2, e, k38.K_below hb h1, h2⟩
theorem k40m_sz (w : World) : 0 < (k40m w).sz := by show 0 < 9; decide

theorem info_parts {P : Program} {t : TypeId} {z : Value} {s b : Nat} (h : (P.info? t).map (fun i => (i.zero, i.size, i.bytes)) = some (some z, s, b)) : ∃ i, P.info? t = some i ∧ i.zero = some z ∧ i.size = s ∧ i.bytes = b := by
  cases hi : P.info? t with
  | none => rw [hi] at h; cases h
  | some i =>
    rw [hi] at h
    simp at h
    exact ⟨i, rfl, h.1, h.2.1, h.2.2⟩

theorem R_made {α : Type} (d : Kd α) (e : Nat) (w : World) (base : Nat) (hb : base ≤ w.heap.size) : d.R e (w.alloc (.cells #[] e)) base (fun _ => True) (.slice (some ⟨w.heap.size, 0, none⟩) 0 0) [] :=
  ⟨fun _ _ => trivial, [], World.ownsRow_made w #[] 0 hb (Nat.zero_le _) (by simp), by simp [Reps]⟩

theorem reads_keep {α : Type} {R : α → List Value → Prop} {s n : Nat} {w W : World} {A : Option Addr} {xs : List α} (h : ReadsRow R s w A n xs) (hb : Below w.heap.size w W) : ReadsRow R s W A n xs := ReadsRow.imp_ h hb (fun _ _ hp => hp)

set_option maxHeartbeats 800000 in
set_option maxRecDepth 100000 in
theorem clone_walk (w W : World) (A : Option Addr) (c : Nat) (l : List S40) (h : ReadsRow (k40.K w) 9 W A l.length l) (hl : l.length ≤ 1256584717428) :
    Calls Try.prog 14 #[.slice A l.length c] W fun e w' => ∃ v, e = .returned v ∧ (k40m w).R 40 w' W.heap.size (fun _ => True) v l ∧ Below W.heap.size W w' := by
  have q33 : ∀ (w : World) (a : Option Addr) (n c n' c' : Nat), (binOp .eql 33 (.slice a n c) (.slice none n' c')).run Try.prog w = .ok (.bool a.isNone) w := fun w a n c n' c' => Lib.run_eql_slice_nil w _ _ a n c n' c' Try.underlying33
  cases A with
  | none =>
    have h0 : l = [] := by
      obtain ⟨_, _, hr⟩ := h
      cases l with
      | nil => rfl
      | cons x l =>
        obtain ⟨ad, e, _⟩ := hr (by simp)
        cases e
    subst h0
    clear h hl
    go_enter Try.func14, Try.ntmps14
    go_wp2
    go_ret
    exact ⟨_, rfl, Kd.R_nil _ _ _ _ _, Below.refl _ _⟩
  | some ad =>
    have H := Aside0.mk h
    clear h
    go_enter Try.func14, Try.ntmps14
    go_wp2_with (at_builtin; refine Kd.R_append_rows (k40m w) (Rr := k40.K w) (w0 := W) W.heap.size rfl (.tmp 5) (.tmp 6) 33 40 (.agg #[(.int .i64 0), (.int .i64 0), (.int .i64 0), (.int .i64 0), (.slice none 0 0), (.slice none 0 0), (.string ⟨#[]⟩), (.int .i64 0), (.int .i64 0)]) 112 rfl Try.underlying33 info40 rfl (k40m_sz w) (by decide) (.slice (some ⟨W.heap.size, 0, none⟩) 0 0) [] l (some ad) l.length c (fun _ => True) (fun _ => False) rfl rfl (R_made _ _ _ _ (Nat.le_refl _)) (reads_keep H.out (below_alloc (Below.refl _ _) _)) (fun x cs hk => k40m_of w _ _ _ x cs hk) (fun k hk => hk.elim) (fun _ _ => trivial) (below_alloc (Below.refl _ _) _) (by simp) (by simp; omega) ?_; intro v1 w1 hR hB hG _; have HR := Aside0.mk (And.intro hR hB); clear hR hB hG)
    go_ret
    exact ⟨_, rfl, by simpa using HR.out.1, HR.out.2⟩
end Go.Proofs.Ytgnpmcnmcbgdcaa.Aw
