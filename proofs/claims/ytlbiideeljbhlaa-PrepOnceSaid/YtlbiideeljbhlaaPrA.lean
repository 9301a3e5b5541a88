/- What the preprocessor's small functions do. Condition: rows within the form's reach. -/
import Derived.Test.YtlbiideeljbhlaaPPrepSkipsx0
import Derived.Deep.RegionLaw
import Derived.Deep.RegionHeld3
import Derived.StillTailTactics
import Derived.Lib.Walk
import Derived.Outline
import Derived.Deep.LoopGhost
import Derived.WalkMore
import Derived.Lib.SliceRun
import Derived.Maps.AppendAt
import Derived.BigQuiet
set_option linter.unusedSimpArgs false
set_option linter.unusedVariables false
namespace Go.Proofs.Ytlbiideeljbhlaa.Pr
open Go.RowKit Go.Proofs.YtlbiideeljbhlaaW.PrintWords Go.Proofs.YtlbiideeljbhlaaW.PrintLast Go.Proofs.YtlbiideeljbhlaaW.PrintMore Go.Proofs.Ytlbiideeljbhlaa.PPrepSkips

theorem wp_world {P : Program} {c : Code} {Q : Exit → Act → World → Prop} {a : Act} {w : World} (R : World → Prop) (h : R w) (k : ∀ w', R w' → c.wp P Q a w') : c.wp P Q a w := k w h
/-- Blocks of other types than these stay. -/
structure KeepT (T : List Nat) (W W' : World) : Prop where
  size : W.heap.size ≤ W'.heap.size
  block : ∀ (k : Nat) (cs : Array Value) (t : Nat), t ∉ T → W.heap[k]? = some (.cells cs t (0, 0)) → W'.heap[k]? = some (.cells cs t (0, 0))
namespace KeepT
theorem refl (T : List Nat) (W : World) : KeepT T W W := ⟨Nat.le_refl _, fun _ _ _ _ h => h⟩
theorem trans {T : List Nat} {W W1 W2 : World} (h : KeepT T W W1) (k : KeepT T W1 W2) : KeepT T W W2 := ⟨Nat.le_trans h.size k.size, fun b cs t ht hb => k.block b cs t ht (h.block b cs t ht hb)⟩
theorem below {T : List Nat} {W W1 : World} (h : Below W.heap.size W W1) : KeepT T W W1 := ⟨h.size, fun _ _ _ _ hb => blk_below hb h⟩
theorem drewN {T : List Nat} {W W1 : World} (h : KeepT T W W1) (n : Nat) : KeepT T W (W1.drewN n) := ⟨h.size, fun b cs t ht hb => blk_drewN (h.block b cs t ht hb) n⟩
theorem alloc {T : List Nat} {W W1 : World} (h : KeepT T W W1) (o : Obj) : KeepT T W (W1.alloc o) := h.trans (below (below_alloc (Below.refl _ _) o))
theorem set {T : List Nat} {W W1 : World} (h : KeepT T W W1) {g t0 : Nat} {cs0 : Array Value} (hg : W1.heap[g]? = some (.cells cs0 t0 (0, 0))) (ht : t0 ∈ T) (i : Nat) (u : Value) : KeepT T W (W1.setCell ⟨g, i, none⟩ u) :=
  ⟨by simpa [World.setCell] using h.size, fun b cs t hn hb => by
    have hb1 := h.block b cs t hn hb
    exact blk_far (p := ⟨g, i, none⟩) hb1 (fun e => by
      have e : b = g := e
      subst e
      rw [hg] at hb1
      injection hb1 with hb1
      injection hb1 with _ e2
      subst e2
      exact hn ht) u⟩
theorem grown {T : List Nat} {W W1 W2 : World} (h : KeepT T W W1) {row : Option Nat} (hg : W1.grownBy W2 row) (hs : W1.heap.size ≤ W2.heap.size) (ht : ∀ k, row = some k → ∃ cs t, t ∈ T ∧ W1.heap[k]? = some (.cells cs t (0, 0))) : KeepT T W W2 :=
  ⟨Nat.le_trans h.size hs, fun b cs t hn hb => by
    have hb1 := h.block b cs t hn hb
    refine blk_grown hb1 hg (fun e => ?_)
    obtain ⟨cs', t', ht', hk⟩ := ht b e.symm
    rw [hb1] at hk
    injection hk with hk
    injection hk with _ e2
    subst e2
    exact hn ht'⟩
end KeepT

theorem reads_keep {α : Type} {R : α → List Value → Prop} {s n : Nat} {w W : World} {A : Option Addr} {xs : List α} (h : ReadsRow R s w A n xs) (hb : Below w.heap.size w W) : ReadsRow R s W A n xs := ReadsRow.imp_ h hb (fun _ _ hp => hp)
theorem R_made {α : Type} (d : Kd α) (e : Nat) (w : World) (base : Nat) (hb : base ≤ w.heap.size) : d.R e (w.alloc (.cells #[] e)) base (fun _ => True) (.slice (some ⟨w.heap.size, 0, none⟩) 0 0) [] :=
  ⟨fun _ _ => trivial, [], World.ownsRow_made w #[] 0 hb (Nat.zero_le _) (by simp), by simp [Reps]⟩
theorem R_keepT {α : Type} {d : Kd α} {e base : Nat} {W W1 : World} {ok : Nat → Prop} {v : Value} {xs : List α} {T : List Nat} (h : d.R e W base ok v xs) (hk : KeepT T W W1) (ht : ∀ q, q ∈ e :: d.E → q ∉ T) : d.R e W1 base ok v xs := by
  refine Kd.R_mono (Kd.R_move (Kd.R_bound h) (fun k hk' => ?_)) (fun _ hk => hk.1)
  obtain ⟨_, _, _, q, hq, cells, hc⟩ := hk'
  rw [hk.block k cells q (ht q hq) hc, hc]

theorem row_at {α : Type} {R : α → List Value → Prop} {s n : Nat} {w : World} {A : Option Addr} {xs : List α} (h : ReadsRow R s w A n xs) (hs : 0 < s) : ∃ b o, ∀ i (hi : i < xs.length), A = some ⟨b, o, none⟩ ∧ ∃ c, c.length = s ∧ R xs[i] c ∧ ∀ j u, c[j]? = some u → w.cell? ⟨b, o + i * s + j, none⟩ = some u := by
  obtain ⟨hl, _, hr⟩ := h
  rcases Nat.eq_zero_or_pos n with h0 | h0
  · exact ⟨0, 0, fun i hi => by omega⟩
  · obtain ⟨ad, rfl, hc⟩ := hr h0
    obtain ⟨b, o, t⟩ := ad
    have ht : t = none := by
      obtain ⟨c, hcl, _, hcc⟩ := hc 0 _ (List.getElem?_eq_getElem (show 0 < xs.length by omega))
      have := World.cell?_spot (hcc 0 _ (List.getElem?_eq_getElem (show 0 < c.length by omega)))
      unfold Addr.add at this
      rwa [if_pos (by simp)] at this
    subst ht
    refine ⟨b, o, fun i hi => ⟨rfl, ?_⟩⟩
    obtain ⟨c, hcl, hk, hcc⟩ := hc i _ (List.getElem?_eq_getElem hi)
    refine ⟨c, hcl, hk, fun j u hu => ?_⟩
    have := hcc j u hu
    rw [Go.WideShapes.add_plain] at this
    rwa [Nat.add_assoc]


/-- A token's value. -/
abbrev tokV (x : S26) : Value := .agg #[.int .i64 x.f0, .int .i64 x.f1, .int .i64 x.f2, .string x.f3, .int .i64 x.f4]
/-- A token's cells. -/
abbrev tokC (x : S26) : Array Value := #[.int .i64 x.f0, .int .i64 x.f1, .int .i64 x.f2, .string x.f3, .int .i64 x.f4]
/-- Is it a token of a kind, with a text? -/
def isT (k : Int) (x : S26) (s : ByteArray) : Bool := decide (x.f0 = k) && (x.f3.toList == s.toList)

theorem tok_cells {w : World} {A : Option Addr} {n : Nat} {l : List S26} (h : k26.C w A n l) : ∃ b o, ∀ i (hi : i < l.length), A = some ⟨b, o, none⟩ ∧ w.cell? ⟨b, o + i * 5, none⟩ = some (.int .i64 l[i].f0) ∧ w.cell? ⟨b, o + i * 5 + 1, none⟩ = some (.int .i64 l[i].f1) ∧ w.cell? ⟨b, o + i * 5 + 2, none⟩ = some (.int .i64 l[i].f2) ∧ w.cell? ⟨b, o + i * 5 + 3, none⟩ = some (.string l[i].f3) ∧ w.cell? ⟨b, o + i * 5 + 4, none⟩ = some (.int .i64 l[i].f4) := by
  obtain ⟨b, o, r⟩ := row_at h (by show 0 < 5; decide)
  refine ⟨b, o, fun i hi => ?_⟩
  obtain ⟨hA, cs, _, hK, hcc⟩ := r i hi
  obtain rfl := k26_open hK
  exact ⟨hA, hcc 0 _ rfl, hcc 1 _ rfl, hcc 2 _ rfl, hcc 3 _ rfl, hcc 4 _ rfl⟩
theorem k26_sz : 0 < k26.sz := by show 0 < 5; decide

theorem mark_walk (x : S26) (s : ByteArray) (W : World) : Calls Try.prog 15 #[tokV x, .string s] W fun e w' => e = .returned (.bool (isT 4 x s)) ∧ Below W.heap.size W w' := by
  unfold isT
  by_cases h : x.f0 = 4
  · have d0 : (x.f0 = (4 : Int)) = True := eq_true h
    go_enter Try.func15, Try.ntmps15
    go_wp2
    go_ret
    exact ⟨by simp [h], by repeat (first | exact Below.refl _ _ | apply below_drew | apply below_alloc)⟩
  · have d0 : (x.f0 = (4 : Int)) = False := eq_false h
    go_enter Try.func15, Try.ntmps15
    go_wp2
    go_ret
    exact ⟨by simp [h], by repeat (first | exact Below.refl _ _ | apply below_drew | apply below_alloc)⟩

theorem word_walk (x : S26) (s : ByteArray) (W : World) : Calls Try.prog 21 #[tokV x, .string s] W fun e w' => e = .returned (.bool (isT 1 x s)) ∧ Below W.heap.size W w' := by
  unfold isT
  by_cases h : x.f0 = 1
  · have d0 : (x.f0 = (1 : Int)) = True := eq_true h
    go_enter Try.func21, Try.ntmps21
    go_wp2
    go_ret
    exact ⟨by simp [h], by repeat (first | exact Below.refl _ _ | apply below_drew | apply below_alloc)⟩
  · have d0 : (x.f0 = (1 : Int)) = False := eq_false h
    go_enter Try.func21, Try.ntmps21
    go_wp2
    go_ret
    exact ⟨by simp [h], by repeat (first | exact Below.refl _ _ | apply below_drew | apply below_alloc)⟩

theorem isend_walk (x : S26) (W : World) : Calls Try.prog 26 #[tokV x] W fun e w' => e = .returned (.bool (decide (x.f0 = 0))) ∧ Below W.heap.size W w' := by
  go_enter Try.func26, Try.ntmps26
  go_wp2
  go_ret
  exact ⟨by rw [show (x.f0 == 0) = decide (x.f0 = 0) by rw [Bool.eq_iff_iff]; simp]; rfl, by repeat (first | exact Below.refl _ _ | apply below_drew | apply below_alloc)⟩

theorem kept_none (W : World) (gk : Nat) (h : W.cell? ⟨gk, 2, none⟩ = some (.slice none 0 0)) : Calls Try.prog 16 #[.pointer (some ⟨gk, 0, none⟩)] W fun e w' => e = .returned (.bool true) ∧ Drawn0 W w' := by
  go_enter Try.func16, Try.ntmps16
  go_wp2
  go_quiet (fail)
  go_wp2
  go_ret
  exact ⟨rfl, by repeat (first | exact Drawn0.refl _ | apply Drawn0.step)⟩

set_option maxHeartbeats 800000 in
set_option maxRecDepth 100000 in
theorem clone_walk (W : World) (A : Option Addr) (c : Nat) (l : List S26) (h : k26.C W A l.length l) (hl : l.length ≤ 2932031007401) :
    Calls Try.prog 28 #[.slice A l.length c] W fun e w' => ∃ v, e = .returned v ∧ k26.R 26 w' W.heap.size (fun _ => True) v l ∧ Below W.heap.size W w' := by
  have q22 : ∀ (w : World) (a : Option Addr) (n c n' c' : Nat), (binOp .eql 22 (.slice a n c) (.slice none n' c')).run Try.prog w = .ok (.bool a.isNone) w := fun w a n c n' c' => Lib.run_eql_slice_nil w _ _ a n c n' c' Try.underlying22
  cases A with
  | none =>
    have h0 : l = [] := by
      obtain ⟨_, _, hr⟩ := h
      cases l with
      | nil => rfl
      | cons x l =>
        obtain ⟨ad, e, _⟩ := hr (by simp)
        cases e
    subst h0
    clear h hl
    go_enter Try.func28, Try.ntmps28
    go_wp2
    go_ret
    exact ⟨_, rfl, Kd.R_nil _ _ _ _ _, Below.refl _ _⟩
  | some ad =>
    have H := Aside0.mk h
    clear h
    go_enter Try.func28, Try.ntmps28
    go_wp2_with (at_builtin; refine Kd.R_append_rows k26 (Rr := k26.K W) (w0 := W) W.heap.size rfl (.tmp 5) (.tmp 6) 22 26 (.agg #[(.int .i64 0), (.int .i64 0), (.int .i64 0), (.string ⟨#[]⟩), (.int .i64 0)]) 48 rfl Try.underlying22 info26 rfl k26_sz (by decide) (.slice (some ⟨W.heap.size, 0, none⟩) 0 0) [] l (some ad) l.length c (fun _ => True) (fun _ => False) rfl rfl (R_made _ _ _ _ (Nat.le_refl _)) (reads_keep H.out (below_alloc (Below.refl _ _) _)) (fun x cs hk => by have e := k26_open hk; subst e; exact k26_mkM _ _ _ x) (fun k hk => hk.elim) (fun _ _ => trivial) (below_alloc (Below.refl _ _) _) (by simp) (by simp; omega) ?_; intro v1 w1 hR hB hG _; have HR := Aside0.mk (And.intro hR hB); clear hR hB hG)
    go_ret
    exact ⟨_, rfl, by simpa using HR.out.1, HR.out.2⟩
end Go.Proofs.Ytlbiideeljbhlaa.Pr
