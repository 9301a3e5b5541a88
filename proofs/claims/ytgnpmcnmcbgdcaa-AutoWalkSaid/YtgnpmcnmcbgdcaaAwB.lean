/- How places are numbered: the closures of auto.Walk. Condition: rows within the form's reach. -/
import Derived.Test.YtgnpmcnmcbgdcaaAwA
import Derived.Deep.RegionLaw
import Derived.Deep.RegionHeld3
set_option linter.unusedSimpArgs false
set_option linter.unusedVariables false
namespace Go.Proofs.Ytgnpmcnmcbgdcaa.Aw
open Go.RowKit Go.Proofs.YtgnpmcnmcbgdcaaW.PrintWords Go.Proofs.YtgnpmcnmcbgdcaaW.PrintLast Go.Proofs.YtgnpmcnmcbgdcaaW.PrintMore Go.Proofs.Ytgnpmcnmcbgdcaa.PAutoWalk

theorem wp_world {P : Program} {c : Code} {Q : Exit → Act → World → Prop} {a : Act} {w : World} (R : World → Prop) (h : R w) (k : ∀ w', R w' → c.wp P Q a w') : c.wp P Q a w := k w h

/-- Is there such a place? -/
def insideL (n : Nat) (i : Int) : Bool := decide (0 ≤ i ∧ i < n)
/-- A place is met: numbers and order. -/
def meetL (s : List Int × List Int) (i : Int) : List Int × List Int := if s.1.getD i.toNat 0 < 0 then (s.1.set i.toNat s.2.length, s.2 ++ [i]) else s

set_option maxHeartbeats 400000 in
theorem inside_walk (W : World) (g n c : Nat) (A : Option Addr) (i : Int) (h : W.cell? ⟨g, 4, none⟩ = some (.slice A n c)) :
    Calls Try.prog 8 #[.int .i64 i, .pointer (some ⟨g, 0, none⟩)] W fun e w' => e = .returned (.bool (insideL n i)) ∧ Drawn0 W w' := by
  by_cases h0 : 0 ≤ i
  · have d0 : ((0 : Int) ≤ i) = True := eq_true h0
    have e : insideL n i = decide (i < n) := by simp [insideL, h0]
    rw [e]
    clear e
    go_enter Try.func8, Try.ntmps8
    go_wp2
    go_ret
    exact ⟨by simp, by repeat (first | exact Drawn0.refl _ | apply Drawn0.step)⟩
  · have d0 : ((0 : Int) ≤ i) = False := eq_false h0
    have e : insideL n i = false := by simp [insideL, h0]
    rw [e]
    clear e
    go_enter Try.func8, Try.ntmps8
    go_wp2
    go_ret
    exact ⟨rfl, by repeat (first | exact Drawn0.refl _ | apply Drawn0.step)⟩

/-- The closure that tells whether a place is inside. -/
abbrev insideF (g2 : Nat) : Value := .func (.func 8) #[] #[.pointer (some ⟨g2, 0, none⟩)]

set_option maxHeartbeats 1000000 in
theorem ok_walk (W : World) (g2 g7 g8 pb po n c : Nat) (A : Option Addr) (b : Bool) (tw : Int) (h2 : W.cell? ⟨g2, 4, none⟩ = some (.slice A n c)) (h7 : W.cell? ⟨g7, 0, none⟩ = some (insideF g2)) (h8 : W.cell? ⟨g8, 0, none⟩ = some (.bool b)) (f8 : W.frozen? ⟨g8, 0, none⟩ = false) (hp : W.cell? ⟨pb, po + 7, none⟩ = some (.int .i64 tw)) :
    Calls Try.prog 10 #[.pointer (some ⟨pb, po, none⟩), .pointer (some ⟨g8, 0, none⟩), .pointer (some ⟨g7, 0, none⟩)] W fun e w' => e = .returned (.tuple #[]) ∧ ∃ nd, w' = (W.drewN nd).setCell ⟨g8, 0, none⟩ (.bool (b && insideL n tw)) := by
  cases b with
  | false =>
    go_enter Try.func10, Try.ntmps10
    go_wp2
    go_region
    all_goals (
      go_wp2
      refine ⟨rfl, .tuple #[], (by simp [results, Try.results10, go_sem]), rfl, ⟨1, rfl⟩⟩)
  | true =>
    have HI := Aside0.mk (fun nd => inside_walk (W.drewN nd) g2 n c A tw h2)
    go_enter Try.func10, Try.ntmps10
    go_wp2
    go_region_with ((go_at_call 8; refine (HI.out 1).mono ?_; rintro e w1 ⟨rfl, ⟨nd, rfl⟩⟩))
    all_goals (
      go_wp2
      refine ⟨rfl, .tuple #[], (by simp [results, Try.results10, go_sem]), rfl, ⟨1 + nd, rfl⟩⟩)

/-- Blocks of other types than these stay. -/
structure KeepT (T : List Nat) (W W' : World) : Prop where
  size : W.heap.size ≤ W'.heap.size
  block : ∀ (k : Nat) (cs : Array Value) (t : Nat), t ∉ T → W.heap[k]? = some (.cells cs t (0, 0)) → W'.heap[k]? = some (.cells cs t (0, 0))
namespace KeepT
theorem refl (T : List Nat) (W : World) : KeepT T W W := ⟨Nat.le_refl _, fun _ _ _ _ h => h⟩
theorem trans {T : List Nat} {W W1 W2 : World} (h : KeepT T W W1) (k : KeepT T W1 W2) : KeepT T W W2 := ⟨Nat.le_trans h.size k.size, fun b cs t ht hb => k.block b cs t ht (h.block b cs t ht hb)⟩
theorem below {T : List Nat} {W W1 : World} (h : Below W.heap.size W W1) : KeepT T W W1 := ⟨h.size, fun _ _ _ _ hb => blk_below hb h⟩
theorem drewN {T : List Nat} {W W1 : World} (h : KeepT T W W1) (n : Nat) : KeepT T W (W1.drewN n) := ⟨h.size, fun b cs t ht hb => blk_drewN (h.block b cs t ht hb) n⟩
theorem alloc {T : List Nat} {W W1 : World} (h : KeepT T W W1) (o : Obj) : KeepT T W (W1.alloc o) := h.trans (below (below_alloc (Below.refl _ _) o))
theorem set {T : List Nat} {W W1 : World} (h : KeepT T W W1) {g t0 : Nat} {cs0 : Array Value} (hg : W1.heap[g]? = some (.cells cs0 t0 (0, 0))) (ht : t0 ∈ T) (i : Nat) (u : Value) : KeepT T W (W1.setCell ⟨g, i, none⟩ u) :=
  ⟨by simpa [World.setCell] using h.size, fun b cs t hn hb => by
    have hb1 := h.block b cs t hn hb
    exact blk_far (p := ⟨g, i, none⟩) hb1 (fun e => by
      have e : b = g := e
      subst e
      rw [hg] at hb1
      injection hb1 with hb1
      injection hb1 with _ e2
      subst e2
      exact hn ht) u⟩
theorem grown {T : List Nat} {W W1 W2 : World} (h : KeepT T W W1) {row : Option Nat} (hg : W1.grownBy W2 row) (hs : W1.heap.size ≤ W2.heap.size) (ht : ∀ k, row = some k → ∃ cs t, t ∈ T ∧ W1.heap[k]? = some (.cells cs t (0, 0))) : KeepT T W W2 :=
  ⟨Nat.le_trans h.size hs, fun b cs t hn hb => by
    have hb1 := h.block b cs t hn hb
    refine blk_grown hb1 hg (fun e => ?_)
    obtain ⟨cs', t', ht', hk⟩ := ht b e.symm
    rw [hb1] at hk
    injection hk with hk
    injection hk with _ e2
    subst e2
    exact hn ht'⟩
end KeepT

/-- The numbers and the order, as the closures have them. -/
structure MW (base : Nat) (W : World) (g14 g15 gx : Nat) (B O : Option Addr) (n b m o : Nat) (s : List Int × List Int) : Prop where
  b14 : W.heap[g14]? = some (.cells #[.slice B n b] 27 (0, 0))
  b15 : W.heap[g15]? = some (.cells #[.slice O m o] 27 (0, 0))
  ne : g14 ≠ g15
  le : base ≤ g14 ∧ base ≤ g15
  num : k1.R 3 W base (fun k => some k ≠ (Value.slice O m o).ownBlock) (.slice B n b) s.1
  ord : k1.R 3 W base (fun _ => True) (.slice O m o) s.2
  far : gx < W.heap.size ∧ some gx ≠ (Value.slice B n b).ownBlock ∧ some gx ≠ (Value.slice O m o).ownBlock ∧ gx ≠ g15
theorem MW.on {base : Nat} {W W1 : World} {g14 g15 gx : Nat} {B O : Option Addr} {n b m o : Nat} {s : List Int × List Int} (h : MW base W g14 g15 gx B O n b m o s) (hb : Below W.heap.size W W1) : MW base W1 g14 g15 gx B O n b m o s := ⟨blk_below h.b14 hb, blk_below h.b15 hb, h.ne, h.le, Kd.R_below h.num hb, Kd.R_below h.ord hb, Nat.lt_of_lt_of_le h.far.1 hb.size, h.far.2⟩
theorem MW.lens {base : Nat} {W : World} {g14 g15 gx : Nat} {B O : Option Addr} {n b m o : Nat} {s : List Int × List Int} (h : MW base W g14 g15 gx B O n b m o s) : n = s.1.length ∧ m = s.2.length := ⟨(Kd.R_reads' h.num).1, (Kd.R_reads' h.ord).1⟩

/-- What a meeting leaves. -/
structure MeetP (base : Nat) (W w' : World) (g14 g15 gx : Nat) (B : Option Addr) (n b : Nat) (s : List Int × List Int) : Prop where
  ex : ∃ O m o, MW base w' g14 g15 gx B O n b m o s
  below : Below base W w'
  keep : KeepT [3, 27] W w'
  far : w'.heap[gx]? = W.heap[gx]?

theorem info3 : (Try.prog.info? 3).map (fun i => (i.zero, i.size, i.bytes)) = some (some (.int .i64 0), 1, 8) := by kernel_rfl

set_option maxHeartbeats 1000000 in
set_option maxRecDepth 100000 in
theorem meet_walk (base : Nat) (W : World) (g14 g15 gx : Nat) (B O : Option Addr) (n b m o : Nat) (s : List Int × List Int) (h : MW base W g14 g15 gx B O n b m o s) (i : Int) (h0 : 0 ≤ i) (h1 : i < n) (hm : m + 1 ≤ 17592186044416) (hbase : base ≤ W.heap.size) :
    Calls Try.prog 12 #[.int .i64 i, .pointer (some ⟨g14, 0, none⟩), .pointer (some ⟨g15, 0, none⟩)] W fun e w' => e = .returned (.tuple #[]) ∧ MeetP base W w' g14 g15 gx B n b (meetL s i) := by
  have H := Aside0.mk h
  obtain ⟨gb, cb, e, hgb, _, cells, hcs⟩ := Kd.R_form h.num (by have := h.lens.1; omega)
  injection e with e1 e2 e3
  subst e1
  subst e3
  have hn := h.lens.1
  obtain ⟨hcell, hfz⟩ := Kd.R_celln (0 : Int) h.num i h0 h1
  have c14 : W.cell? ⟨g14, 0, none⟩ = some (.slice (some ⟨gb, 0, none⟩) n b) := (blk_cell h.b14 0).trans rfl
  have c15 : W.cell? ⟨g15, 0, none⟩ = some (.slice O m o) := (blk_cell h.b15 0).trans rfl
  have f15 := blk_frozen h.b15 0
  have d0 : ((0 : Int) ≤ i) = True := eq_true h0
  have d1 : (i < (n : Int)) = True := eq_true h1
  have hrd : rdOf (0 : Int) s.1 i = s.1.getD i.toNat 0 := rfl
  rw [hrd] at hcell
  have HM := Aside0.mk (show meetL s i = if s.1.getD i.toNat 0 < 0 then (s.1.set i.toNat s.2.length, s.2 ++ [i]) else s from rfl)
  generalize s.1.getD i.toNat 0 = v at hcell HM
  have HCS := Aside0.mk (And.intro hgb hcs)
  have HLM := Aside0.mk h.lens.2
  have HHM := Aside0.mk hm
  clear hgb hcs hrd h hn e2
  by_cases hv : v < 0
  · have d2 : (v < (0 : Int)) = True := eq_true hv
    have hne : some gb ≠ (Value.slice O m o).ownBlock := H.out.num.1 gb (by simp [Value.ownBlock])
    have hO1 : k1.R 3 (W.setCell ⟨gb, i.toNat, none⟩ (.int .i64 m)) base (fun _ => True) (.slice O m o) s.2 := Kd.R_mono (Kd.R_far (p := ⟨gb, i.toNat, none⟩) (Kd.R_far1 H.out.ord rfl hne) (fun k hk => hk.2) _) (fun _ _ => trivial)
    have hN1 := Kd.R_putn H.out.num i (m : Int)
    have hB1 : Below base W (W.setCell ⟨gb, i.toNat, none⟩ (.int .i64 m)) := (Below.refl _ _).setCell HCS.out.1 _
    have h14 := blk_far (p := ⟨gb, i.toNat, none⟩) H.out.b14 (blk_ne H.out.b14 HCS.out.2 (by decide)) (.int .i64 m)
    have h15 := blk_far (p := ⟨gb, i.toNat, none⟩) H.out.b15 (blk_ne H.out.b15 HCS.out.2 (by decide)) (.int .i64 m)
    have hK1 : KeepT [3, 27] W (W.setCell ⟨gb, i.toNat, none⟩ (.int .i64 m)) := (KeepT.refl _ _).set HCS.out.2 (by decide) _ _
    have hgx : gx ≠ gb := fun e => H.out.far.2.1 (by rw [e]; simp [Value.ownBlock])
    have hX1 : (W.setCell ⟨gb, i.toNat, none⟩ (.int .i64 m)).heap[gx]? = W.heap[gx]? := Below.heap_setCell W ⟨gb, i.toNat, none⟩ _ gx hgx
    have H0 := Aside0.mk (And.intro hO1 (And.intro hN1 (And.intro hB1 (And.intro h14 (And.intro h15 (And.intro hK1 hX1))))))
    clear hO1 hN1 hB1 h14 h15 hK1 hne hX1 hgx
    go_enter Try.func12, Try.ntmps12
    go_upto_region 2 with fail
    refine wp_world (fun W1 => Aside0 (k1.R 3 W1 base (fun _ => True) (.slice O m o) s.2 ∧ k1.R 3 W1 base (fun k => some k ≠ (Value.slice O m o).ownBlock) (.slice (some ⟨gb, 0, none⟩) n b) (s.1.set i.toNat m) ∧ Below base W W1 ∧ W1.heap[g14]? = some (.cells #[.slice (some ⟨gb, 0, none⟩) n b] 27 (0, 0)) ∧ W1.heap[g15]? = some (.cells #[.slice O m o] 27 (0, 0)) ∧ KeepT [3, 27] W W1 ∧ W1.heap[gx]? = W.heap[gx]?)) ⟨H0.out⟩ (fun W1 H1 => ?_)
    have c15' : W1.cell? ⟨g15, 0, none⟩ = some (.slice O m o) := (blk_cell H1.out.2.2.2.2.1 0).trans rfl
    have hsz : base ≤ W1.heap.size := Nat.le_trans hbase H1.out.2.2.1.size
    clear H0 c14 c15 f15
    go_wp2_with (at_builtin; refine Kd.R_append k1 (w0 := W) base rfl (.tmp 14) (.tmp 16) 27 3 (.int .i64 0) 8 rfl Try.underlying27 info3 rfl (by decide) (by decide) (.slice O m o) s.2 i [.int .i64 i] (fun _ => True) (fun k => True ∧ some k ≠ (Value.slice O m o).ownBlock) rfl rfl rfl (fun k hk => hk) (fun _ _ => trivial) H1.out.1 H1.out.2.2.1 hsz (by rw [← HLM.out]; have := HHM.out; omega) ?_; intro v1 w3 hR3 hB3 hG3 hat3; have hb3 := blk_grown H1.out.2.2.2.2.1 hG3 (Kd.R_ne H1.out.1 H1.out.2.2.2.2.1 (by decide)); have H3 := Aside0.mk (And.intro hR3 (And.intro hB3 (And.intro hG3 (And.intro hat3 hb3)))); obtain ⟨A3, c3, rfl⟩ := Kd.R_slice hR3; have f153 := blk_frozen hb3 0; have c153 : w3.cell? ⟨g15, 0, none⟩ = some (.slice O m o) := (blk_cell hb3 0).trans rfl; clear hR3 hB3 hG3 hat3 hb3)
    refine ⟨rfl, .tuple #[], (by simp [results, Try.results12, go_sem]), rfl, ⟨⟨A3, s.2.length + 1, c3, ?_⟩, H3.out.2.1.setCell H.out.le.2 _, ?_, ?_⟩⟩
    · rw [HM.out, if_pos hv]
      obtain ⟨hR3, hB3, hG3, hat3, hb3⟩ := H3.out
      rw [show (s.2 ++ [i]).length = s.2.length + 1 by simp] at hR3 hat3
      have hnum3 := Kd.R_grown H1.out.2.1 hG3 (fun k hk => hk)
      refine ⟨blk_far (p := ⟨g15, 0, none⟩) (blk_grown H1.out.2.2.2.1 hG3 (Kd.R_ne H1.out.1 H1.out.2.2.2.1 (by decide))) H.out.ne _, blk_set hb3 0 _, H.out.ne, H.out.le, ?_, Kd.R_set hR3 hb3 (by decide) 0 _, by have h1 := H.out.far.1; have h2 := hB3.size; simp [World.setCell]; omega, H.out.far.2.1, ?_, H.out.far.2.2.2⟩
      rotate_left
      · rcases hat3 with hat3 | ⟨b1, hb1, hle1⟩
        · rw [hat3]
          exact H.out.far.2.2.1
        · rw [hb1]
          intro e
          cases e
          have := H.out.far.1
          have := H1.out.2.2.1.size
          omega
      rw [← HLM.out]
      refine Kd.R_set (Kd.R_mono (Kd.R_tight rfl hnum3) (fun k hk => ?_)) hb3 (by decide) 0 _
      have hkb : k = gb := by simpa [Value.ownBlock] using hk
      subst hkb
      rw [HLM.out]
      rcases hat3 with hat3 | ⟨b1, hb1, hle1⟩
      · rw [hat3]
        exact H.out.num.1 k (by simp [Value.ownBlock])
      · rw [hb1]
        intro e
        cases e
        have := blk_lt HCS.out.2
        have := H1.out.2.2.1.size
        omega
    · obtain ⟨hR3, hB3, hG3, hat3, hb3⟩ := H3.out
      exact (H1.out.2.2.2.2.2.1.grown hG3 hG3.size (fun k hk => by
        obtain ⟨cs, hcs⟩ := Kd.R_typed H1.out.1 k hk
        exact ⟨cs, 3, by decide, hcs⟩)).set hb3 (by decide) _ _
    · obtain ⟨hR3, hB3, hG3, hat3, hb3⟩ := H3.out
      rw [Below.heap_setCell w3 ⟨g15, 0, none⟩ _ gx H.out.far.2.2.2, hG3.block gx (Nat.lt_of_lt_of_le H.out.far.1 H1.out.2.2.1.size) H.out.far.2.2.1, H1.out.2.2.2.2.2.2]
  · have d2 : (v < (0 : Int)) = False := eq_false hv
    go_enter Try.func12, Try.ntmps12
    go_wp2
    refine ⟨rfl, .tuple #[], (by simp [results, Try.results12, go_sem]), rfl, ⟨⟨O, m, o, ?_⟩, Below.refl _ _, KeepT.refl _ _, rfl⟩⟩
    rw [HM.out, if_neg (by omega)]
    exact H.out

/-- The closure that meets a place. -/
abbrev meetF (g14 g15 : Nat) : Value := .func (.func 12) #[] #[.pointer (some ⟨g14, 0, none⟩), .pointer (some ⟨g15, 0, none⟩)]

set_option maxHeartbeats 1000000 in
set_option maxRecDepth 100000 in
theorem meets_walk (base : Nat) (W : World) (g14 g15 gx g16 pb po : Nat) (B O : Option Addr) (n b m o : Nat) (s : List Int × List Int) (h : MW base W g14 g15 gx B O n b m o s) (i : Int) (hp : W.cell? ⟨pb, po + 7, none⟩ = some (.int .i64 i)) (h16 : W.cell? ⟨g16, 0, none⟩ = some (meetF g14 g15)) (h0 : 0 ≤ i) (h1 : i < n) (hm : m + 1 ≤ 17592186044416) (hbase : base ≤ W.heap.size) :
    Calls Try.prog 13 #[.pointer (some ⟨pb, po, none⟩), .pointer (some ⟨g16, 0, none⟩)] W fun e w' => e = .returned (.tuple #[]) ∧ MeetP base W w' g14 g15 gx B n b (meetL s i) := by
  have HM : Aside0 (∀ W1, Below W.heap.size W W1 → Calls Try.prog 12 #[.int .i64 i, .pointer (some ⟨g14, 0, none⟩), .pointer (some ⟨g15, 0, none⟩)] W1 fun e w' => e = .returned (.tuple #[]) ∧ MeetP base W w' g14 g15 gx B n b (meetL s i)) := ⟨fun W1 hb => (meet_walk base W1 g14 g15 gx B O n b m o s (h.on hb) i h0 h1 hm (Nat.le_trans hbase hb.size)).mono (fun e w' ⟨h2, h3⟩ => ⟨h2, h3.ex, (hb.mono hbase).trans h3.below, (KeepT.below hb).trans h3.keep, h3.far.trans (hb.block gx h.far.1)⟩)⟩
  clear hm
  clear h
  go_enter Try.func13, Try.ntmps13
  go_wp2
  go_region_with ((go_at_call 12; refine (HM.out _ (by repeat (first | exact Below.refl _ _ | apply below_drew))).mono ?_; rintro e w1 ⟨rfl, hP⟩; have HP := Aside0.mk hP; clear hP))
  all_goals (
    go_wp2
    exact ⟨rfl, .tuple #[], (by simp [results, Try.results13, go_sem]), rfl, HP.out⟩)

/-- A way's place is told by its number. -/
def toL (v : Int) (x : S40) : S40 := ⟨x.f0, v, x.f2⟩

set_option maxHeartbeats 1000000 in
set_option maxRecDepth 100000 in
theorem number_walk (W : World) (g14 pb po n c : Nat) (B : Option Addr) (num : List Int) (i : Int) (h14 : W.cell? ⟨g14, 0, none⟩ = some (.slice B n c)) (hN : k1.C W B n num) (hp : W.cell? ⟨pb, po + 7, none⟩ = some (.int .i64 i)) (fp : W.frozen? ⟨pb, po + 7, none⟩ = false) (h0 : 0 ≤ i) (h1 : i < n) :
    Calls Try.prog 15 #[.pointer (some ⟨pb, po, none⟩), .pointer (some ⟨g14, 0, none⟩)] W fun e w' => e = .returned (.tuple #[]) ∧ ∃ nd, w' = (W.drewN nd).setCell ⟨pb, po + 7, none⟩ (.int .i64 (num.getD i.toNat 0)) := by
  obtain ⟨hl, _, hr⟩ := hN
  obtain ⟨ad, rfl, hc⟩ := hr (by omega)
  obtain ⟨cs, _, hk, hcc⟩ := hc i.toNat _ (List.getElem?_eq_getElem (show i.toNat < num.length by omega))
  have hk' : cs = [.int .i64 (num[i.toNat]'(by omega))] := hk
  rw [hk'] at hcc
  have hcell : W.cell? (ad.add i.toNat) = some (.int .i64 (num.getD i.toNat 0)) := by
    have := hcc 0 _ rfl
    rw [List.getD_eq_getElem?_getD, List.getElem?_eq_getElem (by omega)]
    simpa [Kd.int, Kd.scalar] using this
  generalize num.getD i.toNat 0 = v at hcell
  have d0 : ((0 : Int) ≤ i) = True := eq_true h0
  have d1 : (i < (n : Int)) = True := eq_true h1
  clear hr hc hcc hk
  go_enter Try.func15, Try.ntmps15
  go_wp2
  go_region
  all_goals (
    go_wp2
    refine ⟨rfl, .tuple #[], (by simp [results, Try.results15, go_sem]), rfl, ⟨1, rfl⟩⟩)
end Go.Proofs.Ytgnpmcnmcbgdcaa.Aw
