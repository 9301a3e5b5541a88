/- How the places of a proctype are numbered by the code: the walk of auto.Walk. Condition: rows within the form's reach. -/
import Derived.Test.YtgnpmcnmcbgdcaaAwH
import Derived.Deep.RegionLaw
import Derived.Deep.RegionHeld3
import Derived.Laws.EntriesVeiled
import Derived.StillTailTactics
set_option linter.unusedSimpArgs false
set_option linter.unusedVariables false
namespace Go.Proofs.Ytgnpmcnmcbgdcaa.Aw
open Go.RowKit Go.Proofs.YtgnpmcnmcbgdcaaW.PrintWords Go.Proofs.YtgnpmcnmcbgdcaaW.PrintLast Go.Proofs.YtgnpmcnmcbgdcaaW.PrintMore Go.Proofs.Ytgnpmcnmcbgdcaa.PAutoWalk

theorem R_lit (w : World) (base : Nat) (xs : List Int) (hb : base ≤ w.heap.size) (hl : xs.length ≤ 9223372036854775807) : k1.R 3 (w.alloc (.cells (nums .i64 xs).toArray 3)) base (fun _ => True) (.slice (some ⟨w.heap.size, 0, none⟩) xs.length xs.length) xs := by
  refine Kd.R_of_own (enc := Value.int .i64) ?_ (fun _ _ => trivial)
  have h := World.ownsRow_lit (base := base) (e := 3) (size := 1) w (nums .i64 xs).toArray xs.length hb (by unfold maxLen; omega) (by simp [nums])
  simpa [encs, nums] using h

theorem int_cell {w : World} {A : Option Addr} {n : Nat} {l : List Int} (h : k1.C w A n l) (i : Nat) (hi : i < l.length) : ∃ b o, A = some ⟨b, o, none⟩ ∧ w.cell? ⟨b, o + i, none⟩ = some (.int .i64 l[i]) := by
  obtain ⟨hl, _, hr⟩ := h
  obtain ⟨ad, rfl, hc⟩ := hr (by omega)
  have cell : ∀ j (hj : j < l.length), w.cell? (ad.add j) = some (.int .i64 l[j]) := fun j hj => by
    obtain ⟨c, _, hk, hcc⟩ := hc j _ (List.getElem?_eq_getElem hj)
    have hk' : c = [.int .i64 l[j]] := hk
    rw [hk'] at hcc
    have h1 := hcc 0 _ rfl
    simpa [Kd.int, Kd.scalar] using h1
  obtain ⟨b, o, s⟩ := ad
  have hs : s = none := by
    have h0 := cell 0 (by omega)
    have := World.cell?_spot h0
    unfold Addr.add at this
    rwa [if_pos rfl] at this
  subst hs
  have := cell i hi
  rw [Go.WideShapes.add_plain] at this
  exact ⟨b, o, rfl, this⟩

/-- What stays through the walk. -/
structure AwS (w W : World) (nm : ByteArray) (par st fi ac pr pv : Int) (Af Ai A : Option Addr) (nf cf ni ci n c : Nat) : Prop where
  b2 : W.heap[w.heap.size]? = some (.cells #[.string nm, .int .i64 par, .slice Af nf cf, .slice Ai ni ci, .slice A n c, .int .i64 st, .int .i64 fi, .int .i64 ac, .int .i64 pr, .int .i64 pv] 26 (0, 0))
  b4 : W.heap[w.heap.size + 1]? = some (.cells #[.string ⟨#[]⟩, .int .i64 0, .slice none 0 0, .slice none 0 0, .slice none 0 0, .int .i64 0, .int .i64 0, .int .i64 0, .int .i64 0, .int .i64 0] 26 (0, 0))
  b7 : W.heap[w.heap.size + 1 + 1]? = some (.cells #[insideF w.heap.size] 42 (0, 0))
  below : Below w.heap.size w W
theorem AwS.on {w W W1 : World} {nm : ByteArray} {par st fi ac pr pv : Int} {Af Ai A : Option Addr} {nf cf ni ci n c : Nat} (h : AwS w W nm par st fi ac pr pv Af Ai A nf cf ni ci n c) (hb : Below W.heap.size W W1) : AwS w W1 nm par st fi ac pr pv Af Ai A nf cf ni ci n c := ⟨blk_below h.b2 hb, blk_below h.b4 hb, blk_below h.b7 hb, below_then h.below h.below.size hb⟩
theorem AwS.keep {w W W1 : World} {nm : ByteArray} {par st fi ac pr pv : Int} {Af Ai A : Option Addr} {nf cf ni ci n c : Nat} (h : AwS w W nm par st fi ac pr pv Af Ai A nf cf ni ci n c) {T : List Nat} (h26 : 26 ∉ T) (h42 : 42 ∉ T) (hk : KeepT T W W1) (hb : Below w.heap.size w W1) : AwS w W1 nm par st fi ac pr pv Af Ai A nf cf ni ci n c := ⟨hk.block _ _ _ h26 h.b2, hk.block _ _ _ h26 h.b4, hk.block _ _ _ h42 h.b7, hb⟩

theorem k33m_sz (w : World) : 0 < (k33m w).sz := by show 0 < 1; decide
theorem k36m_sz (w : World) : 0 < (k36m w).sz := by show 0 < 7; decide
theorem info36 : (Try.prog.info? 36).map (fun i => (i.zero, i.size, i.bytes)) = some (some (.agg #[.slice none 0 0, .slice none 0 0, .bool false, .bool false, .bool false, .bool false, .bool false]), 7, 56) := by kernel_rfl
theorem k36m_mkM (w W : World) (base : Nat) (ok : Nat → Prop) (x : S36) {v0 v1 : Value} (g0 : (k40m w).R 40 W base ok v0 x.f0) (g1 : (Kd.slice 40 (k40m w)).R 33 W base ok v1 x.f1) : (k36m w).M W base ok x [v0, v1, .bool x.f2, .bool x.f3, .bool x.f4, .bool x.f5, .bool x.f6] :=
  ⟨[v0], [v1, .bool x.f2, .bool x.f3, .bool x.f4, .bool x.f5, .bool x.f6], rfl, ⟨v0, rfl, g0⟩, [v1], [.bool x.f2, .bool x.f3, .bool x.f4, .bool x.f5, .bool x.f6], rfl, ⟨v1, rfl, g1⟩, [.bool x.f2], [.bool x.f3, .bool x.f4, .bool x.f5, .bool x.f6], rfl, rfl, [.bool x.f3], [.bool x.f4, .bool x.f5, .bool x.f6], rfl, rfl, [.bool x.f4], [.bool x.f5, .bool x.f6], rfl, rfl, [.bool x.f5], [.bool x.f6], rfl, rfl, rfl⟩
theorem keep10 {T : List Nat} {W : World} {g t : Nat} {cs : Array Value} (h : W.heap[g]? = some (.cells cs t (0, 0))) (ht : t ∈ T) (u0 u1 u2 u3 u4 u5 u6 u7 u8 u9 : Value) : KeepT T W ((((((((((W.setCell ⟨g, 0, none⟩ u0).setCell ⟨g, 1, none⟩ u1).setCell ⟨g, 2, none⟩ u2).setCell ⟨g, 3, none⟩ u3).setCell ⟨g, 4, none⟩ u4).setCell ⟨g, 5, none⟩ u5).setCell ⟨g, 6, none⟩ u6).setCell ⟨g, 7, none⟩ u7).setCell ⟨g, 8, none⟩ u8).setCell ⟨g, 9, none⟩ u9) := (((((((((((KeepT.refl T W).set h ht 0 u0).set (blk_set h 0 u0) ht 1 u1).set (blk_set (blk_set h 0 u0) 1 u1) ht 2 u2).set (blk_set (blk_set (blk_set h 0 u0) 1 u1) 2 u2) ht 3 u3).set (blk_set (blk_set (blk_set (blk_set h 0 u0) 1 u1) 2 u2) 3 u3) ht 4 u4).set (blk_set (blk_set (blk_set (blk_set (blk_set h 0 u0) 1 u1) 2 u2) 3 u3) 4 u4) ht 5 u5).set (blk_set (blk_set (blk_set (blk_set (blk_set (blk_set h 0 u0) 1 u1) 2 u2) 3 u3) 4 u4) 5 u5) ht 6 u6).set (blk_set (blk_set (blk_set (blk_set (blk_set (blk_set (blk_set h 0 u0) 1 u1) 2 u2) 3 u3) 4 u4) 5 u5) 6 u6) ht 7 u7).set (blk_set (blk_set (blk_set (blk_set (blk_set (blk_set (blk_set (blk_set h 0 u0) 1 u1) 2 u2) 3 u3) 4 u4) 5 u5) 6 u6) 7 u7) ht 8 u8).set (blk_set (blk_set (blk_set (blk_set (blk_set (blk_set (blk_set (blk_set (blk_set h 0 u0) 1 u1) 2 u2) 3 u3) 4 u4) 5 u5) 6 u6) 7 u7) 8 u8) ht 9 u9)
theorem below10 {w W : World} {g : Nat} (h0 : Below w.heap.size w W) (hg : w.heap.size ≤ g) (u0 u1 u2 u3 u4 u5 u6 u7 u8 u9 : Value) : Below w.heap.size w ((((((((((W.setCell ⟨g, 0, none⟩ u0).setCell ⟨g, 1, none⟩ u1).setCell ⟨g, 2, none⟩ u2).setCell ⟨g, 3, none⟩ u3).setCell ⟨g, 4, none⟩ u4).setCell ⟨g, 5, none⟩ u5).setCell ⟨g, 6, none⟩ u6).setCell ⟨g, 7, none⟩ u7).setCell ⟨g, 8, none⟩ u8).setCell ⟨g, 9, none⟩ u9) := ((((((((((h0.setCell (p := ⟨g, 0, none⟩) hg u0).setCell (p := ⟨g, 1, none⟩) hg u1).setCell (p := ⟨g, 2, none⟩) hg u2).setCell (p := ⟨g, 3, none⟩) hg u3).setCell (p := ⟨g, 4, none⟩) hg u4).setCell (p := ⟨g, 5, none⟩) hg u5).setCell (p := ⟨g, 6, none⟩) hg u6).setCell (p := ⟨g, 7, none⟩) hg u7).setCell (p := ⟨g, 8, none⟩) hg u8).setCell (p := ⟨g, 9, none⟩) hg u9)

/-- Nothing but one block is another one. -/
structure Off (g : Nat) (W0 W : World) : Prop where
  at' : ∀ k, k ≠ g → W.heap[k]? = W0.heap[k]?
theorem Off.refl (g : Nat) (W : World) : Off g W W := ⟨fun _ _ => rfl⟩
theorem Off.drew {g : Nat} {W0 W : World} (h : Off g W0 W) : Off g W0 W.drew := ⟨h.at'⟩
theorem Off.set {g : Nat} {W0 W : World} (h : Off g W0 W) (i : Nat) (u : Value) : Off g W0 (W.setCell ⟨g, i, none⟩ u) := ⟨fun k hk => (Below.heap_setCell W ⟨g, i, none⟩ u k hk).trans (h.at' k hk)⟩
theorem off10 (W : World) (g : Nat) (u0 u1 u2 u3 u4 u5 u6 u7 u8 u9 : Value) : Off g W ((((((((((W.setCell ⟨g, 0, none⟩ u0).setCell ⟨g, 1, none⟩ u1).setCell ⟨g, 2, none⟩ u2).setCell ⟨g, 3, none⟩ u3).setCell ⟨g, 4, none⟩ u4).setCell ⟨g, 5, none⟩ u5).setCell ⟨g, 6, none⟩ u6).setCell ⟨g, 7, none⟩ u7).setCell ⟨g, 8, none⟩ u8).setCell ⟨g, 9, none⟩ u9) := ((((((((((Off.refl g W).set 0 u0).set 1 u1).set 2 u2).set 3 u3).set 4 u4).set 5 u5).set 6 u6).set 7 u7).set 8 u8).set 9 u9
theorem Off.cell {g : Nat} {W0 W : World} (h : Off g W0 W) {k o : Nat} {v : Value} (hc : W0.cell? ⟨k, o, none⟩ = some v) (hk : k ≠ g) : W.cell? ⟨k, o, none⟩ = some v := (World.cell?_of_block (w := W0) (a := ⟨k, o, none⟩) (h.at' k hk)).trans hc

/-- What is told of a walk. -/
def AutoPost (w : World) (nm : ByteArray) (par st fi ac pr pv : Int) (Af Ai : Option Addr) (nf cf ni ci : Nat) (locs : List S36) (more : List Int) (e : Ending) (w' : World) : Prop :=
  if okL locs (st :: fi :: more) = true then
    ∃ (A' : Option Addr) (m' c' : Nat) (B : Option Addr) (b : Nat), e = .returned (.tuple #[.agg #[.string nm, .int .i64 par, .slice Af nf cf, .slice Ai ni ci, .slice A' m' c', .int .i64 ((numL locs st fi more).1.getD st.toNat 0), .int .i64 ((numL locs st fi more).1.getD fi.toNat 0), .int .i64 ac, .int .i64 pr, .int .i64 pv], .slice B locs.length b, .int .i64 0]) ∧
      (k36m w).R 36 w' w.heap.size (fun _ => True) (.slice A' m' c') ((numL locs st fi more).2.map fun i => rePlace (numL locs st fi more).1 (locs.getD i.toNat z36)) ∧ k1.R 3 w' w.heap.size (fun _ => True) (.slice B locs.length b) (numL locs st fi more).1 ∧ Below w.heap.size w w'
  else e = .returned (.tuple #[.agg #[.string ⟨#[]⟩, .int .i64 0, .slice none 0 0, .slice none 0 0, .slice none 0 0, .int .i64 0, .int .i64 0, .int .i64 0, .int .i64 0, .int .i64 0], .slice none 0 0, .int .i64 16]) ∧ Below w.heap.size w w'

theorem cells10 {W : World} {g : Nat} {t : TypeId} {v0 v1 v2 v3 v4 v5 v6 v7 v8 v9 : Value} (h : W.heap[g]? = some (.cells #[v0, v1, v2, v3, v4, v5, v6, v7, v8, v9] t (0, 0))) : W.cell? ⟨g, 0, none⟩ = some v0 ∧ W.cell? ⟨g, 1, none⟩ = some v1 ∧ W.cell? ⟨g, 2, none⟩ = some v2 ∧ W.cell? ⟨g, 3, none⟩ = some v3 ∧ W.cell? ⟨g, 4, none⟩ = some v4 ∧ W.cell? ⟨g, 5, none⟩ = some v5 ∧ W.cell? ⟨g, 6, none⟩ = some v6 ∧ W.cell? ⟨g, 7, none⟩ = some v7 ∧ W.cell? ⟨g, 8, none⟩ = some v8 ∧ W.cell? ⟨g, 9, none⟩ = some v9 :=
  ⟨(blk_cell h 0).trans rfl, (blk_cell h 1).trans rfl, (blk_cell h 2).trans rfl, (blk_cell h 3).trans rfl, (blk_cell h 4).trans rfl, (blk_cell h 5).trans rfl, (blk_cell h 6).trans rfl, (blk_cell h 7).trans rfl, (blk_cell h 8).trans rfl, (blk_cell h 9).trans rfl⟩
theorem frozen10 {W : World} {g : Nat} {t : TypeId} {cs : Array Value} (h : W.heap[g]? = some (.cells cs t (0, 0))) : W.frozen? ⟨g, 0, none⟩ = false ∧ W.frozen? ⟨g, 1, none⟩ = false ∧ W.frozen? ⟨g, 2, none⟩ = false ∧ W.frozen? ⟨g, 3, none⟩ = false ∧ W.frozen? ⟨g, 4, none⟩ = false ∧ W.frozen? ⟨g, 5, none⟩ = false ∧ W.frozen? ⟨g, 6, none⟩ = false ∧ W.frozen? ⟨g, 7, none⟩ = false ∧ W.frozen? ⟨g, 8, none⟩ = false ∧ W.frozen? ⟨g, 9, none⟩ = false :=
  ⟨blk_frozen h 0, blk_frozen h 1, blk_frozen h 2, blk_frozen h 3, blk_frozen h 4, blk_frozen h 5, blk_frozen h 6, blk_frozen h 7, blk_frozen h 8, blk_frozen h 9⟩

theorem all_take (f : Int → Bool) (l : List Int) (i : Nat) (h : i < l.length) : (l.take (i + 1)).all f = ((l.take i).all f && f l[i]) := by
  have e : l.take (i + 1) = l.take i ++ [l[i]] := by rw [List.take_add_one, List.getElem?_eq_getElem h]; rfl
  rw [e, List.all_append]
  simp only [List.all_cons, List.all_nil, Bool.and_true]

set_option maxHeartbeats 8000000 in
set_option maxRecDepth 100000 in
theorem auto_walk (w : World) (nm : ByteArray) (par st fi ac pr pv : Int) (Af Ai A Am : Option Addr) (nf cf ni ci c cm : Nat) (locs : List S36) (more : List Int) (hl : k36.C w A locs.length locs) (hm : k1.C w Am more.length more)
    (hln : locs.length ≤ 2513169434843) (hmn : more.length ≤ 17592186043904) (hrow : ∀ l, l ∈ locs → l.f0.length ≤ 1256584717428 ∧ l.f1.length ≤ 5864062014634 ∧ ∀ r, r ∈ l.f1 → r.length ≤ 1256584717428) :
    Calls Try.prog 4 #[.agg #[.string nm, .int .i64 par, .slice Af nf cf, .slice Ai ni ci, .slice A locs.length c, .int .i64 st, .int .i64 fi, .int .i64 ac, .int .i64 pr, .int .i64 pv], .slice Am more.length cm] w fun e w' => AutoPost w nm par st fi ac pr pv Af Ai nf cf ni ci locs more e w' := by
  have HL := Aside0.mk hl
  have HM := Aside0.mk hm
  obtain ⟨n, hn⟩ : ∃ n, n = locs.length := ⟨_, rfl⟩
  rw [← hn] at hln ⊢
  have HN := Aside0.mk hn
  have HROW := Aside0.mk hrow
  clear hl hm hn hrow
  go_enter Try.func4, Try.ntmps4
  go_upto_region 3 with fail
  refine wp_world (fun W => Aside0 (AwS w W nm par st fi ac pr pv Af Ai A nf cf ni ci n c ∧ W.heap[w.heap.size + 1 + 1 + 1]? = some (.cells #[.bool true] 4 (0, 0)))) ⟨⟨?_, ?_, ?_, ?_⟩, ?_⟩ (fun W1 H1 => ?_)
  · exact blk_alloc (blk_alloc (blk_alloc (blk_new _ _) _) _) _
  · refine blk_alloc (blk_alloc ?_ _) _
    simpa using blk_new (w.alloc (.cells #[.string nm, .int .i64 par, .slice Af nf cf, .slice Ai ni ci, .slice A n c, .int .i64 st, .int .i64 fi, .int .i64 ac, .int .i64 pr, .int .i64 pv] 26)) (.cells #[.string ⟨#[]⟩, .int .i64 0, .slice none 0 0, .slice none 0 0, .slice none 0 0, .int .i64 0, .int .i64 0, .int .i64 0, .int .i64 0, .int .i64 0] 26)
  · refine blk_alloc ?_ _
    simpa using blk_new ((w.alloc (.cells #[.string nm, .int .i64 par, .slice Af nf cf, .slice Ai ni ci, .slice A n c, .int .i64 st, .int .i64 fi, .int .i64 ac, .int .i64 pr, .int .i64 pv] 26)).alloc (.cells #[.string ⟨#[]⟩, .int .i64 0, .slice none 0 0, .slice none 0 0, .slice none 0 0, .int .i64 0, .int .i64 0, .int .i64 0, .int .i64 0, .int .i64 0] 26)) (.cells #[insideF w.heap.size] 42)
  · repeat (first | exact Below.refl _ _ | apply below_alloc)
  · simpa using blk_new (((w.alloc (.cells #[.string nm, .int .i64 par, .slice Af nf cf, .slice Ai ni ci, .slice A n c, .int .i64 st, .int .i64 fi, .int .i64 ac, .int .i64 pr, .int .i64 pv] 26)).alloc (.cells #[.string ⟨#[]⟩, .int .i64 0, .slice none 0 0, .slice none 0 0, .slice none 0 0, .int .i64 0, .int .i64 0, .int .i64 0, .int .i64 0, .int .i64 0] 26)).alloc (.cells #[insideF w.heap.size] 42)) (.cells #[.bool true] 4)
  obtain ⟨g2, hg2⟩ : ∃ g2, g2 = w.heap.size := ⟨_, rfl⟩
  have HG := Aside0.mk hg2
  rw [← hg2]
  clear hg2
  have c25 : W1.cell? ⟨g2, 5, none⟩ = some (.int .i64 st) := by rw [HG.out]; exact (blk_cell H1.out.1.b2 5).trans rfl
  have c26 : W1.cell? ⟨g2, 6, none⟩ = some (.int .i64 fi) := by rw [HG.out]; exact (blk_cell H1.out.1.b2 6).trans rfl
  have HRM := Aside0.mk (reads_keep HM.out H1.out.1.below)
  obtain ⟨rts, hrts⟩ : ∃ rts, rts = st :: fi :: more := ⟨_, rfl⟩
  obtain ⟨mr, hmr⟩ : ∃ mr, mr = rts.length := ⟨_, rfl⟩
  have hmr2 : mr ≤ 17592186043906 := by rw [hmr, hrts]; simp; omega
  have HRT := Aside0.mk hrts
  have HMR := Aside0.mk hmr
  clear hrts hmr
  go_wp2_with (at_builtin; refine Kd.R_append_rows k1 (Rr := k1.K w) (w0 := W1) W1.heap.size rfl (.tmp 32) (.tmp 33) 27 3 (.int .i64 0) 8 rfl Try.underlying27 info3 rfl (by decide) (by decide) (.slice (some ⟨W1.heap.size, 0, none⟩) 2 2) [st, fi] more Am more.length cm (fun _ => True) (fun _ => False) rfl rfl (R_lit W1 _ [st, fi] (Nat.le_refl _) (by simp)) (reads_keep HRM.out (below_alloc (Below.refl _ _) _)) (fun x cs hk => hk) (fun k hk => hk.elim) (fun _ _ => trivial) (below_alloc (Below.refl _ _) _) (by simp) (by simp; omega) ?_; intro v1 w2 hR2 hB2 _ _; rw [show [st, fi] ++ more = rts from HRT.out.symm] at hR2; obtain ⟨A2, c2, e2⟩ := Kd.R_slice hR2; rw [← HMR.out] at e2; subst e2; have H2 := Aside0.mk (And.intro (Kd.R_lower hR2 H1.out.1.below.size) hB2); clear hR2 hB2)
  clear c25 c26
  obtain ⟨g8, hg8⟩ : ∃ g8, g8 = g2 + 1 + 1 + 1 := ⟨_, rfl⟩
  obtain ⟨g7, hg7⟩ : ∃ g7, g7 = g2 + 1 + 1 := ⟨_, rfl⟩
  rw [← hg8, ← hg7]
  have HG8 := Aside0.mk (And.intro hg8 hg7)
  clear hg8 hg7
  go_loopg [36] mr (fun gg s36 wz => ∃ (i : Nat) (b : Bool), i ≤ mr ∧ mr - i ≤ gg ∧ s36 = .int .i64 i ∧ Aside0 (AwS w wz nm par st fi ac pr pv Af Ai A nf cf ni ci n c ∧ wz.heap[g8]? = some (.cells #[.bool b] 4 (0, 0)) ∧ b = (rts.take i).all (insideL n) ∧ k1.R 3 wz w.heap.size (fun _ => True) (.slice A2 mr c2) rts))
  case atStart =>
    refine ⟨0, true, Nat.zero_le _, Nat.le_of_eq (Nat.sub_zero _), rfl, ⟨H1.out.1.on H2.out.2, ?_, by simp, H2.out.1⟩⟩
    rw [HG8.out.1, HG.out]
    exact blk_below H1.out.2 H2.out.2
  case round =>
    obtain ⟨i, b, hi, hg, rfl, HW⟩ := hrel
    have c8 : wr.cell? ⟨g8, 0, none⟩ = some (.bool b) := (blk_cell HW.out.2.1 0).trans rfl
    have f8 := blk_frozen HW.out.2.1 0
    have c7 : wr.cell? ⟨g7, 0, none⟩ = some (insideF g2) := by rw [HG8.out.2, HG.out]; exact (blk_cell HW.out.1.b7 0).trans rfl
    have c24 : wr.cell? ⟨g2, 4, none⟩ = some (.slice A n c) := by rw [HG.out]; exact (blk_cell HW.out.1.b2 4).trans rfl
    have hg8w : w.heap.size ≤ g8 := by have := HG8.out.1; have := HG.out; omega
    by_cases hlt : i < mr
    · have d0 : ((i : Int) < (mr : Int)) = True := eq_true (by omega)
      obtain ⟨rb, ro, rfl, hcell⟩ := int_cell (Kd.R_reads' HW.out.2.2.2).2.2 i (by have := HMR.out; omega)
      have HAT := Aside0.mk (all_take (insideL n) rts i (by have := HMR.out; omega))
      generalize rts[i]'(by have := HMR.out; omega) = r at hcell HAT
      have HIN := Aside0.mk (inside_walk wr g2 n c A r c24)
      cases b with
      | true =>
        generalize insideL n r = ib at HIN HAT
        go_wp2_with (go_at_call 8; refine HIN.out.mono ?_; rintro e w5 ⟨rfl, ⟨nd, rfl⟩⟩)
        go_roundg (mr - (i + 1))
        case measure => omega
        case rel =>
          have hb8 := blk_drewN HW.out.2.1 nd
          refine ⟨i + 1, ib, by omega, by omega, by go_num, ⟨(HW.out.1.on (pw_below_drewN (Below.refl _ _) nd)).keep (T := [4]) (by decide) (by decide) ((KeepT.refl _ _).set hb8 (by decide) _ _) ((pw_below_drewN HW.out.1.below nd).setCell hg8w _), blk_set hb8 0 _, ?_, Kd.R_set (Kd.R_drewN HW.out.2.2.2 nd) hb8 (by decide) 0 _⟩⟩
          rw [HAT.out, ← HW.out.2.2.1]
          rfl
      | false =>
        go_wp2_with (go_at_call 8; refine HIN.out.mono ?_; rintro e w5 ⟨rfl, ⟨nd, rfl⟩⟩)
        go_roundg (mr - (i + 1))
        case measure => omega
        case rel =>
          refine ⟨i + 1, false, by omega, by omega, by go_num, ⟨HW.out.1.keep (T := [4]) (by decide) (by decide) ((KeepT.refl _ _).set HW.out.2.1 (by decide) _ _) (HW.out.1.below.setCell hg8w _), blk_set HW.out.2.1 0 _, ?_, Kd.R_set HW.out.2.2.2 HW.out.2.1 (by decide) 0 _⟩⟩
          rw [HAT.out, ← HW.out.2.2.1]
          rfl
    · have d0 : ((i : Int) < (mr : Int)) = False := eq_false (by omega)
      have hb := HW.out.2.2.1
      rw [show rts.take i = rts from List.take_of_length_le (by have := HMR.out; omega)] at hb
      have HB := Aside0.mk hb
      clear hb hi hg hlt
      go_wp2
      obtain ⟨pb, po, HPL⟩ := place_at HL.out
      have HP := Aside0.mk HPL
      clear HPL
      go_loopg [50] n (fun gg s50 wz => ∃ (j : Nat) (b' : Bool), j ≤ n ∧ n - j ≤ gg ∧ s50 = .int .i64 j ∧ Aside0 (AwS w wz nm par st fi ac pr pv Af Ai A nf cf ni ci n c ∧ wz.heap[g8]? = some (.cells #[.bool b'] 4 (0, 0)) ∧ b' = (b && (locs.take j).all (fun l => (ways l).all (fun x => insideL n x.f1)))))
      case atStart => exact ⟨0, b, Nat.zero_le _, Nat.le_of_eq (Nat.sub_zero _), rfl, ⟨HW.out.1, HW.out.2.1, by simp⟩⟩
      case round =>
        clear c8 f8 c7 c24
        obtain ⟨j, b', hj, hg, rfl, HY⟩ := hrel
        by_cases hlt : j < n
        · have d1 : ((j : Int) < (n : Int)) = True := eq_true (by omega)
          have hjl : j < locs.length := by have := HN.out; omega
          obtain ⟨rfl, A0, c0, A1, c1, hlc0, hC0, hlc1, hC1, q0, q1, q2, q3, q4, q5, q6⟩ := HP.out j hjl
          obtain ⟨b0, o0, b1, o1, E, ec, eb, eo, hPA⟩ := place_of hC0 hC1
          have HTK := Aside0.mk (show locs.take (j + 1) = locs.take j ++ [locs[j]] by rw [List.take_add_one, List.getElem?_eq_getElem hjl]; rfl)
          have hrw := HROW.out _ (List.getElem_mem hjl)
          have HE1 : Aside0 (∀ W, Below wr.heap.size wr W → Calls Try.prog 9 #[.agg #[.slice A0 locs[j].f0.length c0, .slice A1 locs[j].f1.length c1, .bool locs[j].f2, .bool locs[j].f3, .bool locs[j].f4, .bool locs[j].f5, .bool locs[j].f6], .func (.func 10) #[] #[.pointer (some ⟨g8, 0, none⟩), .pointer (some ⟨g7, 0, none⟩)]] W fun e w' => e = .returned (.tuple #[]) ∧ Aside0 ((AwS w w' nm par st fi ac pr pv Af Ai (some ⟨pb, po, none⟩) nf cf ni ci n c ∧ w'.heap[g8]? = some (.cells #[.bool (b' && (ways locs[j]).all (fun x => insideL n x.f1))] 4 (0, 0))) ∧ KeepT [4] W w')) := ⟨fun W hb => each_ok_place w W (fun W => AwS w W nm par st fi ac pr pv Af Ai (some ⟨pb, po, none⟩) nf cf ni ci n c) g2 g7 g8 n c (some ⟨pb, po, none⟩) A0 A1 c0 c1 b0 o0 b1 o1 locs[j] E ec eb eo hPA
            (fun W h => by rw [HG.out]; exact (blk_cell h.b2 4).trans rfl) (fun W h => by rw [HG8.out.2, HG.out]; exact (blk_cell h.b7 0).trans rfl) (fun W h => h.below) (fun W W' h hk hb => h.keep (by decide) (by decide) hk hb) hg8w (by omega) (by omega) (fun i h => by have := hrw.2.2 _ (List.getElem_mem h); omega) b' ⟨HY.out.1.on hb, blk_below HY.out.2.1 hb⟩⟩
          have p0 := pw_cell_below HY.out.1.below q0
          have p1 := pw_cell_below HY.out.1.below q1
          have p2 := pw_cell_below HY.out.1.below q2
          have p3 := pw_cell_below HY.out.1.below q3
          have p4 := pw_cell_below HY.out.1.below q4
          have p5 := pw_cell_below HY.out.1.below q5
          have p6 := pw_cell_below HY.out.1.below q6
          have c24 : wr.cell? ⟨g2, 4, none⟩ = some (.slice (some ⟨pb, po, none⟩) n c) := by rw [HG.out]; exact (blk_cell HY.out.1.b2 4).trans rfl
          generalize locs[j] = l at HE1 HTK p0 p1 p2 p3 p4 p5 p6
          clear q0 q1 q2 q3 q4 q5 q6 hlc0 hC0 hlc1 hC1 hrw hjl hPA
          go_wp2_with (go_at_call 9; refine (HE1.out _ (below_alloc (Below.refl _ _) _)).mono ?_; rintro e w5 ⟨rfl, HP5⟩)
          go_roundg (n - (j + 1))
          case measure => omega
          case rel =>
            refine ⟨j + 1, _, by omega, by omega, by go_num, ⟨HP5.out.1.1, HP5.out.1.2, ?_⟩⟩
            rw [HTK.out, List.all_append, HY.out.2.2]
            simp only [List.all_cons, List.all_nil, Bool.and_true, Bool.and_assoc]
        · have d1 : ((j : Int) < (n : Int)) = False := eq_false (by omega)
          have hok : b' = okL locs (st :: fi :: more) := by
            rw [HY.out.2.2, HB.out, HRT.out, show locs.take j = locs from List.take_of_length_le (by have := HN.out; omega)]
            unfold okL
            rw [← HN.out]
          have HOK := Aside0.mk hok
          have HS := Aside0.mk HY.out.1
          have c8 : wr.cell? ⟨g8, 0, none⟩ = some (.bool b') := (blk_cell HY.out.2.1 0).trans rfl
          clear hok hlt hj hg HW HY H2
          cases b' with
          | false =>
            have hb4 : wr.heap[g2 + 1]? = some (.cells #[.string ⟨#[]⟩, .int .i64 0, .slice none 0 0, .slice none 0 0, .slice none 0 0, .int .i64 0, .int .i64 0, .int .i64 0, .int .i64 0, .int .i64 0] 26 (0, 0)) := by rw [HG.out]; exact HS.out.b4
            obtain ⟨z0, z1, z2, z3, z4, z5, z6, z7, z8, z9⟩ := cells10 hb4
            obtain ⟨y0, y1, y2, y3, y4, y5, y6, y7, y8, y9⟩ := frozen10 hb4
            clear hb4
            go_wp2
            refine bodyPost_ret (v := .tuple #[.agg #[.string ⟨#[]⟩, .int .i64 0, .slice none 0 0, .slice none 0 0, .slice none 0 0, .int .i64 0, .int .i64 0, .int .i64 0, .int .i64 0, .int .i64 0], .slice none 0 0, .int .i64 16]) (by simp [results, Try.results4, go_sem, *]) rfl ?_
            unfold AutoPost
            rw [if_neg (by rw [← HOK.out]; decide)]
            refine ⟨rfl, ?_⟩
            have hle : w.heap.size ≤ g2 + 1 := by have := HG.out; omega
            repeat (first | refine Below.setCell ?_ hle _ | exact HS.out.below)
          | true =>
            have c24 : wr.cell? ⟨g2, 4, none⟩ = some (.slice A n c) := by rw [HG.out]; exact (blk_cell HS.out.b2 4).trans rfl
            have c24' : (wr.alloc (Obj.cells #[Value.int IntKind.i64 (-1)] 3)).cell? ⟨g2, 4, none⟩ = some (.slice A n c) := pw_cell_below (below_alloc (Below.refl _ _) _) c24
            have HLC := Aside0.mk (show (wr.alloc (.cells #[.int .i64 (-1)] 3)).cell? ⟨wr.heap.size, 0, none⟩ = some (.int .i64 (-1)) from (blk_cell (blk_new wr (.cells #[.int .i64 (-1)] 3)) 0).trans rfl)
            have HREP := Aside0.mk (repeat_walk (wr.alloc (.cells #[.int .i64 (-1)] 3)) wr.heap.size n HLC.out (by omega))
            go_upto_region 17 with (go_at_call 11; refine HREP.out.mono ?_; rintro e w6 ⟨gn, rfl, hR6, hB6⟩; have H6 := Aside0.mk (And.intro hR6 (below_then (below_alloc (Below.refl _ _) _) (by simp) hB6)); clear hR6 hB6)
            refine wp_world (fun W => Aside0 (AwS w W nm par st fi ac pr pv Af Ai A nf cf ni ci n c ∧ W.heap[w6.heap.size]? = some (.cells #[.slice (some ⟨gn, 0, none⟩) n n] 27 (0, 0)) ∧ k1.R 3 W w.heap.size (fun _ => True) (.slice (some ⟨gn, 0, none⟩) n n) (List.replicate n (-1)) ∧ w.heap.size ≤ w6.heap.size ∧ w6.heap.size < W.heap.size)) ⟨(HS.out.on H6.out.2).on (below_alloc (Below.refl _ _) _), blk_new _ _, Kd.R_alloc (Kd.R_lower H6.out.1 (by have := HS.out.below.size; simp; omega)) _, Nat.le_trans HS.out.below.size H6.out.2.size, by simp⟩ (fun W6 H7 => ?_)
            generalize w6.heap.size = g14 at H7 ⊢
            clear c8 c24 c24' HLC HREP H6 HS
            go_upto_region 20 with fail
            refine wp_world (fun W => Aside0 (AwS w W nm par st fi ac pr pv Af Ai A nf cf ni ci n c ∧ W.heap[g14]? = some (.cells #[.slice (some ⟨gn, 0, none⟩) n n] 27 (0, 0)) ∧ W.heap[W6.heap.size]? = some (.cells #[.slice none 0 0] 27 (0, 0)) ∧ W.heap[W6.heap.size + 1]? = some (.cells #[meetF g14 W6.heap.size] 47 (0, 0)) ∧ k1.R 3 W w.heap.size (fun _ => True) (.slice (some ⟨gn, 0, none⟩) n n) (List.replicate n (-1)))) ⟨(H7.out.1.on (below_alloc (Below.refl _ _) _)).on (below_alloc (Below.refl _ _) _), blk_alloc (blk_alloc H7.out.2.1 _) _, blk_alloc (blk_new _ _) _, ?_, Kd.R_alloc (Kd.R_alloc H7.out.2.2.1 _) _⟩ (fun W8 H8 => ?_)
            · simpa using blk_new (W6.alloc (.cells #[.slice none 0 0] 27)) (.cells #[meetF g14 W6.heap.size] 47)
            have HGE := Aside0.mk (And.intro H7.out.2.2.2.1 H7.out.2.2.2.2)
            obtain ⟨g15, hg15⟩ : ∃ g15, g15 = W6.heap.size := ⟨_, rfl⟩
            obtain ⟨g16, hg16⟩ : ∃ g16, g16 = W6.heap.size + 1 := ⟨_, rfl⟩
            rw [← hg16, ← hg15] at H8 ⊢
            rw [← hg15] at HGE
            have HG15 := Aside0.mk (show w.heap.size ≤ g15 by rw [hg15]; exact H7.out.1.below.size)
            clear hg15 hg16 H7
            clear HRM HMR hmr2
            obtain ⟨rs, hrs⟩ : ∃ rs, rs = st :: more := ⟨_, rfl⟩
            obtain ⟨m1, hm1⟩ : ∃ m1, m1 = rs.length := ⟨_, rfl⟩
            have hm12 : m1 ≤ 17592186043905 := by rw [hm1, hrs]; simp; omega
            have hm10 : 0 < m1 := by rw [hm1, hrs]; simp
            have HRS := Aside0.mk hrs
            have HM1 := Aside0.mk hm1
            clear hrs hm1
            have c25 : W8.cell? ⟨g2, 5, none⟩ = some (.int .i64 st) := by rw [HG.out]; exact (blk_cell H8.out.1.b2 5).trans rfl
            have HRM := Aside0.mk (reads_keep HM.out H8.out.1.below)
            go_wp2_with (at_builtin; refine Kd.R_append_rows k1 (Rr := k1.K w) (w0 := W8) W8.heap.size rfl (.tmp 70) (.tmp 71) 27 3 (.int .i64 0) 8 rfl Try.underlying27 info3 rfl (by decide) (by decide) (.slice (some ⟨W8.heap.size, 0, none⟩) 1 1) [st] more Am more.length cm (fun _ => True) (fun _ => False) rfl rfl (R_lit W8 _ [st] (Nat.le_refl _) (by simp)) (reads_keep HRM.out (below_alloc (Below.refl _ _) _)) (fun x cs hk => hk) (fun k hk => hk.elim) (fun _ _ => trivial) (below_alloc (Below.refl _ _) _) (by simp) (by simp; omega) ?_; intro v1 w9 hR9 hB9 _ _; rw [show [st] ++ more = rs from HRS.out.symm] at hR9; obtain ⟨gx, c9, e9, hgx, _, csx, hcsx⟩ := Kd.R_form hR9 (by rw [← HM1.out]; exact hm10); rw [← HM1.out] at e9; subst e9; have H9 := Aside0.mk (And.intro hR9 (And.intro hB9 (And.intro hgx hcsx))); clear hR9 hB9 hgx hcsx)
            clear c25 HRM
            have HX := Aside0.mk (show ∀ k (hk : k < rs.length), csx[k]? = some (.int .i64 rs[k]) from fun k hk => by
              obtain ⟨_, _, e, hc⟩ := int_cell (Kd.R_reads' H9.out.1).2.2 k hk
              cases e
              rw [Nat.zero_add, blk_cell H9.out.2.2.2] at hc
              exact hc)
            have HMW := Aside0.mk (show MW w.heap.size w9 g14 g15 gx (some ⟨gn, 0, none⟩) none n n 0 0 (List.replicate n (-1), []) from ⟨blk_below H8.out.2.1 H9.out.2.1, blk_below H8.out.2.2.1 H9.out.2.1, by have := HGE.out.2; omega, ⟨HGE.out.1, HG15.out⟩, Kd.R_mono (Kd.R_below H8.out.2.2.2.2 H9.out.2.1) (fun k _ => by simp [Value.ownBlock]), Kd.R_nil _ _ _ _ _, blk_lt H9.out.2.2.2, by
              have := H9.out.2.2.1
              have := Kd.R_lt H8.out.2.2.2.2 gn (by simp [Value.ownBlock])
              simp [Value.ownBlock]
              omega, by simp [Value.ownBlock], by
              have := H9.out.2.2.1
              have := blk_lt H8.out.2.2.1
              omega⟩)
            have HA9 := Aside0.mk (And.intro (H8.out.1.on H9.out.2.1) (blk_below H8.out.2.2.2.1 H9.out.2.1))
            have hcx := H9.out.2.2.2
            have HCX := Aside0.mk hcx
            clear hcx H9 H8
            have hok2 := HOK.out.symm
            have HOK2 := Aside0.mk hok2
            clear hok2
            go_loopg [17, 74] m1 (fun gg s17 s74 wz => ∃ (i d : Nat) (s : List Int × List Int), i ≤ m1 ∧ m1 - i ≤ gg ∧ s74 = .int .i64 i ∧ s17 = .int .i64 d ∧ Aside0 (AwS w wz nm par st fi ac pr pv Af Ai A nf cf ni ci n c ∧ wz.heap[g16]? = some (.cells #[meetF g14 g15] 47 (0, 0)) ∧ wz.heap[gx]? = some (.cells csx 3 (0, 0)) ∧ (∃ O m o, MW w.heap.size wz g14 g15 gx (some ⟨gn, 0, none⟩) O n n m o s) ∧ Good n s ∧ s = runL locs (List.replicate n (-1), []) (rs.take i) ∧ d = s.2.length))
            case atStart => exact ⟨0, 0, (List.replicate n (-1), []), Nat.zero_le _, Nat.le_of_eq (Nat.sub_zero _), rfl, rfl, ⟨HA9.out.1, HA9.out.2, HCX.out, ⟨none, 0, 0, HMW.out⟩, good_new n, rfl, rfl⟩⟩
            case round =>
              clear HA9 HCX HMW
              obtain ⟨i, d, s, hi, hg, rfl, rfl, HW⟩ := hrel
              by_cases hlt : i < m1
              · have d2 : ((i : Int) < (m1 : Int)) = True := eq_true (by omega)
                have hil : i < rs.length := by have := HM1.out; omega
                have hcell : wr.cell? ⟨gx, i, none⟩ = some (.int .i64 rs[i]) := (blk_cell HW.out.2.2.1 i).trans (HX.out i hil)
                have c16 : wr.cell? ⟨g16, 0, none⟩ = some (meetF g14 g15) := (blk_cell HW.out.2.1 0).trans rfl
                have hrin : 0 ≤ rs[i] ∧ rs[i] < (locs.length : Int) := ok_root HOK2.out (by
                  have h1 : rs[i] ∈ st :: more := HRS.out ▸ List.getElem_mem hil
                  rcases List.mem_cons.1 h1 with h1 | h1
                  · rw [h1]; exact List.mem_cons_self
                  · exact List.mem_cons_of_mem _ (List.mem_cons_of_mem _ h1))
                have HTR := Aside0.mk (show rs.take (i + 1) = rs.take i ++ [rs[i]] by rw [List.take_add_one, List.getElem?_eq_getElem hil]; rfl)
                generalize rs[i] = r at hcell hrin HTR
                have hrin2 : 0 ≤ r ∧ r < (n : Int) := by have := HN.out; omega
                have HMT : Aside0 (Calls Try.prog 12 #[.int .i64 r, .pointer (some ⟨g14, 0, none⟩), .pointer (some ⟨g15, 0, none⟩)] wr fun e w' => e = .returned (.tuple #[]) ∧ MeetP w.heap.size wr w' g14 g15 gx (some ⟨gn, 0, none⟩) n n (meetL s r)) := ⟨by
                  obtain ⟨O, m, o, hM⟩ := HW.out.2.2.2.1
                  exact meet_walk w.heap.size wr g14 g15 gx (some ⟨gn, 0, none⟩) O n n m o s hM r hrin2.1 hrin2.2 (by have := hM.lens.2; have := HW.out.2.2.2.2.1.le; omega) HW.out.1.below.size⟩
                have HRI := Aside0.mk hrin2
                clear hrin hrin2 hil
                go_wp2_with (go_at_call 12; refine HMT.out.mono ?_; rintro e w10 ⟨rfl, hP⟩; have HP10 := Aside0.mk hP; clear hP)
                obtain ⟨S1, hS1⟩ : ∃ S1, S1 = drainL locs (locs.length + 1) (meetL s r) d := ⟨_, rfl⟩
                have HS1 := Aside0.mk hS1
                have HGM := Aside0.mk (good_meet HW.out.2.2.2.2.1 r HRI.out)
                have HA10 := Aside0.mk (And.intro (HW.out.1.keep (T := [3, 27]) (by decide) (by decide) HP10.out.keep (HW.out.1.below.trans HP10.out.below)) (And.intro (HP10.out.keep.block _ _ _ (by decide) HW.out.2.1) (HP10.out.far.trans HW.out.2.2.1)))
                have hdm : d ≤ (meetL s r).2.length := by rw [HW.out.2.2.2.2.2.2]; exact HGM.out.2
                have HDM := Aside0.mk hdm
                clear hS1 hdm hcell c16 HMT
                go_loopg [17] n (fun gg s17 wz => ∃ (e k : Nat) (s2 : List Int × List Int), e ≤ n ∧ n - e ≤ gg ∧ s17 = .int .i64 e ∧ Aside0 (AwS w wz nm par st fi ac pr pv Af Ai A nf cf ni ci n c ∧ wz.heap[g16]? = some (.cells #[meetF g14 g15] 47 (0, 0)) ∧ wz.heap[gx]? = some (.cells csx 3 (0, 0)) ∧ (∃ O m o, MW w.heap.size wz g14 g15 gx (some ⟨gn, 0, none⟩) O n n m o s2) ∧ Good n s2 ∧ e ≤ s2.2.length ∧ drainL locs k s2 e = S1 ∧ n - e < k))
                case atStart => exact ⟨d, locs.length + 1, meetL s r, Nat.le_trans HDM.out HGM.out.1.le, by omega, rfl, ⟨HA10.out.1, HA10.out.2.1, HA10.out.2.2, HP10.out.ex, HGM.out.1, HDM.out, HS1.out.symm, by have := HN.out; omega⟩⟩
                case round =>
                  clear HA10 HP10 HGM
                  obtain ⟨e, k, s2, hen, hg2, rfl, HV⟩ := hrel
                  obtain ⟨O, m, o, hM⟩ := HV.out.2.2.2.1
                  have hml := hM.lens.2
                  have c15 : wr.cell? ⟨g15, 0, none⟩ = some (.slice O m o) := (blk_cell hM.b15 0).trans rfl
                  have HMW := Aside0.mk hM
                  have HML := Aside0.mk hml
                  by_cases hem : e < m
                  · have d3 : ((e : Int) < (m : Int)) = True := eq_true (by omega)
                    obtain ⟨go, oo, rfl, hoc⟩ := int_cell (Kd.R_reads' hM.ord).2.2 e (by omega)
                    have hin := HV.out.2.2.2.2.1.inn (s2.2[e]'(by omega)) (List.getElem_mem _)
                    have HGD := Aside0.mk (show s2.2.getD e 0 = s2.2[e]'(by omega) by rw [List.getD_eq_getElem?_getD, List.getElem?_eq_getElem (by omega)]; rfl)
                    generalize s2.2[e]'(by omega) = x at hoc hin HGD
                    obtain ⟨xn, rfl⟩ : ∃ xn : Nat, x = (xn : Int) := ⟨x.toNat, by omega⟩
                    have hxl : xn < locs.length := by have := HN.out; omega
                    have d4 : ((xn : Int) < (n : Int)) = True := eq_true (by omega)
                    obtain ⟨rfl, A0, c0, A1, c1, hlc0, hC0, hlc1, hC1, q0, q1, q2, q3, q4, q5, q6⟩ := HP.out xn hxl
                    obtain ⟨b0, o0, b1, o1, E, ec, eb, eo, hPA⟩ := place_of hC0 hC1
                    have hrw := HROW.out _ (List.getElem_mem hxl)
                    have HGX := Aside0.mk (show locs.getD (s2.2.getD e 0).toNat z36 = locs[xn] by rw [HGD.out, Int.toNat_natCast, List.getD_eq_getElem?_getD, List.getElem?_eq_getElem hxl]; rfl)
                    have hwy := ok_loc HOK2.out xn hxl
                    rw [← HN.out] at hwy
                    have HE1 : Aside0 (∀ W, Below wr.heap.size wr W → Calls Try.prog 9 #[.agg #[.slice A0 locs[xn].f0.length c0, .slice A1 locs[xn].f1.length c1, .bool locs[xn].f2, .bool locs[xn].f3, .bool locs[xn].f4, .bool locs[xn].f5, .bool locs[xn].f6], .func (.func 13) #[] #[.pointer (some ⟨g16, 0, none⟩)]] W fun e w' => e = .returned (.tuple #[]) ∧ Aside0 (((AwS w w' nm par st fi ac pr pv Af Ai (some ⟨pb, po, none⟩) nf cf ni ci n c ∧ w'.heap[g16]? = some (.cells #[meetF g14 g15] 47 (0, 0)) ∧ w'.heap[gx]? = some (.cells csx 3 (0, 0))) ∧ ∃ O m o, MW w.heap.size w' g14 g15 gx (some ⟨gn, 0, none⟩) O n n m o (meetsL s2 (ways locs[xn]))) ∧ KeepT [3, 27] W w')) := ⟨fun W hb => each_meet_place w W (fun W => AwS w W nm par st fi ac pr pv Af Ai (some ⟨pb, po, none⟩) nf cf ni ci n c ∧ W.heap[g16]? = some (.cells #[meetF g14 g15] 47 (0, 0)) ∧ W.heap[gx]? = some (.cells csx 3 (0, 0))) g14 g15 gx g16 n n (some ⟨gn, 0, none⟩) A0 A1 c0 c1 b0 o0 b1 o1 locs[xn] E ec eb eo hPA
                      (fun W h => (blk_cell h.2.1 0).trans rfl) (fun W h => h.1.below) (fun W W' h hk hb hx => ⟨h.1.keep (by decide) (by decide) hk hb, hk.block _ _ _ (by decide) h.2.1, hx.trans h.2.2⟩) (by omega) (by omega) (fun i h => by have := hrw.2.2 _ (List.getElem_mem h); omega) s2 HV.out.2.2.2.2.1 hwy (by omega) ⟨⟨HV.out.1.on hb, blk_below HV.out.2.1 hb, blk_below HV.out.2.2.1 hb⟩, _, _, _, HMW.out.on hb⟩⟩
                    have p0 := pw_cell_below HV.out.1.below q0
                    have p1 := pw_cell_below HV.out.1.below q1
                    have p2 := pw_cell_below HV.out.1.below q2
                    have p3 := pw_cell_below HV.out.1.below q3
                    have p4 := pw_cell_below HV.out.1.below q4
                    have p5 := pw_cell_below HV.out.1.below q5
                    have p6 := pw_cell_below HV.out.1.below q6
                    have c24 : wr.cell? ⟨g2, 4, none⟩ = some (.slice (some ⟨pb, po, none⟩) n c) := by rw [HG.out]; exact (blk_cell HV.out.1.b2 4).trans rfl
                    have HGW := Aside0.mk (good_meets (ways locs[xn]) HV.out.2.2.2.2.1 hwy)
                    generalize locs[xn] = l at HE1 HGX HGW p0 p1 p2 p3 p4 p5 p6
                    have HXN := Aside0.mk hin
                    clear q0 q1 q2 q3 q4 q5 q6 hlc0 hC0 hlc1 hC1 hrw hxl hPA hwy hM hml hin
                    go_wp2
                    go_still_tail 10, (by kernel_rfl)
                    change wpList _ _ _ _ _ wr.drew
                    go_wp2_with (go_at_call 9; refine (HE1.out _ (below_drew (Below.refl _ _))).mono ?_; rintro e w5 ⟨rfl, HP5⟩)
                    go_roundg (n - (e + 1))
                    case measure => have := HV.out.2.2.2.2.1.le; have := HML.out; omega
                    case rel =>
                      have hes : e < s2.2.length := by have := HML.out; omega
                      obtain ⟨k', rfl⟩ : ∃ k', k = k' + 1 := ⟨k - 1, by have := HV.out.2.2.2.2.2.2.2; omega⟩
                      have hdr := HV.out.2.2.2.2.2.2.1
                      rw [drain_step _ _ _ _ hes, HGX.out] at hdr
                      refine ⟨e + 1, k', meetsL s2 (ways l), by have := HV.out.2.2.2.2.1.le; omega, by omega, by go_num, ⟨HP5.out.1.1.1, HP5.out.1.1.2.1, HP5.out.1.1.2.2, HP5.out.1.2, HGW.out.1, by have := HGW.out.2; omega, hdr, by have := HV.out.2.2.2.2.2.2.2; have := HV.out.2.2.2.2.1.le; omega⟩⟩
                  · have d3 : ((e : Int) < (m : Int)) = False := eq_false (by omega)
                    have hes : s2.2.length ≤ e := by omega
                    have hS2 : s2 = S1 := by rw [← HV.out.2.2.2.2.2.2.1, drain_end _ _ _ _ hes]
                    have HS2 := Aside0.mk (And.intro hS2 (show e = s2.2.length by have := HV.out.2.2.2.2.2.1; omega))
                    clear hS2 hes hem hml hM hen
                    go_wp2
                    go_roundg (m1 - (i + 1))
                    case measure => omega
                    case rel =>
                      refine ⟨i + 1, e, s2, by omega, by omega, by go_num, rfl, ⟨HV.out.1, HV.out.2.1, HV.out.2.2.1, HV.out.2.2.2.1, HV.out.2.2.2.2.1, ?_, HS2.out.2⟩⟩
                      rw [HTR.out, run_snoc, HS2.out.1, HS1.out, HW.out.2.2.2.2.2.2, ← HW.out.2.2.2.2.2.1]
              · have d2 : ((i : Int) < (m1 : Int)) = False := eq_false (by omega)
                have hsr := HW.out.2.2.2.2.2.1
                rw [show rs.take i = st :: more by rw [List.take_of_length_le (by have := HM1.out; omega)]; exact HRS.out] at hsr
                have HSR := Aside0.mk hsr
                have c16 : wr.cell? ⟨g16, 0, none⟩ = some (meetF g14 g15) := (blk_cell HW.out.2.1 0).trans rfl
                have c26 : wr.cell? ⟨g2, 6, none⟩ = some (.int .i64 fi) := by rw [HG.out]; exact (blk_cell HW.out.1.b2 6).trans rfl
                have hfi : 0 ≤ fi ∧ fi < (locs.length : Int) := ok_root HOK2.out (List.mem_cons_of_mem _ List.mem_cons_self)
                have hsi : 0 ≤ st ∧ st < (locs.length : Int) := ok_root HOK2.out List.mem_cons_self
                rw [← HN.out] at hfi hsi
                have HFS := Aside0.mk (And.intro hfi hsi)
                have HMT : Aside0 (Calls Try.prog 12 #[.int .i64 fi, .pointer (some ⟨g14, 0, none⟩), .pointer (some ⟨g15, 0, none⟩)] wr fun e w' => e = .returned (.tuple #[]) ∧ MeetP w.heap.size wr w' g14 g15 gx (some ⟨gn, 0, none⟩) n n (meetL s fi)) := ⟨by
                  obtain ⟨O, m, o, hM⟩ := HW.out.2.2.2.1
                  exact meet_walk w.heap.size wr g14 g15 gx (some ⟨gn, 0, none⟩) O n n m o s hM fi hfi.1 hfi.2 (by have := hM.lens.2; have := HW.out.2.2.2.2.1.le; omega) HW.out.1.below.size⟩
                clear hsr hfi hsi hlt hg hi
                go_upto_region 29 with (go_at_call 12; refine HMT.out.mono ?_; rintro e w10 ⟨rfl, hP⟩; have HP10 := Aside0.mk hP; clear hP)
                obtain ⟨sf, hsf⟩ : ∃ sf, sf = meetL s fi := ⟨_, rfl⟩
                have HNL := Aside0.mk (show numL locs st fi more = sf by unfold numL; rw [hsf, HSR.out, HN.out])
                have HGF := Aside0.mk (show Good n sf by rw [hsf]; exact (good_meet HW.out.2.2.2.2.1 fi HFS.out.1).1)
                have hP2 := HP10.out
                rw [← hsf] at hP2
                have HA := Aside0.mk (HW.out.1.keep (T := [3, 27]) (by decide) (by decide) hP2.keep (HW.out.1.below.trans hP2.below))
                obtain ⟨O, m, o, hM⟩ := hP2.ex
                have HMM := Aside0.mk hM
                clear hM hP2 HP10 HMT hsf c16 c26 HSR
                clear HW
                obtain ⟨num, ord⟩ := sf
                have hb2 : w10.heap[g2]? = some (.cells #[.string nm, .int .i64 par, .slice Af nf cf, .slice Ai ni ci, .slice A n c, .int .i64 st, .int .i64 fi, .int .i64 ac, .int .i64 pr, .int .i64 pv] 26 (0, 0)) := by rw [HG.out]; exact HA.out.b2
                obtain ⟨z0, z1, z2, z3, z4, z5, z6, z7, z8, z9⟩ := cells10 hb2
                clear hb2
                go_upto_region 30 with fail
                refine wp_world (fun W => Aside0 (AwS w W nm par st fi ac pr pv Af Ai A nf cf ni ci n c ∧ MW w.heap.size W g14 g15 gx (some ⟨gn, 0, none⟩) O n n m o (num, ord) ∧ W.heap[w10.heap.size]? = some (.cells #[.string nm, .int .i64 par, .slice Af nf cf, .slice Ai ni ci, .slice A n c, .int .i64 st, .int .i64 fi, .int .i64 ac, .int .i64 pr, .int .i64 pv] 26 (0, 0)))) ⟨HA.out.on (below_alloc (Below.refl _ _) _), HMM.out.on (below_alloc (Below.refl _ _) _), blk_new _ _⟩ (fun W11 H11 => ?_)
                have HG20 := Aside0.mk (show w.heap.size ≤ w10.heap.size ∧ g2 < w10.heap.size ∧ w.heap.size + 1 < w10.heap.size from ⟨HA.out.below.size, by rw [HG.out]; exact blk_lt HA.out.b2, blk_lt HA.out.b4⟩)
                generalize w10.heap.size = g20 at H11 HG20 ⊢
                clear z0 z1 z2 z3 z4 z5 z6 z7 z8 z9 HA HMM
                obtain ⟨sn, rfl⟩ : ∃ sn : Nat, st = (sn : Int) := ⟨st.toNat, by have := HFS.out.2; omega⟩
                obtain ⟨fn, rfl⟩ : ∃ fn : Nat, fi = (fn : Int) := ⟨fi.toNat, by have := HFS.out.1; omega⟩
                have d5 : ((sn : Int) < (n : Int)) = True := eq_true HFS.out.2.2
                have d6 : ((fn : Int) < (n : Int)) = True := eq_true HFS.out.1.2
                have c14 : W11.cell? ⟨g14, 0, none⟩ = some (.slice (some ⟨gn, 0, none⟩) n n) := (blk_cell H11.out.2.1.b14 0).trans rfl
                have c25 : W11.cell? ⟨g2, 5, none⟩ = some (.int .i64 sn) := by rw [HG.out]; exact (blk_cell H11.out.1.b2 5).trans rfl
                have c26 : W11.cell? ⟨g2, 6, none⟩ = some (.int .i64 fn) := by rw [HG.out]; exact (blk_cell H11.out.1.b2 6).trans rfl
                have hlnn : n = num.length := H11.out.2.1.lens.1
                obtain ⟨_, _, en, q0⟩ := int_cell (Kd.R_reads' H11.out.2.1.num).2.2 sn (by show sn < num.length; have := hlnn; have := HFS.out.2.2; omega)
                cases en
                obtain ⟨_, _, en, q1⟩ := int_cell (Kd.R_reads' H11.out.2.1.num).2.2 fn (by show fn < num.length; have := hlnn; have := HFS.out.1.2; omega)
                cases en
                rw [Nat.zero_add] at q0 q1
                have HV0 := Aside0.mk (show num.getD ((sn : Nat) : Int).toNat 0 = num[sn]'(by have := hlnn; have := HFS.out.2.2; omega) by rw [Int.toNat_natCast, List.getD_eq_getElem?_getD, List.getElem?_eq_getElem (by have := hlnn; have := HFS.out.2.2; omega)]; rfl)
                have HV1 := Aside0.mk (show num.getD ((fn : Nat) : Int).toNat 0 = num[fn]'(by have := hlnn; have := HFS.out.1.2; omega) by rw [Int.toNat_natCast, List.getD_eq_getElem?_getD, List.getElem?_eq_getElem (by have := hlnn; have := HFS.out.1.2; omega)]; rfl)
                generalize num[sn]'(by have := hlnn; have := HFS.out.2.2; omega) = v0 at q0 HV0
                generalize num[fn]'(by have := hlnn; have := HFS.out.1.2; omega) = v1 at q1 HV1
                obtain ⟨y0, y1, y2, y3, y4, y5, y6, y7, y8, y9⟩ := frozen10 H11.out.2.2
                obtain ⟨z0, z1, z2, z3, z4, z5, z6, z7, z8, z9⟩ := cells10 H11.out.2.2
                have HLNN := Aside0.mk hlnn
                clear hlnn
                have hn14 : g14 ≠ g20 := blk_ne H11.out.2.1.b14 H11.out.2.2 (by decide)
                have hngn : gn ≠ g20 := by
                  obtain ⟨cells, hc⟩ := Kd.R_typed H11.out.2.1.num gn (by simp [Value.ownBlock])
                  exact blk_ne hc H11.out.2.2 (by decide)
                have hn2 : g2 ≠ g20 := by have := HG20.out.2.1; omega
                have SB := Aside0.mk (fun (W : World) (hb : Off g20 W11 W) => (⟨hb.cell c14 hn14, hb.cell c25 hn2, hb.cell c26 hn2, hb.cell q0 hngn, hb.cell q1 hngn⟩ : W.cell? ⟨g14, 0, none⟩ = some (.slice (some ⟨gn, 0, none⟩) n n) ∧ W.cell? ⟨g2, 5, none⟩ = some (.int .i64 sn) ∧ W.cell? ⟨g2, 6, none⟩ = some (.int .i64 fn) ∧ W.cell? ⟨gn, sn, none⟩ = some (.int .i64 v0) ∧ W.cell? ⟨gn, fn, none⟩ = some (.int .i64 v1)))
                go_region_held3 (fun W => W.cell? ⟨g14, 0, none⟩ = some (.slice (some ⟨gn, 0, none⟩) n n) ∧ W.cell? ⟨g2, 5, none⟩ = some (.int .i64 sn) ∧ W.cell? ⟨g2, 6, none⟩ = some (.int .i64 fn) ∧ W.cell? ⟨gn, sn, none⟩ = some (.int .i64 v0) ∧ W.cell? ⟨gn, fn, none⟩ = some (.int .i64 v1))
                  ((exact SB.out _ (by repeat (first | apply Off.set | apply Off.drew | exact Off.refl _ _))))
                  (fail)
                have hrow := fun (g : Nat) (cs : Array Value) (hg : W11.heap[g20]? = some (.cells cs 26 (0, 0))) => blk_set (blk_set (blk_set hg 5 (.int .i64 v0)) 6 (.int .i64 v1)) 4 (.slice none 0 0)
                have h20 := hrow g20 _ H11.out.2.2
                have hoff : Off g20 W11 (((W11.setCell ⟨g20, 5, none⟩ (.int .i64 v0)).setCell ⟨g20, 6, none⟩ (.int .i64 v1)).setCell ⟨g20, 4, none⟩ (.slice none 0 0)).drew := (((Off.refl g20 W11).set 5 _).set 6 _).set 4 _ |>.drew
                have hB12 : Below w.heap.size w (((W11.setCell ⟨g20, 5, none⟩ (.int .i64 v0)).setCell ⟨g20, 6, none⟩ (.int .i64 v1)).setCell ⟨g20, 4, none⟩ (.slice none 0 0)).drew := (((H11.out.1.below.setCell HG20.out.1 _).setCell HG20.out.1 _).setCell HG20.out.1 _).drew
                have hN12 := Kd.R_set (Kd.R_set (Kd.R_set H11.out.2.1.num H11.out.2.2 (by decide) 5 (.int .i64 v0)) (blk_set H11.out.2.2 5 _) (by decide) 6 (.int .i64 v1)) (blk_set (blk_set H11.out.2.2 5 _) 6 _) (by decide) 4 (.slice none 0 0)
                have hO12 := Kd.R_set (Kd.R_set (Kd.R_set H11.out.2.1.ord H11.out.2.2 (by decide) 5 (.int .i64 v0)) (blk_set H11.out.2.2 5 _) (by decide) 6 (.int .i64 v1)) (blk_set (blk_set H11.out.2.2 5 _) 6 _) (by decide) 4 (.slice none 0 0)
                go_upto_region 31 with fail
                refine wp_world (fun W => Aside0 (AwS w W nm par sn fn ac pr pv Af Ai A nf cf ni ci n c ∧ W.heap[g14]? = some (.cells #[.slice (some ⟨gn, 0, none⟩) n n] 27 (0, 0)) ∧ W.heap[g15]? = some (.cells #[.slice O m o] 27 (0, 0)) ∧ k1.R 3 W w.heap.size (fun _ => True) (.slice (some ⟨gn, 0, none⟩) n n) num ∧ k1.R 3 W w.heap.size (fun _ => True) (.slice O m o) ord ∧ W.heap[g20]? = some (.cells #[.string nm, .int .i64 par, .slice Af nf cf, .slice Ai ni ci, .slice none 0 0, .int .i64 v0, .int .i64 v1, .int .i64 ac, .int .i64 pr, .int .i64 pv] 26 (0, 0)))) ⟨⟨?_, ?_, ?_, hB12⟩, ?_, ?_, Kd.R_drew (Kd.R_mono hN12 (fun _ _ => trivial)), Kd.R_drew hO12, h20⟩ (fun W12 H12 => ?_)
                · exact (hoff.at' _ (by rw [← HG.out]; exact hn2)).trans H11.out.1.b2
                · exact (hoff.at' _ (by have := HG20.out.2.2; omega)).trans H11.out.1.b4
                · exact (hoff.at' _ (blk_ne H11.out.1.b7 H11.out.2.2 (by decide))).trans H11.out.1.b7
                · exact (hoff.at' _ hn14).trans H11.out.2.1.b14
                · exact (hoff.at' _ (blk_ne H11.out.2.1.b15 H11.out.2.2 (by decide))).trans H11.out.2.1.b15
                have c15 : W12.cell? ⟨g15, 0, none⟩ = some (.slice O m o) := (blk_cell H12.out.2.2.1 0).trans rfl
                have hlm : m = ord.length := (Kd.R_reads' H12.out.2.2.2.2.1).1
                have HLM := Aside0.mk hlm
                have HORD := Aside0.mk (show ∀ x, x ∈ ord → 0 ≤ x ∧ x < (n : Int) from HGF.out.inn)
                have hmn2 : m ≤ n := by have := HGF.out.le; have : ord.length ≤ n := this; omega
                clear hrow h20 hoff hB12 hN12 hO12 SB y0 y1 y2 y3 y4 y5 y6 y7 y8 y9 z0 z1 z2 z3 z4 z5 z6 z7 z8 z9 q0 q1 c14 c25 c26 d5 d6 hn14 hngn hn2 H11 hlm
                go_wp2
                go_loopg [119] m (fun gg s119 wz => ∃ (i c' : Nat) (A' : Option Addr), i ≤ m ∧ m - i ≤ gg ∧ s119 = .int .i64 i ∧ Aside0 (AwS w wz nm par sn fn ac pr pv Af Ai A nf cf ni ci n c ∧ wz.heap[g14]? = some (.cells #[.slice (some ⟨gn, 0, none⟩) n n] 27 (0, 0)) ∧ k1.R 3 wz w.heap.size (fun _ => True) (.slice (some ⟨gn, 0, none⟩) n n) num ∧ k1.R 3 wz w.heap.size (fun _ => True) (.slice O m o) ord ∧ wz.heap[g20]? = some (.cells #[.string nm, .int .i64 par, .slice Af nf cf, .slice Ai ni ci, .slice A' i c', .int .i64 v0, .int .i64 v1, .int .i64 ac, .int .i64 pr, .int .i64 pv] 26 (0, 0)) ∧ (k36m w).R 36 wz w.heap.size (fun _ => True) (.slice A' i c') ((ord.take i).map fun x => rePlace num (locs.getD x.toNat z36))))
                case atStart => exact ⟨0, 0, none, Nat.zero_le _, Nat.le_of_eq (Nat.sub_zero _), rfl, ⟨H12.out.1, H12.out.2.1, H12.out.2.2.2.1, H12.out.2.2.2.2.1, H12.out.2.2.2.2.2, Kd.R_nil _ _ _ _ _⟩⟩
                case round =>
                  clear H12 c15
                  obtain ⟨i, c', A', hi, hg, rfl, HW⟩ := hrel
                  by_cases hlt : i < m
                  · have d2 : ((i : Int) < (m : Int)) = True := eq_true (by omega)
                    have hil : i < ord.length := by have := HLM.out; omega
                    obtain ⟨go, oo, rfl, hoc⟩ := int_cell (Kd.R_reads' HW.out.2.2.2.1).2.2 i hil
                    have hin := HORD.out _ (List.getElem_mem hil)
                    have HTK := Aside0.mk (show ord.take (i + 1) = ord.take i ++ [ord[i]] by rw [List.take_add_one, List.getElem?_eq_getElem hil]; rfl)
                    generalize ord[i] = x at hoc hin HTK
                    obtain ⟨xn, rfl⟩ : ∃ xn : Nat, x = (xn : Int) := ⟨x.toNat, by omega⟩
                    have hxl : xn < locs.length := by have := HN.out; omega
                    have d4 : ((xn : Int) < (n : Int)) = True := eq_true (by omega)
                    obtain ⟨rfl, A0, c0, A1, c1, hlc0, hC0, hlc1, hC1, q0, q1, q2, q3, q4, q5, q6⟩ := HP.out xn hxl
                    obtain ⟨b0, o0, b1, o1, E, ec, eb, eo, hPA⟩ := place_of hC0 hC1
                    have hrw := HROW.out _ (List.getElem_mem hxl)
                    have HGX := Aside0.mk (show locs.getD ((xn : Nat) : Int).toNat z36 = locs[xn] by rw [Int.toNat_natCast, List.getD_eq_getElem?_getD, List.getElem?_eq_getElem hxl]; rfl)
                    have hwy := ok_loc HOK2.out xn hxl
                    rw [← HN.out] at hwy
                    have p0 := pw_cell_below HW.out.1.below q0
                    have p1 := pw_cell_below HW.out.1.below q1
                    have p2 := pw_cell_below HW.out.1.below q2
                    have p3 := pw_cell_below HW.out.1.below q3
                    have p4 := pw_cell_below HW.out.1.below q4
                    have p5 := pw_cell_below HW.out.1.below q5
                    have p6 := pw_cell_below HW.out.1.below q6
                    have c24 : wr.cell? ⟨g2, 4, none⟩ = some (.slice (some ⟨pb, po, none⟩) n c) := by rw [HG.out]; exact (blk_cell HW.out.1.b2 4).trans rfl
                    have HWY := Aside0.mk hwy
                    have HPA := Aside0.mk hPA
                    have HC0 := Aside0.mk hC0
                    have hlr : ∀ i (h : i < locs[xn].f1.length), locs[xn].f1[i].length ≤ 1256584717428 := fun i h => hrw.2.2 _ (List.getElem_mem h)
                    have HLR := Aside0.mk hlr
                    have hr0 := hrw.1
                    have hr1 := hrw.2.1
                    generalize locs[xn] = l at HGX HWY HPA HC0 HLR hr0 hr1 p0 p1 p2 p3 p4 p5 p6
                    obtain ⟨n0, hn0⟩ : ∃ n0, n0 = l.f0.length := ⟨_, rfl⟩
                    obtain ⟨n1, hn1⟩ : ∃ n1, n1 = l.f1.length := ⟨_, rfl⟩
                    rw [← hn0] at hr0 p0
                    rw [← hn1] at hr1 p1
                    have HNN := Aside0.mk (And.intro hn0 hn1)
                    have HXN := Aside0.mk hin
                    clear hlr
                    clear q0 q1 q2 q3 q4 q5 q6 hlc0 hC0 hlc1 hC1 hrw hPA hwy hin hn0 hn1 hil
                    clear hxl
                    go_upto_region 35 with fail
                    obtain ⟨g23, hg23⟩ : ∃ g23, g23 = wr.heap.size := ⟨_, rfl⟩
                    rw [← hg23]
                    have HG23 := Aside0.mk hg23
                    refine wp_world (fun W => Aside0 (Below wr.heap.size wr W ∧ W.heap[g23]? = some (.cells #[.slice A0 n0 c0, .slice A1 n1 c1, .bool l.f2, .bool l.f3, .bool l.f4, .bool l.f5, .bool l.f6] 36 (0, 0)))) ⟨below_alloc (Below.refl _ _) _, by rw [hg23]; exact blk_new _ _⟩ (fun W13 H13 => ?_)
                    clear hg23 hoc c24 p0 p1 p2 p3 p4 p5 p6
                    have l0 : W13.cell? ⟨g23, 0, none⟩ = some (.slice A0 n0 c0) := (blk_cell H13.out.2 0).trans rfl
                    have l1 : W13.cell? ⟨g23, 1, none⟩ = some (.slice A1 n1 c1) := (blk_cell H13.out.2 1).trans rfl
                    have HCL : Aside0 (Calls Try.prog 14 #[.slice A0 n0 c0] W13 fun e w' => ∃ v, e = .returned v ∧ (k40m w).R 40 w' W13.heap.size (fun _ => True) v l.f0 ∧ Below W13.heap.size W13 w') := ⟨by
                      have h := clone_walk w W13 A0 c0 l.f0 (reads_keep HC0.out (below_then HW.out.1.below HW.out.1.below.size H13.out.1)) (by rw [← HNN.out.1]; exact hr0)
                      rw [← HNN.out.1] at h
                      exact h⟩
                    go_upto_region 36 with (go_at_call 14; refine HCL.out.mono ?_; rintro e w14 ⟨v, rfl, hR, hB⟩; obtain ⟨AO, cO, e14⟩ := Kd.R_slice hR; rw [← HNN.out.1] at e14; subst e14; have H14 := Aside0.mk (And.intro hR (And.intro hB (blk_below H13.out.2 hB))); clear hR hB; have l0' : w14.cell? ⟨g23, 0, none⟩ = some (.slice A0 n0 c0) := (blk_cell H14.out.2.2 0).trans rfl; have f0' := blk_frozen H14.out.2.2 0)
                    have hB14 := below_then H13.out.1 H13.out.1.size H14.out.2.1
                    refine wp_world (fun W => Aside0 (Below wr.heap.size wr W ∧ W.heap[g23]? = some (.cells #[.slice AO n0 cO, .slice A1 n1 c1, .bool l.f2, .bool l.f3, .bool l.f4, .bool l.f5, .bool l.f6] 36 (0, 0)) ∧ (k40m w).R 40 W wr.heap.size (fun _ => True) (.slice AO n0 cO) l.f0 ∧ g23 < W.heap.size)) ⟨hB14.setCell (by rw [← HG23.out]; exact Nat.le_refl _) _, blk_set H14.out.2.2 0 _, Kd.R_set (Kd.R_lower H14.out.1 H13.out.1.size) H14.out.2.2 (by show ∀ q, q ∈ [40] → q ≠ 36; decide) 0 _, blk_lt (blk_set H14.out.2.2 0 (.slice AO n0 cO))⟩ (fun W15 H15 => ?_)
                    clear l0 l1 HCL H13 H14 hB14
                    clear l0' f0'
                    have l1 : W15.cell? ⟨g23, 1, none⟩ = some (.slice A1 n1 c1) := (blk_cell H15.out.2.1 1).trans rfl
                    have f1 := blk_frozen H15.out.2.1 1
                    go_upto_region 38 with fail
                    refine wp_world (fun W => Aside0 (Below wr.heap.size wr W ∧ W.heap[g23]? = some (.cells #[.slice AO n0 cO, .slice none 0 0, .bool l.f2, .bool l.f3, .bool l.f4, .bool l.f5, .bool l.f6] 36 (0, 0)) ∧ (k40m w).R 40 W wr.heap.size (fun _ => True) (.slice AO n0 cO) l.f0 ∧ g23 < W.heap.size)) ⟨H15.out.1.setCell (by rw [← HG23.out]; exact Nat.le_refl _) _, blk_set H15.out.2.1 1 _, Kd.R_set H15.out.2.2.1 H15.out.2.1 (by show ∀ q, q ∈ [40] → q ≠ 36; decide) 1 _, blk_lt (blk_set H15.out.2.1 1 (.slice none 0 0))⟩ (fun W16 H16 => ?_)
                    clear l1 f1 H15
                    go_wp2
                    obtain ⟨wo, hwo⟩ : ∃ wo, wo = wr := ⟨_, rfl⟩
                    subst hwo
                    go_loopg [137] n1 (fun gg s137 wz => ∃ (j c3 : Nat) (A3 : Option Addr), j ≤ n1 ∧ n1 - j ≤ gg ∧ s137 = .int .i64 j ∧ Aside0 (Below wo.heap.size wo wz ∧ wz.heap[g23]? = some (.cells #[.slice AO n0 cO, .slice A3 j c3, .bool l.f2, .bool l.f3, .bool l.f4, .bool l.f5, .bool l.f6] 36 (0, 0)) ∧ (k40m w).R 40 wz wo.heap.size (fun _ => True) (.slice AO n0 cO) l.f0 ∧ Kd.S (k33m w) 33 wz wo.heap.size (fun k => some k ≠ (Value.slice AO n0 cO).ownBlock) (.slice A3 j c3) (l.f1.take j)))
                    case atStart => exact ⟨0, 0, none, Nat.zero_le _, Nat.le_of_eq (Nat.sub_zero _), rfl, ⟨H16.out.1, H16.out.2.1, H16.out.2.2.1, Kd.S_nil _ _ _ _ _⟩⟩
                    case round =>
                      clear H16
                      obtain ⟨j, c3, A3, hj, hg3, rfl, HZ⟩ := hrel
                      by_cases hjn : j < n1
                      · have d7 : ((j : Int) < (n1 : Int)) = True := eq_true (by omega)
                        have hjl : j < l.f1.length := by have := HNN.out.2; omega
                        obtain rfl := HPA.out.h1 (by omega)
                        have hec := HPA.out.esc j hjl
                        have HBW := Aside0.mk (below_then HW.out.1.below HW.out.1.below.size HZ.out.1)
                        have ce := pw_cell_below HBW.out hec.1
                        have hlr := HLR.out j hjl
                        have HTJ := Aside0.mk (show l.f1.take (j + 1) = l.f1.take j ++ [l.f1[j]] by rw [List.take_add_one, List.getElem?_eq_getElem hjl]; rfl)
                        have HEC := Aside0.mk hec.2.2
                        generalize l.f1[j] = row at ce hlr HTJ HEC
                        obtain ⟨nr, hnr⟩ : ∃ nr, nr = row.length := ⟨_, rfl⟩
                        rw [← hnr] at ce hlr
                        have HNR := Aside0.mk hnr
                        have HCL : Aside0 (∀ W, Below wr.heap.size wr W → Calls Try.prog 14 #[.slice (E j) nr (ec j)] W fun e w' => ∃ v, e = .returned v ∧ (k40m w).R 40 w' W.heap.size (fun _ => True) v row ∧ Below W.heap.size W w') := ⟨fun W hb => by
                          have h := clone_walk w W (E j) (ec j) row (reads_keep HEC.out (below_then HBW.out HBW.out.size hb)) (by rw [← HNR.out]; exact hlr)
                          rw [← HNR.out] at h
                          exact h⟩
                        generalize E j = Ej at ce HCL
                        generalize ec j = cj at ce HCL
                        have l1 : wr.cell? ⟨g23, 1, none⟩ = some (.slice A3 j c3) := (blk_cell HZ.out.2.1 1).trans rfl
                        have f1 := blk_frozen HZ.out.2.1 1
                        clear hec hjl hnr
                        clear HEC
                        go_wp2
                        go_region_law (first
                          | (go_simp; go_at_call 14; refine (HCL.out _ (by repeat (first | exact Below.refl _ _ | apply below_drew))).mono ?_; rintro e w17 ⟨v, rfl, hR, hB⟩; obtain ⟨Am2, cm2, e17⟩ := Kd.R_slice hR; rw [← HNR.out] at e17; subst e17; have HB17 := Aside0.mk ((below_drew (Below.refl wr.heap.size wr)).trans hB); have HR17 := Aside0.mk hR; clear hR hB; have hb17 := blk_below HZ.out.2.1 HB17.out; have c17 : w17.cell? ⟨g23, 1, none⟩ = some (.slice A3 j c3) := (blk_cell hb17 1).trans rfl; have c17' : (w17.alloc (Obj.cells #[Value.slice Am2 nr cm2] 33)).cell? ⟨g23, 1, none⟩ = some (.slice A3 j c3) := (blk_cell (blk_alloc hb17 _) 1).trans rfl)
                          | (refine Kd.S_append_step (k33m w) (w0 := wo) (W := w17) wo.heap.size rfl (.tmp 142) (.tmp 145) 34 33 (.slice none 0 0) 24 rfl Try.underlying34 info33 rfl (k33m_sz w) (by decide) (.slice A3 j c3) (l.f1.take j) row [Value.slice Am2 nr cm2] (fun k => some k ≠ (Value.slice AO n0 cO).ownBlock) (fun k => wr.heap.size ≤ k) (by simp [Act.eval, Act.put]) (by simp [Act.eval, Act.put]) ⟨_, rfl, Kd.R_lower (Kd.R_mono (Kd.R_bound HR17.out) (fun k hk => Nat.le_trans (by simp) hk.2.1)) (Nat.le_trans HZ.out.1.size (by simp))⟩ (fun k hk => ⟨fun e => by have := Kd.R_lt HZ.out.2.2.1 k e.symm; omega, fun e => by have := Kd.S_lt HZ.out.2.2.2 k e.symm; omega⟩) (fun k hk e => by have := Kd.R_lt HZ.out.2.2.1 k e.symm; have := HB17.out.size; omega) (Kd.S_below (Kd.S_mono (Kd.S_bound HZ.out.2.2.2) (fun k hk => ⟨hk.1, fun h => by have := hk.2.2.1; omega⟩)) HB17.out) (below_then HZ.out.1 HZ.out.1.size HB17.out) (Nat.le_trans HZ.out.1.size HB17.out.size) (by rw [List.length_take]; omega) ?_; intro v1 w18 hR8 hB8 hg8 hat8; obtain ⟨A8, c8, e8⟩ := Kd.S_slice hR8; rw [List.length_append, List.length_take, List.length_singleton, Nat.min_eq_left (by have := HNN.out.2; omega)] at e8; subst e8; have hb18 := blk_grown hb17 hg8 (Kd.S_ne (Kd.S_below HZ.out.2.2.2 HB17.out) hb17 (by decide)); have c18 : w18.cell? ⟨g23, 1, none⟩ = some (.slice A3 j c3) := (blk_cell hb18 1).trans rfl; have f18 := blk_frozen hb18 1; have HR8 := Aside0.mk (And.intro hR8 (And.intro hB8 (Kd.R_over' (Kd.R_below HZ.out.2.2.1 HB17.out) (Kd.S_typed (Kd.S_below HZ.out.2.2.2 HB17.out)) (by show ∀ q, q ∈ [40] → q ≠ 33; decide) hg8))); clear hR8 hB8 hg8 hat8))
                        all_goals (
                          go_wp2
                          go_roundg (n1 - (j + 1))
                          case measure => omega
                          case rel =>
                            refine ⟨j + 1, c8, A8, by omega, by omega, by go_num, ⟨HR8.out.2.1.setCell (by show wo.heap.size ≤ g23; rw [← HG23.out]; exact Nat.le_refl _) _, blk_set hb18 1 _, Kd.R_set HR8.out.2.2 hb18 (by show ∀ q, q ∈ [40] → q ≠ 36; decide) 1 _, ?_⟩⟩
                            rw [HTJ.out]
                            exact Kd.S_set HR8.out.1 hb18 (by show ∀ q, q ∈ [33, 40] → q ≠ 36; decide) 1 _)
                      · have d7 : ((j : Int) < (n1 : Int)) = False := eq_false (by omega)
                        have hS := HZ.out.2.2.2
                        rw [show l.f1.take j = l.f1 from List.take_of_length_le (by have := HNN.out.2; omega)] at hS
                        obtain rfl : j = n1 := by omega
                        have hE3 : Calls Try.prog 9 #[.agg #[.slice AO n0 cO, .slice A3 j c3, .bool l.f2, .bool l.f3, .bool l.f4, .bool l.f5, .bool l.f6], .func (.func 15) #[] #[.pointer (some ⟨g14, 0, none⟩)]] wr fun e w' => e = .returned (.tuple #[]) ∧ Aside0 (((Below wo.heap.size wo w' ∧ w'.heap[g23]? = some (.cells #[.slice AO n0 cO, .slice A3 j c3, .bool l.f2, .bool l.f3, .bool l.f4, .bool l.f5, .bool l.f6] 36 (0, 0))) ∧ (k40m w).R 40 w' wo.heap.size (fun _ => True) (.slice AO n0 cO) (reWays num l.f0) ∧ Kd.S (k33m w) 33 w' wo.heap.size (fun k => some k ≠ (Value.slice AO n0 cO).ownBlock) (.slice A3 j c3) (l.f1.map (reWays num))) ∧ KeepT [40] wr w') := by
                          have h := each_num_place w wr (fun W => Below wo.heap.size wo W ∧ W.heap[g23]? = some (.cells #[.slice AO n0 cO, .slice A3 j c3, .bool l.f2, .bool l.f3, .bool l.f4, .bool l.f5, .bool l.f6] 36 (0, 0))) g14 n n (some ⟨gn, 0, none⟩) AO A3 wo.heap.size cO c3 l num
                            (fun W h => ⟨(blk_cell (blk_below HW.out.2.1 h.1) 0).trans rfl, by have hc := Kd.R_reads' (Kd.R_below HW.out.2.2.1 h.1); rw [hc.1]; exact hc.2.2⟩) (fun W W' h hk hb => ⟨h.1.trans hb, hk.block _ _ _ (by decide) h.2⟩) HWY.out (fun W h => h.1.size) (by have := HNN.out.1; omega) (by have := HNN.out.2; omega) (fun i h => by have := HLR.out i h; omega)
                            ⟨⟨HZ.out.1, HZ.out.2.1⟩, by rw [← HNN.out.1]; exact HZ.out.2.2.1, by rw [← HNN.out.1, ← HNN.out.2]; exact hS⟩
                          rw [← HNN.out.1, ← HNN.out.2] at h
                          exact h
                        have HE3 := Aside0.mk hE3
                        have l0 : wr.cell? ⟨g23, 0, none⟩ = some (.slice AO n0 cO) := (blk_cell HZ.out.2.1 0).trans rfl
                        have l1 : wr.cell? ⟨g23, 1, none⟩ = some (.slice A3 j c3) := (blk_cell HZ.out.2.1 1).trans rfl
                        have l2 : wr.cell? ⟨g23, 2, none⟩ = some (.bool l.f2) := (blk_cell HZ.out.2.1 2).trans rfl
                        have l3 : wr.cell? ⟨g23, 3, none⟩ = some (.bool l.f3) := (blk_cell HZ.out.2.1 3).trans rfl
                        have l4 : wr.cell? ⟨g23, 4, none⟩ = some (.bool l.f4) := (blk_cell HZ.out.2.1 4).trans rfl
                        have l5 : wr.cell? ⟨g23, 5, none⟩ = some (.bool l.f5) := (blk_cell HZ.out.2.1 5).trans rfl
                        have l6 : wr.cell? ⟨g23, 6, none⟩ = some (.bool l.f6) := (blk_cell HZ.out.2.1 6).trans rfl
                        clear hE3 hS hjn hj hg3
                        go_upto_region 44 with (go_at_call 9; refine HE3.out.mono ?_; rintro e w19 ⟨rfl, HP9⟩)
                        clear l0 l1 l2 l3 l4 l5 l6
                        have hb23 := HP9.out.1.1.2
                        have l0 : w19.cell? ⟨g23, 0, none⟩ = some (.slice AO n0 cO) := (blk_cell hb23 0).trans rfl
                        have l1 : w19.cell? ⟨g23, 1, none⟩ = some (.slice A3 j c3) := (blk_cell hb23 1).trans rfl
                        have l2 : w19.cell? ⟨g23, 2, none⟩ = some (.bool l.f2) := (blk_cell hb23 2).trans rfl
                        have l3 : w19.cell? ⟨g23, 3, none⟩ = some (.bool l.f3) := (blk_cell hb23 3).trans rfl
                        have l4 : w19.cell? ⟨g23, 4, none⟩ = some (.bool l.f4) := (blk_cell hb23 4).trans rfl
                        have l5 : w19.cell? ⟨g23, 5, none⟩ = some (.bool l.f5) := (blk_cell hb23 5).trans rfl
                        have l6 : w19.cell? ⟨g23, 6, none⟩ = some (.bool l.f6) := (blk_cell hb23 6).trans rfl
                        clear hb23
                        have c204 : w19.cell? ⟨g20, 4, none⟩ = some (.slice A' i c') := (blk_cell (blk_below HW.out.2.2.2.2.1 HP9.out.1.1.1) 4).trans rfl
                        have HSW := Aside0.mk HW.out.1.below.size
                        have HMM := Aside0.mk (k36m_mkM w w19 w.heap.size (fun k => wo.heap.size ≤ k) (rePlace num l) (Kd.R_lower (Kd.R_mono (Kd.R_bound HP9.out.1.2.1) (fun k hk => hk.2.1)) HSW.out) (Kd.R_lower (Kd.R_mono (Kd.R_bound (Kd.S_R HP9.out.1.2.2)) (fun k hk => hk.2.1)) HSW.out))
                        have HRI := Aside0.mk (Kd.R_below HW.out.2.2.2.2.2 HP9.out.1.1.1)
                        have HLI := Aside0.mk (show ((ord.take i).map fun x => rePlace num (locs.getD x.toNat z36)).length = i by rw [List.length_map, List.length_take]; have := HLM.out; omega)
                        have HTI := Aside0.mk (show ((ord.take (i + 1)).map fun x => rePlace num (locs.getD x.toNat z36)) = ((ord.take i).map fun x => rePlace num (locs.getD x.toNat z36)) ++ [rePlace num l] by rw [HTK.out, List.map_append, List.map_cons, List.map_nil, HGX.out])
                        go_wp2_with (at_builtin; refine Kd.R_append (k36m w) (w0 := w) w.heap.size rfl (.tmp 154) (.tmp 156) 24 36 (.agg #[.slice none 0 0, .slice none 0 0, .bool false, .bool false, .bool false, .bool false, .bool false]) 56 rfl Try.underlying24 info36 rfl (k36m_sz w) (by decide) (.slice A' i c') ((ord.take i).map fun x => rePlace num (locs.getD x.toNat z36)) (rePlace num l) [.slice AO n0 cO, .slice A3 j c3, .bool l.f2, .bool l.f3, .bool l.f4, .bool l.f5, .bool l.f6] (fun _ => True) (fun k => wo.heap.size ≤ k) rfl rfl HMM.out (fun k hk => ⟨trivial, fun e => by have := Kd.R_lt HW.out.2.2.2.2.2 k e.symm; omega⟩) (fun _ _ => trivial) HRI.out (below_then HW.out.1.below HSW.out HP9.out.1.1.1) (Nat.le_trans HSW.out HP9.out.1.1.1.size) (by rw [HLI.out]; omega) ?_; intro v1 w20 hR20 hB20 hG20 _; obtain ⟨A20, c20, e20⟩ := Kd.R_slice hR20; rw [List.length_append, HLI.out, List.length_singleton] at e20; subst e20; have hk20 : KeepT [36] w19 w20 := (KeepT.refl _ _).grown hG20 hG20.size (fun k hk => by obtain ⟨cs, hcs⟩ := Kd.R_typed HRI.out k hk; exact ⟨cs, 36, by decide, hcs⟩); have hb20 := hk20.block _ _ _ (by decide) (blk_below HW.out.2.2.2.2.1 HP9.out.1.1.1); have c20' : w20.cell? ⟨g20, 4, none⟩ = some (.slice A' i c') := (blk_cell hb20 4).trans rfl; have f20' := blk_frozen hb20 4; have HR20 := Aside0.mk (And.intro hR20 (And.intro hB20 (And.intro hk20 hb20))); clear hR20 hB20 hG20 hk20 hb20)
                        go_roundg (m - (i + 1))
                        case measure => omega
                        case rel =>
                          obtain ⟨hR20, hB20, hk20, hb20⟩ := HR20.out
                          have hA20 := (HW.out.1.on HP9.out.1.1.1).keep (T := [36]) (by decide) (by decide) hk20 hB20
                          refine ⟨i + 1, c20, A20, by omega, by omega, by go_num, ⟨⟨blk_far (p := ⟨g20, 4, none⟩) hA20.b2 (by have := HG20.out.2.1; have := HG.out; show w.heap.size ≠ g20; omega) _, blk_far (p := ⟨g20, 4, none⟩) hA20.b4 (by have := HG20.out.2.2; show w.heap.size + 1 ≠ g20; omega) _, blk_far (p := ⟨g20, 4, none⟩) hA20.b7 (blk_ne hA20.b7 hb20 (by decide)) _, hB20.setCell HG20.out.1 _⟩, ?_, ?_, ?_, blk_set hb20 4 _, ?_⟩⟩
                          · exact blk_far (p := ⟨g20, 4, none⟩) (hk20.block _ _ _ (by decide) (blk_below HW.out.2.1 HP9.out.1.1.1)) (blk_ne (hk20.block _ _ _ (by decide) (blk_below HW.out.2.1 HP9.out.1.1.1)) hb20 (by decide)) _
                          · exact Kd.R_set (R_keepT (Kd.R_below HW.out.2.2.1 HP9.out.1.1.1) hk20 (by show ∀ q, q ∈ [3] → q ∉ [36]; decide)) hb20 (by decide) 4 _
                          · exact Kd.R_set (R_keepT (Kd.R_below HW.out.2.2.2.1 HP9.out.1.1.1) hk20 (by show ∀ q, q ∈ [3] → q ∉ [36]; decide)) hb20 (by decide) 4 _
                          · rw [HTI.out]
                            exact Kd.R_set hR20 hb20 (by show ∀ q, q ∈ [36, 40, 33, 40] → q ≠ 26; decide) 4 _
                  · have d2 : ((i : Int) < (m : Int)) = False := eq_false (by omega)
                    obtain rfl : i = m := by omega
                    have hR := HW.out.2.2.2.2.2
                    rw [show ord.take i = ord from List.take_of_length_le (by have := HLM.out; omega)] at hR
                    have HRF := Aside0.mk hR
                    have HSR : Aside0 (AwS w wr nm par sn fn ac pr pv Af Ai A nf cf ni ci n c) := ⟨HW.out.1⟩
                    have hb4 : wr.heap[g2 + 1]? = some (.cells #[.string ⟨#[]⟩, .int .i64 0, .slice none 0 0, .slice none 0 0, .slice none 0 0, .int .i64 0, .int .i64 0, .int .i64 0, .int .i64 0, .int .i64 0] 26 (0, 0)) := by rw [HG.out]; exact HW.out.1.b4
                    have HB4 := Aside0.mk hb4
                    obtain ⟨z0, z1, z2, z3, z4, z5, z6, z7, z8, z9⟩ := cells10 HW.out.2.2.2.2.1
                    obtain ⟨x0, x1, x2, x3, x4, x5, x6, x7, x8, x9⟩ := cells10 hb4
                    obtain ⟨y0, y1, y2, y3, y4, y5, y6, y7, y8, y9⟩ := frozen10 hb4
                    have c14 : wr.cell? ⟨g14, 0, none⟩ = some (.slice (some ⟨gn, 0, none⟩) n n) := (blk_cell HW.out.2.1 0).trans rfl
                    have hn4 : g20 ≠ g2 + 1 := by have := HG20.out.2.2; have := HG.out; omega
                    have hn144 : g14 ≠ g2 + 1 := blk_ne HW.out.2.1 HB4.out (by decide)
                    have SB := Aside0.mk (fun (W : World) (hb : Off (g2 + 1) wr W) => (⟨hb.cell c14 hn144, hb.cell z0 hn4, hb.cell z1 hn4, hb.cell z2 hn4, hb.cell z3 hn4, hb.cell z4 hn4, hb.cell z5 hn4, hb.cell z6 hn4, hb.cell z7 hn4, hb.cell z8 hn4, hb.cell z9 hn4⟩ : W.cell? ⟨g14, 0, none⟩ = some (.slice (some ⟨gn, 0, none⟩) n n) ∧ W.cell? ⟨g20, 0, none⟩ = some (.string nm) ∧ W.cell? ⟨g20, 1, none⟩ = some (.int .i64 par) ∧ W.cell? ⟨g20, 2, none⟩ = some (.slice Af nf cf) ∧ W.cell? ⟨g20, 3, none⟩ = some (.slice Ai ni ci) ∧ W.cell? ⟨g20, 4, none⟩ = some (.slice A' i c') ∧ W.cell? ⟨g20, 5, none⟩ = some (.int .i64 v0) ∧ W.cell? ⟨g20, 6, none⟩ = some (.int .i64 v1) ∧ W.cell? ⟨g20, 7, none⟩ = some (.int .i64 ac) ∧ W.cell? ⟨g20, 8, none⟩ = some (.int .i64 pr) ∧ W.cell? ⟨g20, 9, none⟩ = some (.int .i64 pv)))
                    clear hR hb4 hlt hg hi
                    go_upto_region 46 with fail
                    go_region_held3 (fun W => W.cell? ⟨g14, 0, none⟩ = some (.slice (some ⟨gn, 0, none⟩) n n) ∧ W.cell? ⟨g20, 0, none⟩ = some (.string nm) ∧ W.cell? ⟨g20, 1, none⟩ = some (.int .i64 par) ∧ W.cell? ⟨g20, 2, none⟩ = some (.slice Af nf cf) ∧ W.cell? ⟨g20, 3, none⟩ = some (.slice Ai ni ci) ∧ W.cell? ⟨g20, 4, none⟩ = some (.slice A' i c') ∧ W.cell? ⟨g20, 5, none⟩ = some (.int .i64 v0) ∧ W.cell? ⟨g20, 6, none⟩ = some (.int .i64 v1) ∧ W.cell? ⟨g20, 7, none⟩ = some (.int .i64 ac) ∧ W.cell? ⟨g20, 8, none⟩ = some (.int .i64 pr) ∧ W.cell? ⟨g20, 9, none⟩ = some (.int .i64 pv))
                      ((refine SB.out _ ?_; with_reducible apply Off.drew; (first | (with_reducible exact Off.refl _ _) | (with_reducible exact off10 _ _ _ _ _ _ _ _ _ _ _ _))))
                      (fail)
                    clear c14 z0 z1 z2 z3 z4 z5 z6 z7 z8 z9 y0 y1 y2 y3 y4 y5 y6 y7 y8 y9
                    have hkp := keep10 (T := [26]) HB4.out (by decide) (.string nm) (.int .i64 par) (.slice Af nf cf) (.slice Ai ni ci) (.slice A' i c') (.int .i64 v0) (.int .i64 v1) (.int .i64 ac) (.int .i64 pr) (.int .i64 pv)
                    have hbl := below10 HSR.out.below (g := g2 + 1) (by have := HG.out; omega) (.string nm) (.int .i64 par) (.slice Af nf cf) (.slice Ai ni ci) (.slice A' i c') (.int .i64 v0) (.int .i64 v1) (.int .i64 ac) (.int .i64 pr) (.int .i64 pv)
                    have hr36 := Kd.R_drew (R_keepT HRF.out hkp (by show ∀ q, q ∈ [36, 40, 33, 40] → q ∉ [26]; decide))
                    have hr3 := Kd.R_drew (R_keepT HW.out.2.2.1 hkp (by show ∀ q, q ∈ [3] → q ∉ [26]; decide))
                    have HFIN := Aside0.mk (And.intro hr36 (And.intro hr3 hbl.drew))
                    clear hkp hbl hr36 hr3 SB hn4 hn144
                    go_wp2
                    refine bodyPost_ret (v := .tuple #[.agg #[.string nm, .int .i64 par, .slice Af nf cf, .slice Ai ni ci, .slice A' i c', .int .i64 v0, .int .i64 v1, .int .i64 ac, .int .i64 pr, .int .i64 pv], .slice (some ⟨gn, 0, none⟩) n n, .int .i64 0]) (by simp [results, Try.results4, go_sem, *]) rfl ?_
                    unfold AutoPost
                    rw [if_pos HOK2.out, HNL.out]
                    show ∃ (A0 : Option Addr) (m' c' : Nat) (B : Option Addr) (b : Nat), _ ∧ _
                    refine ⟨A', i, c', some ⟨gn, 0, none⟩, n, ?_, ?_, ?_, HFIN.out.2.2⟩
                    · rw [← HN.out, HV0.out, HV1.out]
                    · exact HFIN.out.1
                    · rw [← HN.out]; exact HFIN.out.2.1
end Go.Proofs.Ytgnpmcnmcbgdcaa.Aw
