/- A store's memory: what stays, what turns. No condition. -/
import Derived.Test.YtihlndgnkhlphaaStC
namespace Go.Proofs.Ytihlndgnkhlphaa.St
open Go.RowKit Go.Proofs.YtihlndgnkhlphaaW.PrintWords Go.Proofs.YtihlndgnkhlphaaW.PrintLast Go.Proofs.YtihlndgnkhlphaaW.PrintMore Go.Proofs.Ytihlndgnkhlphaa.PStorePlays
open Go.Proofs.Ytihlndgnkhlphaa.Sm

/-- The types of the blocks that a store's calls may turn. -/
def ours (t : TypeId) : Prop := t = 53 ∨ t = 9 ∨ t = 34 ∨ t = 3

/-- Below b all is as it was; above, all blocks that are none of a store's. -/
structure Fr (b : Nat) (w w' : World) : Prop where
  below : Below b w w'
  keep : ∀ (i : Nat) (o : Obj), w.heap[i]? = some o → (∀ cs t fz, o = .cells cs t fz → ¬ ours t) → w'.heap[i]? = some o

theorem Fr.refl (b : Nat) (w : World) : Fr b w w := ⟨Below.refl _ _, fun _ _ h _ => h⟩
theorem Fr.trans {b : Nat} {w w1 w2 : World} (h : Fr b w w1) (k : Fr b w1 w2) : Fr b w w2 := ⟨h.below.trans k.below, fun i o ho hn => k.keep i o (h.keep i o ho hn) hn⟩
theorem Fr.of_below {b : Nat} {w w1 : World} (h : Below w.heap.size w w1) (hb : b ≤ w.heap.size) : Fr b w w1 :=
  ⟨h.mono hb, fun i _ ho _ => (h.block i (blk_lt ho)).trans ho⟩
theorem Fr.alloc {b : Nat} {w w1 : World} (h : Fr b w w1) (hb : b ≤ w1.heap.size) (o : Obj) : Fr b w (w1.alloc o) :=
  h.trans (Fr.of_below (below_alloc (Below.refl _ _) o) hb)
theorem Fr.drewN {b : Nat} {w w1 : World} (h : Fr b w w1) (n : Nat) : Fr b w (w1.drewN n) := ⟨pw_below_drewN h.below n, fun i o ho hn => h.keep i o ho hn⟩
theorem Fr.drawn {b : Nat} {w w1 w2 : World} (h : Fr b w w1) (k : Drawn0 w1 w2) : Fr b w w2 := by
  obtain ⟨n, rfl⟩ := k.out
  exact h.drewN n
theorem Fr.set {b : Nat} {w w1 : World} (h : Fr b w w1) {p : Addr} {cs : Array Value} {t : TypeId} {fz : Nat × Nat} (hq : w1.heap[p.block]? = some (.cells cs t fz)) (ht : ours t) (hb : b ≤ p.block) (u : Value) : Fr b w (w1.setCell p u) := by
  refine h.trans ⟨(Below.refl _ _).setCell hb u, fun i o ho hn => ?_⟩
  have hne : i ≠ p.block := by
    intro e
    subst e
    rw [hq] at ho
    cases ho
    exact hn _ _ _ rfl ht
  exact (Below.heap_setCell w1 p u i hne).trans ho
theorem Fr.grown {b : Nat} {w w1 w2 : World} (h : Fr b w w1) {row : Option Nat} (hg : w1.grownBy w2 row) (hb : b ≤ w1.heap.size) (hr : ∀ q, row = some q → b ≤ q ∧ ∃ cs t fz, w1.heap[q]? = some (.cells cs t fz) ∧ ours t) : Fr b w w2 := by
  refine h.trans ⟨(Below.refl b w1).grown hg hb (fun q hq => (hr q hq).1), fun i o ho hn => ?_⟩
  have hne : some i ≠ row := by
    intro e
    obtain ⟨_, cs, t, fz, hq, ht⟩ := hr i e.symm
    rw [hq] at ho
    cases ho
    exact hn _ _ _ rfl ht
  exact (hg.block i (blk_lt ho) hne).trans ho

theorem row_block {w : World} {b e n : Nat} {v : Value} {xs : List Value} (h : w.ownsRow b e 1 v n xs) {q : Nat} (hq : v.ownBlock = some q) : b ≤ q ∧ ∃ cs, w.heap[q]? = some (.cells cs e (0, 0)) := by
  rcases h.2 with ⟨rfl, _⟩ | ⟨g, cap, cur, rfl, hb, hg, _⟩
  · cases hq
  · cases hq
    exact ⟨hb, cur, hg⟩

/-- A row lives on where a block of another type is written. -/
theorem row_keep {w w1 : World} {b e n q : Nat} {v : Value} {xs : List Value} (h : w.ownsRow b e 1 v n xs) (hg : w.grownBy w1 (some q)) {cs : Array Value} {t : TypeId} {fz : Nat × Nat} (hq : w.heap[q]? = some (.cells cs t fz)) (hne : e ≠ t) : w1.ownsRow b e 1 v n xs := by
  refine own_other h hg ?_
  by_cases hv : v.ownBlock = some q
  · obtain ⟨_, cs', hq'⟩ := row_block h hv
    rw [hq] at hq'
    cases hq'
    exact absurd rfl hne
  · exact Or.inr hv
theorem row_set {w : World} {b e n : Nat} {v : Value} {xs : List Value} (h : w.ownsRow b e 1 v n xs) {p : Addr} {cs : Array Value} {t : TypeId} {fz : Nat × Nat} (hq : w.heap[p.block]? = some (.cells cs t fz)) (hne : e ≠ t) (u : Value) : (w.setCell p u).ownsRow b e 1 v n xs := by
  refine own_setCell h ?_ u
  intro hv
  obtain ⟨_, cs', hq'⟩ := row_block h hv.symm
  rw [hq] at hq'
  cases hq'
  exact hne rfl
theorem row_below {w w1 : World} {b e n : Nat} {v : Value} {xs : List Value} (h : w.ownsRow b e 1 v n xs) (hb : Below w.heap.size w w1) : w1.ownsRow b e 1 v n xs := pw_own_below h hb
theorem row_drewN {w : World} {b e n : Nat} {v : Value} {xs : List Value} (h : w.ownsRow b e 1 v n xs) (m : Nat) : (w.drewN m).ownsRow b e 1 v n xs := h

/-- A store's parts, each by itself: the slots' row is w's own. -/
structure Parts (w : World) (b g : Nat) (S : Data) (kv bv sv : Value) : Prop where
  blk : w.heap[g]? = some (.cells #[.int .i64 S.most, kv, bv, sv] 53 (0, 0))
  base : b ≤ g
  keys : w.ownsRow b 9 1 kv S.keys.length (pw_strs S.keys)
  bits : w.ownsRow b 34 1 bv S.bits.length (nums .u64 S.bits)
  slots : w.ownsRow b 3 1 sv (ints S.slots).length (nums .i64 (ints S.slots))
theorem StoreIn.iff (w : World) (b g : Nat) (S : Data) : StoreIn w b g S ↔ ∃ kv bv sv, Parts w b g S kv bv sv :=
  ⟨fun ⟨kv, bv, sv, h1, h2, h3, h4, h5⟩ => ⟨kv, bv, sv, h1, h2, h3, h4, h5⟩, fun ⟨kv, bv, sv, h1, h2, h3, h4, h5⟩ => ⟨kv, bv, sv, h1, h2, h3, h4, h5⟩⟩
theorem Parts.below {w w1 : World} {b g : Nat} {S : Data} {kv bv sv : Value} (h : Parts w b g S kv bv sv) (hb : Below w.heap.size w w1) : Parts w1 b g S kv bv sv :=
  ⟨(hb.block g (blk_lt h.blk)).trans h.blk, h.base, row_below h.keys hb, row_below h.bits hb, row_below h.slots hb⟩
theorem StoreIn.below {w w1 : World} {b g : Nat} {S : Data} (h : StoreIn w b g S) (hb : Below w.heap.size w w1) : StoreIn w1 b g S := by
  rw [StoreIn.iff] at *
  obtain ⟨kv, bv, sv, p⟩ := h
  exact ⟨kv, bv, sv, p.below hb⟩

/-- A slot is written. -/
theorem Parts.slot {w : World} {b g q cap : Nat} {S : Data} {kv bv : Value} (h : Parts w b g S kv bv (.slice (some ⟨q, 0, none⟩) (ints S.slots).length cap)) (i v : Nat) :
    Parts (w.setCell ⟨q, i, none⟩ (.int .i64 ((v : Nat) : Int))) b g { S with slots := S.slots.set i v } kv bv (.slice (some ⟨q, 0, none⟩) (ints S.slots).length cap) := by
  obtain ⟨hb, cs, hq⟩ := row_block (q := q) h.slots rfl
  have hgq : g ≠ q := by
    intro e
    have := h.blk
    rw [e, hq] at this
    cases this
  refine ⟨blk_far h.blk hgq _, h.base, row_set h.keys (p := ⟨q, i, none⟩) hq (by decide) _, row_set h.bits (p := ⟨q, i, none⟩) hq (by decide) _, ?_⟩
  have hs := (own_store h.slots (i : Int) ((v : Nat) : Int)).1
  have e : (ints S.slots).set i ((v : Nat) : Int) = ints (S.slots.set i v) := by simp [ints, List.map_set]
  have e2 : ((i : Int)).toNat = i := rfl
  rw [e2, e] at hs
  show World.ownsRow _ b 3 1 _ (ints (S.slots.set i v)).length (nums .i64 (ints (S.slots.set i v)))
  have e3 : (ints (S.slots.set i v)).length = (ints S.slots).length := by simp [ints]
  rw [e3]
  exact hs
end Go.Proofs.Ytihlndgnkhlphaa.St
