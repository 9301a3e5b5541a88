/- The document's own store: its memory, and the walks of what only reads. No condition. -/
import Derived.Test.YtihlndgnkhlphaaStN
namespace Go.Proofs.Ytihlndgnkhlphaa.St
open Go.RowKit Go.Proofs.YtihlndgnkhlphaaW.PrintWords Go.Proofs.YtihlndgnkhlphaaW.PrintLast Go.Proofs.YtihlndgnkhlphaaW.PrintMore Go.Proofs.Ytihlndgnkhlphaa.PStorePlays

/-- Rows, cell by cell. -/
def flat (rows : List (ByteArray × Int)) : List Value := rows.flatMap fun r => [.string r.1, .int .u64 r.2]
theorem flat_length (rows : List (ByteArray × Int)) : (flat rows).length = rows.length * 2 := by
  unfold flat
  induction rows with
  | nil => rfl
  | cons r rows ih => simp at ih ⊢; omega
theorem flat_append (a b : List (ByteArray × Int)) : flat (a ++ b) = flat a ++ flat b := by simp [flat]
theorem flat_get0 (rows : List (ByteArray × Int)) (i : Nat) (r : ByteArray × Int) (h : rows[i]? = some r) : (flat rows)[i * 2]? = some (.string r.1) ∧ (flat rows)[i * 2 + 1]? = some (.int .u64 r.2) := by
  induction rows generalizing i with
  | nil => simp at h
  | cons x rows ih =>
    cases i with
    | zero => simp at h; subst h; simp [flat]
    | succ i =>
      have := ih i (by simpa using h)
      have e : flat (x :: rows) = .string x.1 :: .int .u64 x.2 :: flat rows := rfl
      rw [e, show (i + 1) * 2 = i * 2 + 1 + 1 by omega, show i * 2 + 1 + 1 + 1 = (i * 2 + 1) + 1 + 1 by omega]
      simpa using this
theorem flat_set (rows : List (ByteArray × Int)) (i : Nat) (y : Int) (r : ByteArray × Int) (h : rows[i]? = some r) : (flat rows).set (i * 2 + 1) (.int .u64 y) = flat (rows.set i (r.1, y)) := by
  induction rows generalizing i with
  | nil => simp at h
  | cons x rows ih =>
    cases i with
    | zero => simp at h; subst h; simp [flat]
    | succ i =>
      have := ih i (by simpa using h)
      have e : ∀ x rows, flat (x :: rows) = .string x.1 :: .int .u64 x.2 :: flat rows := fun _ _ => rfl
      rw [e, show (i + 1) * 2 + 1 = (i * 2 + 1) + 1 + 1 by omega, List.set_cons_succ, List.set_cons_succ, this, List.set_cons_succ, e]

/-- The block g is the document's store. -/
def RIn (w : World) (b g : Nat) (most : Int) (rows : List (ByteArray × Int)) : Prop :=
  b ≤ w.heap.size ∧ ∃ v, w.heap[g]? = some (.cells #[.int .i64 most, v] 32 (0, 0)) ∧ b ≤ g ∧ w.ownsRow b 63 2 v rows.length (flat rows)

def theirs (t : TypeId) : Prop := t = 32 ∨ t = 63

/-- Below b all is as it was; above, all blocks that are none of the document's store's. -/
structure FrR (b : Nat) (w w' : World) : Prop where
  below : Below b w w'
  keep : ∀ (i : Nat) (o : Obj), w.heap[i]? = some o → (∀ cs t fz, o = .cells cs t fz → ¬ theirs t) → w'.heap[i]? = some o
theorem FrR.refl (b : Nat) (w : World) : FrR b w w := ⟨Below.refl _ _, fun _ _ h _ => h⟩
theorem FrR.trans {b : Nat} {w w1 w2 : World} (h : FrR b w w1) (k : FrR b w1 w2) : FrR b w w2 := ⟨h.below.trans k.below, fun i o ho hn => k.keep i o (h.keep i o ho hn) hn⟩
theorem FrR.of_below {b : Nat} {w w1 : World} (h : Below w.heap.size w w1) (hb : b ≤ w.heap.size) : FrR b w w1 :=
  ⟨h.mono hb, fun i _ ho _ => (h.block i (blk_lt ho)).trans ho⟩
theorem FrR.drewN {b : Nat} {w w1 : World} (h : FrR b w w1) (n : Nat) : FrR b w (w1.drewN n) := ⟨pw_below_drewN h.below n, fun i o ho hn => h.keep i o ho hn⟩
theorem FrR.drawn {b : Nat} {w w1 w2 : World} (h : FrR b w w1) (k : Drawn0 w1 w2) : FrR b w w2 := by
  obtain ⟨n, rfl⟩ := k.out
  exact h.drewN n
theorem FrR.set {b : Nat} {w w1 : World} (h : FrR b w w1) {p : Addr} {cs : Array Value} {t : TypeId} {fz : Nat × Nat} (hq : w1.heap[p.block]? = some (.cells cs t fz)) (ht : theirs t) (hb : b ≤ p.block) (u : Value) : FrR b w (w1.setCell p u) := by
  refine h.trans ⟨(Below.refl _ _).setCell hb u, fun i o ho hn => ?_⟩
  have hne : i ≠ p.block := by
    intro e
    subst e
    rw [hq] at ho
    cases ho
    exact hn _ _ _ rfl ht
  exact (Below.heap_setCell w1 p u i hne).trans ho
theorem FrR.grown {b : Nat} {w w1 w2 : World} (h : FrR b w w1) {row : Option Nat} (hg : w1.grownBy w2 row) (hb : b ≤ w1.heap.size) (hr : ∀ q, row = some q → b ≤ q ∧ ∃ cs t fz, w1.heap[q]? = some (.cells cs t fz) ∧ theirs t) : FrR b w w2 := by
  refine h.trans ⟨(Below.refl b w1).grown hg hb (fun q hq => (hr q hq).1), fun i o ho hn => ?_⟩
  have hne : some i ≠ row := by
    intro e
    obtain ⟨_, cs, t, fz, hq, ht⟩ := hr i e.symm
    rw [hq] at ho
    cases ho
    exact hn _ _ _ rfl ht
  exact (hg.block i (blk_lt ho) hne).trans ho

theorem row_of_blk {w w1 : World} {b e sz n : Nat} {v : Value} {xs : List Value} (h : w.ownsRow b e sz v n xs) (hk : ∀ (q : Nat) (cs : Array Value), w.heap[q]? = some (Obj.cells cs e (0, 0)) → w1.heap[q]? = some (Obj.cells cs e (0, 0))) : w1.ownsRow b e sz v n xs := by
  refine ⟨h.1, ?_⟩
  rcases h.2 with h0 | ⟨g, cap, cur, hv, hb, hg, r⟩
  · exact Or.inl h0
  · exact Or.inr ⟨g, cap, cur, hv, hb, hk g cur hg, r⟩

/-- The document's store lives on through a call on the program's. -/
theorem RIn.fr {w w1 : World} {b g : Nat} {most : Int} {rows : List (ByteArray × Int)} (h : RIn w b g most rows) (hf : Fr b w w1) : RIn w1 b g most rows := by
  obtain ⟨hb, v, hg, hbg, hr⟩ := h
  refine ⟨Nat.le_trans hb hf.below.size, v, hf.keep g _ hg (fun cs t fz e => by cases e; simp [ours]), hbg, row_of_blk hr fun q cs hq => hf.keep q _ hq (fun cs t fz e => by cases e; simp [ours])⟩
/-- .. and the program's through a call on the document's. -/
theorem Own.frR {w w1 : World} {b g : Nat} {most : Int} {L : List ByteArray} {B : List Int} (h : Own w b g most L B) (hf : FrR b w w1) : Own w1 b g most L B := by
  obtain ⟨hb, S, hS, hG, h1, h2, h3⟩ := h
  obtain ⟨kv, bv, sv, hg, hbg, hk, hbb, hs⟩ := hS
  exact ⟨Nat.le_trans hb hf.below.size, S, ⟨kv, bv, sv, hf.keep g _ hg (fun cs t fz e => by cases e; simp [theirs]), hbg, row_of_blk hk fun q cs hq => hf.keep q _ hq (fun cs t fz e => by cases e; simp [theirs]),
    row_of_blk hbb fun q cs hq => hf.keep q _ hq (fun cs t fz e => by cases e; simp [theirs]), row_of_blk hs fun q cs hq => hf.keep q _ hq (fun cs t fz e => by cases e; simp [theirs])⟩, hG, h1, h2, h3⟩
theorem RIn.drewN {w : World} {b g : Nat} {most : Int} {rows : List (ByteArray × Int)} (h : RIn w b g most rows) (n : Nat) : RIn (w.drewN n) b g most rows := h

theorem RIn.cells {w : World} {b g : Nat} {most : Int} {rows : List (ByteArray × Int)} (h : RIn w b g most rows) : ∃ A cap, w.cell? ⟨g, 0, none⟩ = some (.int .i64 most) ∧ w.cell? ⟨g, 1, none⟩ = some (.slice A rows.length cap) ∧ w.frozen? ⟨g, 1, none⟩ = false ∧ g < w.heap.size ∧
    (0 < rows.length → ∃ q, A = some ⟨q, 0, none⟩ ∧ ∀ i r, rows[i]? = some r → w.cell? ⟨q, i * 2, none⟩ = some (.string r.1) ∧ w.cell? ⟨q, i * 2 + 1, none⟩ = some (.int .u64 r.2) ∧ w.frozen? ⟨q, i * 2 + 1, none⟩ = false) := by
  obtain ⟨_, v, hg, hbg, hr⟩ := h
  obtain ⟨A, c, rfl⟩ := own_slice hr
  refine ⟨A, c, (blk_cell hg 0).trans rfl, (blk_cell hg 1).trans rfl, blk_frozen hg 1, blk_lt hg, fun hp => ?_⟩
  rcases hr.2 with ⟨_, h0⟩ | ⟨q, cap, cur, hv, hb, hq, _⟩
  · omega
  · injection hv with h1 _ _
    subst h1
    refine ⟨q, rfl, fun i r hi => ?_⟩
    obtain ⟨f0, f1⟩ := flat_get0 rows i r hi
    have c0 := hr.cells (g := q) rfl _ _ f0
    have c1 := hr.cells (g := q) rfl _ _ f1
    rw [add_plain] at c0 c1
    exact ⟨c0, c1, blk_frozen hq _⟩

set_option maxHeartbeats 400000 in
set_option maxRecDepth 100000 in
theorem rkey_in (w : World) (b g n : Nat) (most : Int) (rows : List (ByteArray × Int)) (r : ByteArray × Int) (h : RIn w b g most rows) (hn : rows[n]? = some r) (hl : rows.length ≤ 1000000) :
    Calls Try.prog 21 #[.pointer (some ⟨g, 0, none⟩), .int .i64 (n : Int)] w fun e w' => e = .returned (.tuple #[.string r.1, .int .i64 0]) ∧ w = w' := by
  obtain ⟨A, cap, c0, c1, f1, hlt, hq⟩ := h.cells
  have hnl := (List.getElem?_eq_some_iff.1 hn).1
  obtain ⟨q, rfl, hc⟩ := hq (by omega)
  obtain ⟨k0, k1, kf⟩ := hc n r hn
  clear hc hn h
  go_enter Try.func21, Try.ntmps21
  go_wp2
  go_ret2
  exact ⟨rfl, rfl⟩
set_option maxHeartbeats 400000 in
set_option maxRecDepth 100000 in
theorem rbits_in (w : World) (b g n : Nat) (most : Int) (rows : List (ByteArray × Int)) (r : ByteArray × Int) (h : RIn w b g most rows) (hn : rows[n]? = some r) (hl : rows.length ≤ 1000000) :
    Calls Try.prog 22 #[.pointer (some ⟨g, 0, none⟩), .int .i64 (n : Int)] w fun e w' => e = .returned (.int .u64 r.2) ∧ w = w' := by
  obtain ⟨A, cap, c0, c1, f1, hlt, hq⟩ := h.cells
  have hnl := (List.getElem?_eq_some_iff.1 hn).1
  obtain ⟨q, rfl, hc⟩ := hq (by omega)
  obtain ⟨k0, k1, kf⟩ := hc n r hn
  clear hc hn h
  go_enter Try.func22, Try.ntmps22
  go_wp2
  go_ret
  exact ⟨rfl, rfl⟩
end Go.Proofs.Ytihlndgnkhlphaa.St
