/- A store as a list of texts and a list of bits: what each call tells and leaves. Condition: texts are at most 2^63 - 1 bytes. -/
import Derived.Test.YtihlndgnkhlphaaStQ
namespace Go.Proofs.Ytihlndgnkhlphaa.St
open Go.RowKit Go.Proofs.YtihlndgnkhlphaaW.PrintWords Go.Proofs.YtihlndgnkhlphaaW.PrintLast Go.Proofs.YtihlndgnkhlphaaW.PrintMore Go.Proofs.Ytihlndgnkhlphaa.PStorePlays
open Go.Proofs.Ytihlndgnkhlphaa.Sm

/-- The block g is a whole store of so many texts, with these texts and bits. -/
def Own (w : World) (b g : Nat) (most : Int) (L : List ByteArray) (B : List Int) : Prop :=
  b ≤ w.heap.size ∧ ∃ S : Data, StoreIn w b g S ∧ Good S ∧ S.most = most ∧ S.keys = L ∧ S.bits = B

section
variable {w w' : World} {b g : Nat} {most : Int} {L : List ByteArray} {B : List Int}
theorem Own.below (h : Own w b g most L B) (hb : Below w.heap.size w w') : Own w' b g most L B := by
  obtain ⟨h0, S, hS, hG, h1, h2, h3⟩ := h
  exact ⟨Nat.le_trans h0 hb.size, S, hS.below hb, hG, h1, h2, h3⟩
theorem Own.drawn (h : Own w b g most L B) (hd : Drawn0 w w') : Own w' b g most L B := h.below hd.below
theorem Own.len (h : Own w b g most L B) : B.length = L.length := by
  obtain ⟨_, S, _, hG, _, rfl, rfl⟩ := h
  exact hG.bits
theorem Own.most_le (h : Own w b g most L B) : 1 ≤ most ∧ most.toNat ≤ 20000 ∧ L.length ≤ most.toNat := by
  obtain ⟨_, S, _, hG, rfl, rfl, _⟩ := h
  exact ⟨hG.most0, hG.most1, hG.most⟩
/-- No two of the texts are one. -/
theorem Own.apart (h : Own w b g most L B) {n n' : Nat} {k : ByteArray} (hn : L[n]? = some k) (hn' : L[n']? = some k) : n = n' := by
  obtain ⟨_, S, _, hG, _, rfl, _⟩ := h
  exact hG.inv.apart (List.getElem?_eq_some_iff.1 hn).1 (List.getElem?_eq_some_iff.1 hn').1 hn hn'

theorem put_new_spec (h : Own w b g most L B) (k : ByteArray) (hk : k.size ≤ 9223372036854775807) (hn : ∀ n : Nat, L[n]? ≠ some k) (hm : L.length < most.toNat) :
    Calls Try.prog 11 #[.pointer (some ⟨g, 0, none⟩), .string k] w fun e w' => e = .returned (.tuple #[.int .i64 (L.length : Int), .bool true, .int .i64 0]) ∧ Own w' b g most (L ++ [k]) (B ++ [0]) ∧ Fr b w w' := by
  obtain ⟨hb, S, hS, hG, rfl, rfl, rfl⟩ := h
  refine (put_new w b g S k hS hG hb hk hn hm).mono ?_
  rintro e w' ⟨rfl, sl, h1, h2, h3⟩
  exact ⟨rfl, ⟨Nat.le_trans hb h3.below.size, _, h1, h2, rfl, rfl, rfl⟩, h3⟩
theorem put_there_spec (h : Own w b g most L B) (k : ByteArray) (n : Nat) (hk : k.size ≤ 9223372036854775807) (hn : L[n]? = some k) :
    Calls Try.prog 11 #[.pointer (some ⟨g, 0, none⟩), .string k] w fun e w' => e = .returned (.tuple #[.int .i64 (n : Int), .bool false, .int .i64 0]) ∧ Own w' b g most L B ∧ Fr b w w' := by
  have h' := h
  obtain ⟨hb, S, hS, hG, rfl, rfl, rfl⟩ := h
  refine (put_there w b g n S k hS hG hk hn).mono ?_
  rintro e w' ⟨rfl, hd⟩
  exact ⟨rfl, h'.drawn hd, (Fr.refl _ _).drawn hd⟩
theorem put_full_spec (h : Own w b g most L B) (k : ByteArray) (hk : k.size ≤ 9223372036854775807) (hn : ∀ n : Nat, L[n]? ≠ some k) (hm : ¬ L.length < most.toNat) :
    Calls Try.prog 11 #[.pointer (some ⟨g, 0, none⟩), .string k] w fun e w' => e = .returned (.tuple #[.int .i64 0, .bool false, .int .i64 45]) ∧ Own w' b g most L B ∧ Fr b w w' := by
  have h' := h
  obtain ⟨hb, S, hS, hG, rfl, rfl, rfl⟩ := h
  refine (put_full w b g S k hS hG hk hn hm).mono ?_
  rintro e w' ⟨rfl, hd⟩
  exact ⟨rfl, h'.drawn hd, (Fr.refl _ _).drawn hd⟩
theorem find_there_spec (h : Own w b g most L B) (k : ByteArray) (n : Nat) (hk : k.size ≤ 9223372036854775807) (hn : L[n]? = some k) :
    Calls Try.prog 13 #[.pointer (some ⟨g, 0, none⟩), .string k] w fun e w' => e = .returned (.tuple #[.int .i64 (n : Int), .bool true]) ∧ Own w' b g most L B ∧ Fr b w w' := by
  have h' := h
  obtain ⟨hb, S, hS, hG, rfl, rfl, rfl⟩ := h
  refine (find_there w b g n S k hS hG hk hn).mono ?_
  rintro e w' ⟨rfl, hd⟩
  exact ⟨rfl, h'.drawn hd, (Fr.refl _ _).drawn hd⟩
theorem find_none_spec (h : Own w b g most L B) (k : ByteArray) (hk : k.size ≤ 9223372036854775807) (hn : ∀ n : Nat, L[n]? ≠ some k) :
    Calls Try.prog 13 #[.pointer (some ⟨g, 0, none⟩), .string k] w fun e w' => e = .returned (.tuple #[.int .i64 0, .bool false]) ∧ Own w' b g most L B ∧ Fr b w w' := by
  have h' := h
  obtain ⟨hb, S, hS, hG, rfl, rfl, rfl⟩ := h
  refine (find_none w b g S k hS hG hk hn).mono ?_
  rintro e w' ⟨rfl, hd⟩
  exact ⟨rfl, h'.drawn hd, (Fr.refl _ _).drawn hd⟩

theorem len_spec (h : Own w b g most L B) : Calls Try.prog 10 #[.pointer (some ⟨g, 0, none⟩)] w fun e w' => e = .returned (.int .i64 (L.length : Int)) ∧ w = w' := by
  obtain ⟨hb, S, hS, hG, rfl, rfl, rfl⟩ := h
  rw [StoreIn.iff] at hS
  obtain ⟨kv, bv, sv, P⟩ := hS
  obtain ⟨A, c, rfl⟩ := own_slice P.keys
  exact len_walk w g _ _ _ _ _ _ P.blk
theorem key_in_spec (h : Own w b g most L B) {n : Nat} {k : ByteArray} (hn : L[n]? = some k) : Calls Try.prog 12 #[.pointer (some ⟨g, 0, none⟩), .int .i64 (n : Int)] w fun e w' => e = .returned (.tuple #[.string k, .int .i64 0]) ∧ w = w' := by
  obtain ⟨hb, S, hS, hG, rfl, rfl, rfl⟩ := h
  rw [StoreIn.iff] at hS
  obtain ⟨kv, bv, sv, P⟩ := hS
  obtain ⟨A, c, rfl⟩ := own_slice P.keys
  obtain ⟨hl, he⟩ := List.getElem?_eq_some_iff.1 hn
  obtain ⟨q, rfl, hc⟩ := P.key hl
  rw [he] at hc
  exact key_in w g q _ _ _ n _ _ k P.blk hl hc
theorem key_out_spec (h : Own w b g most L B) {n : Int} (hn : ¬ (0 ≤ n ∧ n < L.length)) : Calls Try.prog 12 #[.pointer (some ⟨g, 0, none⟩), .int .i64 n] w fun e w' => e = .returned (.tuple #[.string ⟨#[]⟩, .int .i64 46]) ∧ w = w' := by
  obtain ⟨hb, S, hS, hG, rfl, rfl, rfl⟩ := h
  rw [StoreIn.iff] at hS
  obtain ⟨kv, bv, sv, P⟩ := hS
  obtain ⟨A, c, rfl⟩ := own_slice P.keys
  exact key_out w g _ n _ _ _ _ _ P.blk hn

/-- The cell of a text's bits. -/
theorem Parts.bit {S : Data} {kv sv : Value} {A : Option Addr} {m cap n : Nat} {x : Int} (P : Parts w b g S kv (.slice A m cap) sv) (hn : S.bits[n]? = some x) : ∃ q, A = some ⟨q, 0, none⟩ ∧ w.cell? ⟨q, n, none⟩ = some (.int .u64 x) ∧ w.frozen? ⟨q, n, none⟩ = false ∧ q < w.heap.size ∧ (∃ cs, w.heap[q]? = some (.cells cs 34 (0, 0))) ∧ b ≤ q := by
  have hl : (nums .u64 S.bits).length = S.bits.length := nums_length _ _
  have hr := P.bits
  rw [← hl] at hr
  have hlt := (List.getElem?_eq_some_iff.1 hn).1
  obtain ⟨q, _, hv, hbq, _, ⟨cur, hcur⟩, hc⟩ := row_cells hr (by omega)
  injection hv with h1 _ _
  exact ⟨q, h1, hc n _ (by simp [nums, hn]), blk_frozen hcur n, blk_lt hcur, ⟨cur, hcur⟩, hbq⟩

theorem bits_in_spec (h : Own w b g most L B) {n : Nat} {x : Int} (hn : B[n]? = some x) : Calls Try.prog 16 #[.pointer (some ⟨g, 0, none⟩), .int .i64 (n : Int)] w fun e w' => e = .returned (.int .u64 x) ∧ w = w' := by
  have hbl := h.len
  obtain ⟨hb, S, hS, hG, rfl, rfl, rfl⟩ := h
  rw [StoreIn.iff] at hS
  obtain ⟨kv, bv, sv, P⟩ := hS
  obtain ⟨A, c, rfl⟩ := own_slice P.keys
  obtain ⟨A2, c2, rfl⟩ := own_slice P.bits
  obtain ⟨q, rfl, hc, hf, _⟩ := P.bit hn
  have hlt := (List.getElem?_eq_some_iff.1 hn).1
  exact bits_in w g q _ _ _ _ _ n _ _ x P.blk (by omega) hlt hc
theorem bits_out_spec (h : Own w b g most L B) {n : Int} (hn : ¬ (0 ≤ n ∧ n < L.length)) : Calls Try.prog 16 #[.pointer (some ⟨g, 0, none⟩), .int .i64 n] w fun e w' => e = .returned (.int .u64 0) ∧ w = w' := by
  obtain ⟨hb, S, hS, hG, rfl, rfl, rfl⟩ := h
  rw [StoreIn.iff] at hS
  obtain ⟨kv, bv, sv, P⟩ := hS
  obtain ⟨A, c, rfl⟩ := own_slice P.keys
  exact bits_out w g _ n _ _ _ _ _ P.blk hn

/-- A text's bits are written. -/
theorem Parts.bit_set {S : Data} {kv sv : Value} {q n cap : Nat} (P : Parts w b g S kv (.slice (some ⟨q, 0, none⟩) S.bits.length cap) sv) (x : Int) :
    Parts (w.setCell ⟨q, n, none⟩ (.int .u64 x)) b g { S with bits := S.bits.set n x } kv (.slice (some ⟨q, 0, none⟩) S.bits.length cap) sv := by
  obtain ⟨hb, cs, hq⟩ := row_block (q := q) P.bits rfl
  have hgq : g ≠ q := by
    intro e
    have := P.blk
    rw [e, hq] at this
    cases this
  refine ⟨blk_far P.blk hgq _, P.base, row_set P.keys (p := ⟨q, n, none⟩) hq (by decide) _, ?_, row_set P.slots (p := ⟨q, n, none⟩) hq (by decide) _⟩
  have hs := (own_store P.bits (n : Int) x).1
  have e2 : ((n : Int)).toNat = n := rfl
  rw [e2] at hs
  show World.ownsRow _ b 34 1 _ (S.bits.set n x).length (nums .u64 (S.bits.set n x))
  rw [List.length_set]
  exact hs
theorem good_bits {S : Data} (hG : Good S) (n : Nat) (x : Int) : Good { S with bits := S.bits.set n x } :=
  ⟨hG.inv, by show (S.bits.set n x).length = S.keys.length; rw [List.length_set]; exact hG.bits, hG.most, hG.most1, hG.most0, hG.room, hG.tight, hG.sizes⟩

theorem turn_bits (h : Own w b g most L B) {n : Nat} {x : Int} (hn : B[n]? = some x) :
    ∃ (q : Nat) (A : Option Addr) (kcap bcap : Nat) (sv : Value), w.heap[g]? = some (.cells #[.int .i64 most, .slice A L.length kcap, .slice (some ⟨q, 0, none⟩) B.length bcap, sv] 53 (0, 0)) ∧ w.cell? ⟨q, n, none⟩ = some (.int .u64 x) ∧ w.frozen? ⟨q, n, none⟩ = false ∧ q < w.heap.size ∧
      ∀ (y : Int) (o : Obj) (m : Nat), Own (((w.setCell ⟨q, n, none⟩ (.int .u64 y)).alloc o).drewN m) b g most L (B.set n y) ∧ Fr b w (((w.setCell ⟨q, n, none⟩ (.int .u64 y)).alloc o).drewN m) := by
  obtain ⟨hb, S, hS, hG, rfl, rfl, rfl⟩ := h
  rw [StoreIn.iff] at hS
  obtain ⟨kv, bv, sv, P⟩ := hS
  obtain ⟨A, c, rfl⟩ := own_slice P.keys
  obtain ⟨A2, c2, rfl⟩ := own_slice P.bits
  obtain ⟨q, rfl, hc, hf, hq, ⟨cs, hcs⟩, hbq⟩ := P.bit hn
  refine ⟨q, A, c, c2, sv, P.blk, hc, hf, hq, fun y o m => ?_⟩
  have hsz : (w.setCell ⟨q, n, none⟩ (.int .u64 y)).heap.size = w.heap.size := by simp
  have hF : Fr b w (((w.setCell ⟨q, n, none⟩ (.int .u64 y)).alloc o).drewN m) := (((Fr.refl b w).set (p := ⟨q, n, none⟩) hcs (Or.inr (Or.inr (Or.inl rfl))) hbq _).alloc (by rw [hsz]; exact hb) o).drewN m
  have hp := ((P.bit_set (n := n) y).below (below_alloc (Below.refl _ _) o)).drewN m
  exact ⟨⟨Nat.le_trans hb hF.below.size, { S with bits := S.bits.set n y }, (StoreIn.iff _ _ _ _).mpr ⟨_, _, _, hp⟩, good_bits hG n y, rfl, rfl, rfl⟩, hF⟩

theorem mark_in_spec (h : Own w b g most L B) {n : Nat} {x : Int} (y : Int) (hn : B[n]? = some x) :
    Calls Try.prog 14 #[.pointer (some ⟨g, 0, none⟩), .int .i64 (n : Int), .int .u64 y] w fun e w' => e = .returned (.int .i64 0) ∧ Own w' b g most L (B.set n (Go.bits .or .u64 x y)) ∧ Fr b w w' := by
  have hbl := h.len
  have hlt := (List.getElem?_eq_some_iff.1 hn).1
  obtain ⟨q, A, kcap, bcap, sv, hg, hc, hf, hq, ht⟩ := turn_bits h hn
  refine (mark_in w g q most _ kcap _ bcap n A sv x y hg (by omega) hlt hc hf hq).mono ?_
  rintro e w' ⟨rfl, m, rfl⟩
  exact ⟨rfl, ht _ _ m⟩
theorem clear_in_spec (h : Own w b g most L B) {n : Nat} {x : Int} (y : Int) (hn : B[n]? = some x) :
    Calls Try.prog 15 #[.pointer (some ⟨g, 0, none⟩), .int .i64 (n : Int), .int .u64 y] w fun e w' => e = .returned (.int .i64 0) ∧ Own w' b g most L (B.set n (Go.bits .andNot .u64 x y)) ∧ Fr b w w' := by
  have hbl := h.len
  have hlt := (List.getElem?_eq_some_iff.1 hn).1
  obtain ⟨q, A, kcap, bcap, sv, hg, hc, hf, hq, ht⟩ := turn_bits h hn
  refine (clear_in w g q most _ kcap _ bcap n A sv x y hg (by omega) hlt hc hf hq).mono ?_
  rintro e w' ⟨rfl, m, rfl⟩
  exact ⟨rfl, ht _ _ m⟩
theorem mark_out_spec (h : Own w b g most L B) {n : Int} (y : Int) (hn : ¬ (0 ≤ n ∧ n < L.length)) :
    Calls Try.prog 14 #[.pointer (some ⟨g, 0, none⟩), .int .i64 n, .int .u64 y] w fun e w' => e = .returned (.int .i64 46) ∧ Own w' b g most L B ∧ Fr b w w' := by
  have h' := h
  obtain ⟨hb, S, hS, hG, rfl, rfl, rfl⟩ := h
  rw [StoreIn.iff] at hS
  obtain ⟨kv, bv, sv, P⟩ := hS
  obtain ⟨A, c, rfl⟩ := own_slice P.keys
  refine (mark_out w g _ n y _ _ _ _ _ P.blk hn).mono ?_
  rintro e w' ⟨rfl, rfl⟩
  exact ⟨rfl, h'.below (below_alloc (Below.refl _ _) _), (Fr.refl _ _).alloc hb _⟩
theorem clear_out_spec (h : Own w b g most L B) {n : Int} (y : Int) (hn : ¬ (0 ≤ n ∧ n < L.length)) :
    Calls Try.prog 15 #[.pointer (some ⟨g, 0, none⟩), .int .i64 n, .int .u64 y] w fun e w' => e = .returned (.int .i64 46) ∧ Own w' b g most L B ∧ Fr b w w' := by
  have h' := h
  obtain ⟨hb, S, hS, hG, rfl, rfl, rfl⟩ := h
  rw [StoreIn.iff] at hS
  obtain ⟨kv, bv, sv, P⟩ := hS
  obtain ⟨A, c, rfl⟩ := own_slice P.keys
  refine (clear_out w g _ n y _ _ _ _ _ P.blk hn).mono ?_
  rintro e w' ⟨rfl, rfl⟩
  exact ⟨rfl, h'.below (below_alloc (Below.refl _ _) _), (Fr.refl _ _).alloc hb _⟩

theorem new_spec (w : World) (b : Nat) (hb : b ≤ w.heap.size) (most : Int) (h0 : 1 ≤ most) (h1 : most ≤ 20000) :
    Calls Try.prog 7 #[.int .i64 most] w fun e w' => ∃ g, e = .returned (.tuple #[.pointer (some ⟨g, 0, none⟩), .int .i64 0]) ∧ Own w' b g most [] [] ∧ Below w.heap.size w w' ∧ w.heap.size ≤ g := by
  refine (new_in w most h0 h1).mono ?_
  rintro e w' ⟨rfl, rfl⟩
  have hB : Below w.heap.size w ((w.alloc (.cells (madeCells #[.int .i64 0] 16) 3)).alloc (.cells #[.int .i64 most, .slice none 0 0, .slice none 0 0, .slice (some ⟨w.heap.size, 0, none⟩) 16 16] 53)) := below_alloc (below_alloc (Below.refl _ _) _) _
  exact ⟨_, rfl, ⟨Nat.le_trans hb hB.size, fresh most, fresh_in w b hb most, good_fresh most h0 h1, rfl, rfl, rfl⟩, hB, Nat.le_succ _⟩
end
end Go.Proofs.Ytihlndgnkhlphaa.St
