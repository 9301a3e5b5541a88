/- Where a text is found in a store: the walk of Find. Condition: texts are at most 2^63 - 1 bytes, a store's slots at most a million. -/
import Derived.Test.YtihlndgnkhlphaaStR
namespace Go.Proofs.Ytihlndgnkhlphaa.St
open Go.RowKit Go.Proofs.YtihlndgnkhlphaaW.PrintWords Go.Proofs.YtihlndgnkhlphaaW.PrintLast Go.Proofs.YtihlndgnkhlphaaW.PrintMore Go.Proofs.Ytihlndgnkhlphaa.PStorePlays
open Go.Proofs.Ytihlndgnkhlphaa.Sm

theorem StoreIn.drewN {w : World} {b g : Nat} {S : Data} (h : StoreIn w b g S) (n : Nat) : StoreIn (w.drewN n) b g S := h

/-- A store that is whole: its invariant. -/
structure Good (S : Data) : Prop where
  inv : Inv hsh S.keys S.slots S.keys.length
  bits : S.bits.length = S.keys.length
  most : S.keys.length ≤ S.most.toNat
  most1 : S.most.toNat ≤ 20000
  most0 : 1 ≤ S.most
  room : 2 * S.keys.length ≤ S.slots.length
  tight : S.slots.length ≤ 4 * S.keys.length + 16
  sizes : ∀ k, k ∈ S.keys → k.size ≤ 9223372036854775807

theorem Good.len {S : Data} (h : Good S) : S.slots.length ≤ 1000000 := by have := h.tight; have := h.most; have := h.most1; omega
theorem Good.klen {S : Data} (h : Good S) : S.keys.length ≤ 1000000 := by have := h.most; have := h.most1; omega
theorem Good.lt {S : Data} (h : Good S) : S.keys.length < S.slots.length := by have := h.room; have := h.inv.pos; omega

/-- The store's parts in memory, with their cells. -/
theorem StoreIn.parts {w : World} {b g : Nat} {S : Data} (h : StoreIn w b g S) (hp : 0 < S.slots.length) : ∃ (A : Option Addr) (kcap : Nat) (bv : Value) (q cap : Nat),
    w.heap[g]? = some (.cells #[.int .i64 S.most, .slice A S.keys.length kcap, bv, .slice (some ⟨q, 0, none⟩) S.slots.length cap] 53 (0, 0)) ∧ b ≤ g ∧
    (∀ i v, S.slots[i]? = some v → w.cell? ⟨q, i, none⟩ = some (.int .i64 ((v : Nat) : Int))) ∧ (∀ i, w.frozen? ⟨q, i, none⟩ = false) := by
  obtain ⟨kv, bv, sv, hg, hbg, hkr, hbr, hsr⟩ := h
  have hsl : (nums .i64 (ints S.slots)).length = (ints S.slots).length := nums_length _ _
  have hsl2 : (ints S.slots).length = S.slots.length := ints_length _
  obtain ⟨q, cap, rfl, _, _, ⟨cur, hcur⟩, hc⟩ := row_cells (by rw [hsl]; exact hsr) (by omega)
  obtain ⟨A, kcap, rfl⟩ := own_slice hkr
  rw [hsl, hsl2] at hg
  exact ⟨A, kcap, bv, q, cap, hg, hbg, fun i v hv => hc i _ (by simp [nums, ints, hv]), fun i => blk_frozen hcur i⟩

set_option maxHeartbeats 400000 in
set_option maxRecDepth 100000 in
theorem find_walk (w : World) (b g : Nat) (S : Data) (key : ByteArray) (d : Nat) (hS : StoreIn w b g S) (hG : Good S) (hk : key.size ≤ 9223372036854775807) (hF : Sm.Found hsh S.keys S.slots key d) (v : Nat) (hv : S.slots[place hsh S.slots key d]? = some v) (m : Int) (z : Bool) (hm : m = (if v = 0 then 0 else (v : Int) - 1)) (hz : z = !decide (v = 0)) :
    Calls Try.prog 13 #[.pointer (some ⟨g, 0, none⟩), .string key] w fun e w' => e = .returned (.tuple #[.int .i64 m, .bool z]) ∧ Drawn0 w w' := by
  have hvs : v ≤ 1000000 := by
    cases v with
    | zero => omega
    | succ v => have := hG.inv.small _ _ hv; have := hG.klen; omega
  obtain ⟨A, kcap, bv, q, cap, hg, hbg, hc, hfr⟩ := hS.parts hG.inv.pos
  have c3 : w.cell? ⟨g, 3, none⟩ = some (.slice (some ⟨q, 0, none⟩) S.slots.length cap) := (blk_cell hg 3).trans rfl
  have cv := hc _ _ hv
  have hlt := place_lt (H := hsh) (key := key) hG.inv.pos d
  have HS := fun n => Aside0.mk (slot_any (w.drewN n) b g _ S key d (hS.drewN n) hG.inv hG.len hG.klen hk hF)
  have HH := Aside0.mk HS
  clear hS hG hF hv hc hg HS hfr
  generalize place hsh S.slots key d = i at *
  generalize S.slots.length = n at *
  by_cases h0 : v = 0
  · subst h0
    simp at hm hz
    subst hm hz
    go_enter Try.func13, Try.ntmps13
    go_wp2
    go_quiet ((go_at_call 23; exact Calls.quiet_of ((HH.out _).out.mono fun e w' h => ⟨h.1, h.2.out⟩)))
    go_wp2
    go_ret2
    exact ⟨by first | rfl | simp, by repeat (first | exact Drawn0.refl _ | apply Drawn0.step)⟩
  · rw [if_neg h0] at hm
    rw [decide_eq_false h0] at hz
    simp at hz
    subst hm hz
    have b0 : ((v : Int) == 0) = false := by simp; omega
    have b1 : 1 ≤ v := by omega
    clear h0
    go_enter Try.func13, Try.ntmps13
    go_wp2
    go_quiet ((go_at_call 23; exact Calls.quiet_of ((HH.out _).out.mono fun e w' h => ⟨h.1, h.2.out⟩)))
    go_wp2
    go_ret2
    exact ⟨by first | rfl | simp, by repeat (first | exact Drawn0.refl _ | apply Drawn0.step)⟩
end Go.Proofs.Ytihlndgnkhlphaa.St
