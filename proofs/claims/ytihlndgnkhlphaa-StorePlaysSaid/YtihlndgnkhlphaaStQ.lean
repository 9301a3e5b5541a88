/- What New, Put and Find tell, in every case. Condition: texts are at most 2^63 - 1 bytes. -/
import Derived.Test.YtihlndgnkhlphaaStP
namespace Go.Proofs.Ytihlndgnkhlphaa.St
open Go.RowKit Go.Proofs.YtihlndgnkhlphaaW.PrintWords Go.Proofs.YtihlndgnkhlphaaW.PrintLast Go.Proofs.YtihlndgnkhlphaaW.PrintMore Go.Proofs.Ytihlndgnkhlphaa.PStorePlays
open Go.Proofs.Ytihlndgnkhlphaa.Sm

set_option maxHeartbeats 400000 in
set_option maxRecDepth 100000 in
theorem put_nil (w : World) (key : ByteArray) : Calls Try.prog 11 #[.pointer none, .string key] w fun e w' => e = .returned (.tuple #[.int .i64 0, .bool false, .int .i64 42]) ∧ w' = w := by
  go_enter Try.func11, Try.ntmps11
  go_wp2
  go_ret3
  exact ⟨by first | rfl | simp, rfl⟩
set_option maxHeartbeats 400000 in
set_option maxRecDepth 100000 in
theorem find_nil (w : World) (key : ByteArray) : Calls Try.prog 13 #[.pointer none, .string key] w fun e w' => e = .returned (.tuple #[.int .i64 0, .bool false]) ∧ w' = w := by
  go_enter Try.func13, Try.ntmps13
  go_wp2
  go_ret2
  exact ⟨by first | rfl | simp, rfl⟩

set_option maxHeartbeats 400000 in
set_option maxRecDepth 100000 in
theorem put_there (w : World) (b g n : Nat) (S : Data) (key : ByteArray) (hS : StoreIn w b g S) (hG : Good S) (hk : key.size ≤ 9223372036854775807) (hn : S.keys[n]? = some key) :
    Calls Try.prog 11 #[.pointer (some ⟨g, 0, none⟩), .string key] w fun e w' => e = .returned (.tuple #[.int .i64 (n : Int), .bool false, .int .i64 0]) ∧ Drawn0 w w' := by
  have hnl : n < S.keys.length := (List.getElem?_eq_some_iff.1 hn).1
  obtain ⟨d, hF, hz⟩ := hG.inv.there n key hnl hn
  have hkl := hG.klen
  obtain ⟨A, kcap, bv, q, cap, hg, hbg, hc, hfr⟩ := hS.parts hG.inv.pos
  have c3 : w.cell? ⟨g, 3, none⟩ = some (.slice (some ⟨q, 0, none⟩) S.slots.length cap) := (blk_cell hg 3).trans rfl
  have cz : w.cell? ⟨q, place hsh S.slots key d, none⟩ = some (.int .i64 ((n : Int) + 1)) := by have := hc _ _ hz; simpa using this
  have hlt := place_lt (H := hsh) (key := key) hG.inv.pos d
  have b0 : (((n : Int) + 1) != 0) = true := by simp; omega
  have HS := Aside0.mk (slot_any w b g _ S key d hS hG.inv hG.len hG.klen hk hF)
  clear hS hG hk hn hF hz hg hc hfr
  generalize place hsh S.slots key d = i at *
  go_enter Try.func11, Try.ntmps11
  go_wp2_with (go_at_call 23; refine HS.out.mono ?_; rintro e w1 ⟨rfl, ⟨nd, rfl⟩⟩)
  go_ret3
  exact ⟨by first | rfl | simp, by repeat (first | exact Drawn0.refl _ | apply Drawn0.step)⟩

set_option maxHeartbeats 400000 in
set_option maxRecDepth 100000 in
theorem put_full (w : World) (b g : Nat) (S : Data) (key : ByteArray) (hS : StoreIn w b g S) (hG : Good S) (hk : key.size ≤ 9223372036854775807) (hn : ∀ n : Nat, S.keys[n]? ≠ some key) (hm : ¬ S.keys.length < S.most.toNat) :
    Calls Try.prog 11 #[.pointer (some ⟨g, 0, none⟩), .string key] w fun e w' => e = .returned (.tuple #[.int .i64 0, .bool false, .int .i64 45]) ∧ Drawn0 w w' := by
  obtain ⟨d, hF⟩ := exists_found hG.inv hG.lt key
  have hz : S.slots[place hsh S.slots key d]? = some 0 := by
    rcases hF.1 with h | ⟨m, _, h⟩
    · exact h
    · exact absurd h (hn m)
  obtain ⟨A, kcap, bv, q, cap, hg, hbg, hc, hfr⟩ := hS.parts hG.inv.pos
  have c0 : w.cell? ⟨g, 0, none⟩ = some (.int .i64 S.most) := (blk_cell hg 0).trans rfl
  have c1 : w.cell? ⟨g, 1, none⟩ = some (.slice A S.keys.length kcap) := (blk_cell hg 1).trans rfl
  have c3 : w.cell? ⟨g, 3, none⟩ = some (.slice (some ⟨q, 0, none⟩) S.slots.length cap) := (blk_cell hg 3).trans rfl
  have cz : w.cell? ⟨q, place hsh S.slots key d, none⟩ = some (.int .i64 0) := by have := hc _ _ hz; simpa using this
  have hlt := place_lt (H := hsh) (key := key) hG.inv.pos d
  have bm : (((S.keys.length : Nat) : Int) == S.most) = true := by have := hG.most; have := hG.most0; simp; omega
  have HS := Aside0.mk (slot_any w b g _ S key d hS hG.inv hG.len hG.klen hk hF)
  clear hS hG hk hn hF hz hg hc hfr hm
  generalize place hsh S.slots key d = i at *
  go_enter Try.func11, Try.ntmps11
  go_wp2_with (go_at_call 23; refine HS.out.mono ?_; rintro e w1 ⟨rfl, ⟨nd, rfl⟩⟩)
  go_quiet (fail)
  go_wp2
  go_ret3
  exact ⟨by first | rfl | simp, by repeat (first | exact Drawn0.refl _ | apply Drawn0.step)⟩

theorem put_new (w : World) (b g : Nat) (S : Data) (key : ByteArray) (hS : StoreIn w b g S) (hG : Good S) (hb : b ≤ w.heap.size) (hk : key.size ≤ 9223372036854775807) (hn : ∀ n : Nat, S.keys[n]? ≠ some key) (hm : S.keys.length < S.most.toNat) :
    Calls Try.prog 11 #[.pointer (some ⟨g, 0, none⟩), .string key] w fun e w' => e = .returned (.tuple #[.int .i64 (S.keys.length : Int), .bool true, .int .i64 0]) ∧
      ∃ sl, StoreIn w' b g (more S key sl) ∧ Good (more S key sl) ∧ Fr b w w' := by
  obtain ⟨d, hF⟩ := exists_found hG.inv hG.lt key
  have hz : S.slots[place hsh S.slots key d]? = some 0 := by
    rcases hF.1 with h | ⟨m, _, h⟩
    · exact h
    · exact absurd h (hn m)
  exact put_walk w b g d S key hS hG hb hk hF hz hm

theorem find_there (w : World) (b g n : Nat) (S : Data) (key : ByteArray) (hS : StoreIn w b g S) (hG : Good S) (hk : key.size ≤ 9223372036854775807) (hn : S.keys[n]? = some key) :
    Calls Try.prog 13 #[.pointer (some ⟨g, 0, none⟩), .string key] w fun e w' => e = .returned (.tuple #[.int .i64 (n : Int), .bool true]) ∧ Drawn0 w w' := by
  have hnl : n < S.keys.length := (List.getElem?_eq_some_iff.1 hn).1
  obtain ⟨d, hF, hz⟩ := hG.inv.there n key hnl hn
  exact find_walk w b g S key d hS hG hk hF (n + 1) hz _ _ (by rw [if_neg (by omega)]; omega) (by simp)
theorem find_none (w : World) (b g : Nat) (S : Data) (key : ByteArray) (hS : StoreIn w b g S) (hG : Good S) (hk : key.size ≤ 9223372036854775807) (hn : ∀ n : Nat, S.keys[n]? ≠ some key) :
    Calls Try.prog 13 #[.pointer (some ⟨g, 0, none⟩), .string key] w fun e w' => e = .returned (.tuple #[.int .i64 0, .bool false]) ∧ Drawn0 w w' := by
  obtain ⟨d, hF⟩ := exists_found hG.inv hG.lt key
  have hz : S.slots[place hsh S.slots key d]? = some 0 := by
    rcases hF.1 with h | ⟨m, _, h⟩
    · exact h
    · exact absurd h (hn m)
  exact find_walk w b g S key d hS hG hk hF 0 hz _ _ (by simp) (by simp)

/-- A store without texts. -/
def fresh (most : Int) : Data := { most := most, keys := [], bits := [], slots := List.replicate 16 0 }
theorem good_fresh (most : Int) (h0 : 1 ≤ most) (h1 : most ≤ 20000) : Good (fresh most) := by
  refine ⟨Inv.empty 16 (by omega) [], rfl, by simp [fresh], by simp [fresh]; omega, h0, by simp [fresh], by simp [fresh], by simp [fresh]⟩

theorem fresh_in (w : World) (b : Nat) (hb : b ≤ w.heap.size) (most : Int) :
    StoreIn ((w.alloc (.cells (madeCells #[.int .i64 0] 16) 3)).alloc (.cells #[.int .i64 most, .slice none 0 0, .slice none 0 0, .slice (some ⟨w.heap.size, 0, none⟩) 16 16] 53)) b (w.heap.size + 1) (fresh most) := by
  have h := own_made w b 3 .i64 16 hb (by omega)
  have hs : (w.alloc (.cells (madeCells #[.int .i64 0] 16) 3)).heap.size = w.heap.size + 1 := by simp
  refine ⟨.slice none 0 0, .slice none 0 0, .slice (some ⟨w.heap.size, 0, none⟩) 16 16, ?_, by omega, own_nil _ _ _ _, own_nil _ _ _ _, ?_⟩
  · rw [← hs]
    exact heap_alloc_new _ _
  · show World.ownsRow _ b 3 1 _ (ints (List.replicate 16 0)).length (nums .i64 (ints (List.replicate 16 0)))
    rw [ints_replicate, List.length_replicate]
    exact row_below h (below_alloc (Below.refl _ _) _)

set_option maxHeartbeats 400000 in
set_option maxRecDepth 100000 in
theorem new_in (w : World) (most : Int) (h0 : 1 ≤ most) (h1 : most ≤ 20000) :
    Calls Try.prog 7 #[.int .i64 most] w fun e w' => e = .returned (.tuple #[.pointer (some ⟨w.heap.size + 1, 0, none⟩), .int .i64 0]) ∧
      w' = (w.alloc (.cells (madeCells #[.int .i64 0] 16) 3)).alloc (.cells #[.int .i64 most, .slice none 0 0, .slice none 0 0, .slice (some ⟨w.heap.size, 0, none⟩) 16 16] 53) := by
  have hmk := print_make 50 3 .i64 8 Try.underlying50 info3 (by decide) 16 (by omega)
  have e16 : ((16 : Nat) : Int) = 16 := rfl
  rw [e16] at hmk
  clear e16
  have b0 : decide (most < 1) = false := decide_eq_false (by omega)
  have b1 : decide (20000 < most) = false := decide_eq_false (by omega)
  go_enter Try.func7, Try.ntmps7
  go_wp2
  go_ret2
  exact ⟨rfl, rfl⟩
theorem new_out (w : World) (most : Int) (h : most < 1 ∨ 20000 < most) :
    Calls Try.prog 7 #[.int .i64 most] w fun e w' => e = .returned (.tuple #[.pointer none, .int .i64 42]) ∧ w' = w := by
  rcases h with h | h
  · have b0 : decide (most < 1) = true := decide_eq_true (by omega)
    clear h
    go_enter Try.func7, Try.ntmps7
    go_wp2
    go_ret2
    exact ⟨rfl, rfl⟩
  · have b0 : decide (most < 1) = false := decide_eq_false (by omega)
    have b1 : decide (20000 < most) = true := decide_eq_true (by omega)
    clear h
    go_enter Try.func7, Try.ntmps7
    go_wp2
    go_ret2
    exact ⟨rfl, rfl⟩
end Go.Proofs.Ytihlndgnkhlphaa.St
