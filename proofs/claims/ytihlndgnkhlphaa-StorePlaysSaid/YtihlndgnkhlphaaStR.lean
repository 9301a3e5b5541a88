/- What a store tells without turning: how many texts, a text, its bits. Condition: at most a million texts. -/
import Derived.Test.YtihlndgnkhlphaaSl
namespace Go.Proofs.Ytihlndgnkhlphaa.St
open Go.RowKit Go.Proofs.YtihlndgnkhlphaaW.PrintWords Go.Proofs.YtihlndgnkhlphaaW.PrintLast Go.Proofs.YtihlndgnkhlphaaW.PrintMore Go.Proofs.Ytihlndgnkhlphaa.PStorePlays
open Go.Proofs.Ytihlndgnkhlphaa.Sm

set_option maxHeartbeats 400000 in
set_option maxRecDepth 100000 in
theorem has_walk (w : World) (g : Nat) (most : Int) (A : Option Addr) (kn kcap : Nat) (bv sv : Value) (n : Int) (hg : w.heap[g]? = some (.cells #[.int .i64 most, .slice A kn kcap, bv, sv] 53 (0, 0))) :
    Calls Try.prog 25 #[.pointer (some ⟨g, 0, none⟩), .int .i64 n] w fun e w' => e = .returned (.bool (decide (0 ≤ n ∧ n < kn))) ∧ w = w' := by
  have c1 : w.cell? ⟨g, 1, none⟩ = some (.slice A kn kcap) := (blk_cell hg 1).trans rfl
  clear hg
  by_cases h0 : 0 ≤ n
  · have b0 : decide (0 ≤ n) = true := decide_eq_true h0
    by_cases h1 : n < kn
    · have b1 : decide (n < (kn : Int)) = true := decide_eq_true h1
      have e : decide (0 ≤ n ∧ n < (kn : Int)) = true := by simp [h0, h1]
      rw [e]
      clear e
      go_enter Try.func25, Try.ntmps25
      go_wp2
      go_ret
      exact ⟨by first | rfl | simp, rfl⟩
    · have b1 : decide (n < (kn : Int)) = false := decide_eq_false h1
      have e : decide (0 ≤ n ∧ n < (kn : Int)) = false := by simp [h1]
      rw [e]
      clear e h1
      go_enter Try.func25, Try.ntmps25
      go_wp2
      go_ret
      exact ⟨by first | rfl | simp, rfl⟩
  · have b0 : decide (0 ≤ n) = false := decide_eq_false h0
    have e : decide (0 ≤ n ∧ n < (kn : Int)) = false := by simp [h0]
    rw [e]
    clear e h0
    go_enter Try.func25, Try.ntmps25
    go_wp2
    go_ret
    exact ⟨by first | rfl | simp, rfl⟩

set_option maxHeartbeats 400000 in
set_option maxRecDepth 100000 in
theorem has_nil (w : World) (n : Int) : Calls Try.prog 25 #[.pointer none, .int .i64 n] w fun e w' => e = .returned (.bool false) ∧ w = w' := by
  go_enter Try.func25, Try.ntmps25
  go_wp2
  go_ret
  exact ⟨by first | rfl | simp, rfl⟩

set_option maxHeartbeats 400000 in
set_option maxRecDepth 100000 in
theorem len_walk (w : World) (g : Nat) (most : Int) (A : Option Addr) (kn kcap : Nat) (bv sv : Value) (hg : w.heap[g]? = some (.cells #[.int .i64 most, .slice A kn kcap, bv, sv] 53 (0, 0))) :
    Calls Try.prog 10 #[.pointer (some ⟨g, 0, none⟩)] w fun e w' => e = .returned (.int .i64 (kn : Int)) ∧ w = w' := by
  have c1 : w.cell? ⟨g, 1, none⟩ = some (.slice A kn kcap) := (blk_cell hg 1).trans rfl
  clear hg
  go_enter Try.func10, Try.ntmps10
  go_wp2
  go_ret
  exact ⟨by first | rfl | simp, rfl⟩

set_option maxHeartbeats 400000 in
set_option maxRecDepth 100000 in
theorem len_nil (w : World) : Calls Try.prog 10 #[.pointer none] w fun e w' => e = .returned (.int .i64 0) ∧ w = w' := by
  go_enter Try.func10, Try.ntmps10
  go_wp2
  go_ret
  exact ⟨by first | rfl | simp, rfl⟩

set_option maxHeartbeats 400000 in
set_option maxRecDepth 100000 in
theorem key_in (w : World) (g q : Nat) (most : Int) (kn kcap n : Nat) (bv sv : Value) (k : ByteArray) (hg : w.heap[g]? = some (.cells #[.int .i64 most, .slice (some ⟨q, 0, none⟩) kn kcap, bv, sv] 53 (0, 0))) (hn : n < kn) (hk : w.cell? ⟨q, n, none⟩ = some (.string k)) :
    Calls Try.prog 12 #[.pointer (some ⟨g, 0, none⟩), .int .i64 (n : Int)] w fun e w' => e = .returned (.tuple #[.string k, .int .i64 0]) ∧ w = w' := by
  have c1 : w.cell? ⟨g, 1, none⟩ = some (.slice (some ⟨q, 0, none⟩) kn kcap) := (blk_cell hg 1).trans rfl
  have hh := has_walk w g most _ kn kcap bv sv (n : Int) hg
  have e : decide (0 ≤ (n : Int) ∧ (n : Int) < kn) = true := by simp; omega
  rw [e] at hh
  have HH := Aside0.mk hh
  clear hg e hh
  go_enter Try.func12, Try.ntmps12
  go_wp2_with (go_at_call 25; refine HH.out.mono ?_; rintro e w' ⟨rfl, rfl⟩)
  go_ret2
  exact ⟨by first | rfl | simp, rfl⟩

set_option maxHeartbeats 400000 in
set_option maxRecDepth 100000 in
theorem key_out (w : World) (g : Nat) (most n : Int) (A : Option Addr) (kn kcap : Nat) (bv sv : Value) (hg : w.heap[g]? = some (.cells #[.int .i64 most, .slice A kn kcap, bv, sv] 53 (0, 0))) (hn : ¬ (0 ≤ n ∧ n < kn)) :
    Calls Try.prog 12 #[.pointer (some ⟨g, 0, none⟩), .int .i64 n] w fun e w' => e = .returned (.tuple #[.string ⟨#[]⟩, .int .i64 46]) ∧ w = w' := by
  have hh := has_walk w g most _ kn kcap bv sv n hg
  rw [decide_eq_false hn] at hh
  have HH := Aside0.mk hh
  clear hg hn hh
  go_enter Try.func12, Try.ntmps12
  go_wp2_with (go_at_call 25; refine HH.out.mono ?_; rintro e w' ⟨rfl, rfl⟩)
  go_ret2
  exact ⟨by first | rfl | simp, rfl⟩

set_option maxHeartbeats 400000 in
set_option maxRecDepth 100000 in
theorem key_nil (w : World) (n : Int) : Calls Try.prog 12 #[.pointer none, .int .i64 n] w fun e w' => e = .returned (.tuple #[.string ⟨#[]⟩, .int .i64 42]) ∧ w = w' := by
  go_enter Try.func12, Try.ntmps12
  go_wp2
  go_ret2
  exact ⟨by first | rfl | simp, rfl⟩

set_option maxHeartbeats 400000 in
set_option maxRecDepth 100000 in
theorem bits_in (w : World) (g q : Nat) (most : Int) (kn kcap bn bcap n : Nat) (A : Option Addr) (sv : Value) (k : Int) (hg : w.heap[g]? = some (.cells #[.int .i64 most, .slice A kn kcap, .slice (some ⟨q, 0, none⟩) bn bcap, sv] 53 (0, 0))) (hn : n < kn) (hnb : n < bn) (hk : w.cell? ⟨q, n, none⟩ = some (.int .u64 k)) :
    Calls Try.prog 16 #[.pointer (some ⟨g, 0, none⟩), .int .i64 (n : Int)] w fun e w' => e = .returned (.int .u64 k) ∧ w = w' := by
  have c2 : w.cell? ⟨g, 2, none⟩ = some (.slice (some ⟨q, 0, none⟩) bn bcap) := (blk_cell hg 2).trans rfl
  have hh := has_walk w g most _ kn kcap _ sv (n : Int) hg
  have e : decide (0 ≤ (n : Int) ∧ (n : Int) < kn) = true := by simp; omega
  rw [e] at hh
  have HH := Aside0.mk hh
  clear hg e hh
  go_enter Try.func16, Try.ntmps16
  go_wp2_with (go_at_call 25; refine HH.out.mono ?_; rintro e w' ⟨rfl, rfl⟩)
  go_ret
  exact ⟨by first | rfl | simp, rfl⟩

set_option maxHeartbeats 400000 in
set_option maxRecDepth 100000 in
theorem bits_out (w : World) (g : Nat) (most n : Int) (A : Option Addr) (kn kcap : Nat) (bv sv : Value) (hg : w.heap[g]? = some (.cells #[.int .i64 most, .slice A kn kcap, bv, sv] 53 (0, 0))) (hn : ¬ (0 ≤ n ∧ n < kn)) :
    Calls Try.prog 16 #[.pointer (some ⟨g, 0, none⟩), .int .i64 n] w fun e w' => e = .returned (.int .u64 0) ∧ w = w' := by
  have hh := has_walk w g most _ kn kcap bv sv n hg
  rw [decide_eq_false hn] at hh
  have HH := Aside0.mk hh
  clear hg hn hh
  go_enter Try.func16, Try.ntmps16
  go_wp2_with (go_at_call 25; refine HH.out.mono ?_; rintro e w' ⟨rfl, rfl⟩)
  go_ret
  exact ⟨by first | rfl | simp, rfl⟩

set_option maxHeartbeats 400000 in
set_option maxRecDepth 100000 in
theorem bits_nil (w : World) (n : Int) : Calls Try.prog 16 #[.pointer none, .int .i64 n] w fun e w' => e = .returned (.int .u64 0) ∧ w = w' := by
  have HH := Aside0.mk (has_nil w n)
  go_enter Try.func16, Try.ntmps16
  go_wp2_with (go_at_call 25; refine HH.out.mono ?_; rintro e w' ⟨rfl, rfl⟩)
  go_ret
  exact ⟨by first | rfl | simp, rfl⟩
end Go.Proofs.Ytihlndgnkhlphaa.St
