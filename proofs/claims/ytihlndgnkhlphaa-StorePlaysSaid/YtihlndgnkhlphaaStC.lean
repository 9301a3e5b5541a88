/- How a store's bits are set and taken away: the walks of Mark and Clear. Condition: at most a million texts. -/
import Derived.Test.YtihlndgnkhlphaaStF
import Derived.Deep.RegionWith
namespace Go.Proofs.Ytihlndgnkhlphaa.St
open Go.RowKit Go.Proofs.YtihlndgnkhlphaaW.PrintWords Go.Proofs.YtihlndgnkhlphaaW.PrintLast Go.Proofs.YtihlndgnkhlphaaW.PrintMore Go.Proofs.Ytihlndgnkhlphaa.PStorePlays
open Go.Proofs.Ytihlndgnkhlphaa.Sm

set_option maxHeartbeats 400000 in
theorem mark1 (w : World) (bx : Addr) (x y : Int) (h : w.cell? bx = some (.int .u64 y)) :
    Calls Try.prog 27 #[.int .u64 x, .pointer (some bx)] w fun e w' => e = .returned (.int .u64 (Go.bits .or .u64 x y)) ∧ w' = w := by
  go_enter Try.func27, Try.ntmps27
  go_wp2
  go_ret
  exact ⟨by first | rfl | simp, rfl⟩

set_option maxHeartbeats 800000 in
set_option maxRecDepth 100000 in
theorem mark_change (w : World) (g q gx : Nat) (most : Int) (kn kcap bn bcap n : Nat) (A : Option Addr) (sv : Value) (x y : Int) (hg : w.heap[g]? = some (.cells #[.int .i64 most, .slice A kn kcap, .slice (some ⟨q, 0, none⟩) bn bcap, sv] 53 (0, 0))) (hn : n < kn) (hnb : n < bn)
    (hx : w.cell? ⟨q, n, none⟩ = some (.int .u64 x)) (hf : w.frozen? ⟨q, n, none⟩ = false) (hy : w.cell? ⟨gx, 0, none⟩ = some (.int .u64 y)) :
    Calls Try.prog 26 #[.pointer (some ⟨g, 0, none⟩), .int .i64 (n : Int), .func (.func 27) #[] #[.pointer (some ⟨gx, 0, none⟩)]] w fun e w' => e = .returned (.int .i64 0) ∧ ∃ m, w' = (w.setCell ⟨q, n, none⟩ (.int .u64 (Go.bits .or .u64 x y))).drewN m := by
  have c2 : w.cell? ⟨g, 2, none⟩ = some (.slice (some ⟨q, 0, none⟩) bn bcap) := (blk_cell hg 2).trans rfl
  have hh := has_walk w g most _ kn kcap _ sv (n : Int) hg
  have e : decide (0 ≤ (n : Int) ∧ (n : Int) < kn) = true := by simp; omega
  rw [e] at hh
  have HH := Aside0.mk hh
  clear hg e hh
  go_enter Try.func26, Try.ntmps26
  go_wp2_with (go_at_call 25; refine HH.out.mono ?_; rintro e w' ⟨rfl, rfl⟩)
  go_region_with ((go_at_call 27; refine (mark1 _ _ _ _ (by assumption)).mono ?_; rintro e w' ⟨rfl, rfl⟩))
  all_goals
    go_wp2
    go_ret
    exact ⟨rfl, 1, rfl⟩

set_option maxHeartbeats 400000 in
set_option maxRecDepth 100000 in
theorem mark_change_out (w : World) (g : Nat) (most n : Int) (kn kcap : Nat) (A : Option Addr) (bv sv : Value) (f : Value) (hg : w.heap[g]? = some (.cells #[.int .i64 most, .slice A kn kcap, bv, sv] 53 (0, 0))) (hn : ¬ (0 ≤ n ∧ n < kn)) :
    Calls Try.prog 26 #[.pointer (some ⟨g, 0, none⟩), .int .i64 n, f] w fun e w' => e = .returned (.int .i64 46) ∧ w' = w := by
  have hh := has_walk w g most A kn kcap bv sv n hg
  rw [decide_eq_false hn] at hh
  have HH := Aside0.mk hh
  clear hg hn hh
  go_enter Try.func26, Try.ntmps26
  go_wp2_with (go_at_call 25; refine HH.out.mono ?_; rintro e w' ⟨rfl, rfl⟩)
  go_ret
  exact ⟨rfl, rfl⟩

set_option maxHeartbeats 400000 in
set_option maxRecDepth 100000 in
theorem mark_change_nil (w : World) (n : Int) (f : Value) :
    Calls Try.prog 26 #[.pointer none, .int .i64 n, f] w fun e w' => e = .returned (.int .i64 42) ∧ w' = w := by
  go_enter Try.func26, Try.ntmps26
  go_wp2
  go_ret
  exact ⟨rfl, rfl⟩

set_option maxHeartbeats 400000 in
set_option maxRecDepth 100000 in
theorem mark_out (w : World) (g : Nat) (most n y : Int) (kn kcap : Nat) (A : Option Addr) (bv sv : Value) (hg : w.heap[g]? = some (.cells #[.int .i64 most, .slice A kn kcap, bv, sv] 53 (0, 0))) (hn : ¬ (0 ≤ n ∧ n < kn)) :
    Calls Try.prog 14 #[.pointer (some ⟨g, 0, none⟩), .int .i64 n, .int .u64 y] w fun e w' => e = .returned (.int .i64 46) ∧ w' = w.alloc (.cells #[.int .u64 y] 34) := by
  have hg' : (w.alloc (.cells #[.int .u64 y] 34)).heap[g]? = some (.cells #[.int .i64 most, .slice A kn kcap, bv, sv] 53 (0, 0)) := blk_alloc hg _
  have HH := Aside0.mk (fun f => mark_change_out _ g most n kn kcap A bv sv f hg' hn)
  clear hg hg' hn
  go_enter Try.func14, Try.ntmps14
  go_wp2_with (go_at_call 26; refine (HH.out _).mono ?_; rintro e w' ⟨rfl, rfl⟩)
  go_ret
  exact ⟨rfl, rfl⟩

set_option maxHeartbeats 400000 in
set_option maxRecDepth 100000 in
theorem mark_nil (w : World) (n y : Int) :
    Calls Try.prog 14 #[.pointer none, .int .i64 n, .int .u64 y] w fun e w' => e = .returned (.int .i64 42) ∧ w' = w.alloc (.cells #[.int .u64 y] 34) := by
  go_enter Try.func14, Try.ntmps14
  go_wp2_with (go_at_call 26; refine (mark_change_nil _ _ _).mono ?_; rintro e w' ⟨rfl, rfl⟩)
  go_ret
  exact ⟨rfl, rfl⟩

set_option maxHeartbeats 400000 in
set_option maxRecDepth 100000 in
theorem mark_in (w : World) (g q : Nat) (most : Int) (kn kcap bn bcap n : Nat) (A : Option Addr) (sv : Value) (x y : Int) (hg : w.heap[g]? = some (.cells #[.int .i64 most, .slice A kn kcap, .slice (some ⟨q, 0, none⟩) bn bcap, sv] 53 (0, 0))) (hn : n < kn) (hnb : n < bn)
    (hx : w.cell? ⟨q, n, none⟩ = some (.int .u64 x)) (hf : w.frozen? ⟨q, n, none⟩ = false) (hq : q < w.heap.size) :
    Calls Try.prog 14 #[.pointer (some ⟨g, 0, none⟩), .int .i64 (n : Int), .int .u64 y] w fun e w' => e = .returned (.int .i64 0) ∧ ∃ m, w' = ((w.setCell ⟨q, n, none⟩ (.int .u64 (Go.bits .or .u64 x y))).alloc (.cells #[.int .u64 y] 34)).drewN m := by
  have hb : Below w.heap.size w (w.alloc (.cells #[.int .u64 y] 34)) := below_alloc (Below.refl _ _) _
  have hg' : (w.alloc (.cells #[.int .u64 y] 34)).heap[g]? = some (.cells #[.int .i64 most, .slice A kn kcap, .slice (some ⟨q, 0, none⟩) bn bcap, sv] 53 (0, 0)) := blk_alloc hg _
  have hx' : (w.alloc (.cells #[.int .u64 y] 34)).cell? ⟨q, n, none⟩ = some (.int .u64 x) := (hb.cell (p := ⟨q, n, none⟩) hq).trans hx
  have hf' : (w.alloc (.cells #[.int .u64 y] 34)).frozen? ⟨q, n, none⟩ = false := (hb.frozen (p := ⟨q, n, none⟩) hq).trans hf
  have hy' : (w.alloc (.cells #[.int .u64 y] 34)).cell? ⟨w.heap.size, 0, none⟩ = some (.int .u64 y) := by go_simp
  have HH := Aside0.mk (mark_change _ g q w.heap.size most kn kcap bn bcap n A sv x y hg' hn hnb hx' hf' hy')
  clear hg hg' hx hx' hf hf' hy' hb
  go_enter Try.func14, Try.ntmps14
  go_wp2_with (go_at_call 26; refine HH.out.mono ?_; rintro e w' ⟨rfl, ⟨m, rfl⟩⟩)
  go_ret
  exact ⟨rfl, m, rfl⟩

set_option maxHeartbeats 400000 in
theorem clear1 (w : World) (bx : Addr) (x y : Int) (h : w.cell? bx = some (.int .u64 y)) :
    Calls Try.prog 28 #[.int .u64 x, .pointer (some bx)] w fun e w' => e = .returned (.int .u64 (Go.bits .andNot .u64 x y)) ∧ w' = w := by
  go_enter Try.func28, Try.ntmps28
  go_wp2
  go_ret
  exact ⟨by first | rfl | simp, rfl⟩

set_option maxHeartbeats 800000 in
set_option maxRecDepth 100000 in
theorem clear_change (w : World) (g q gx : Nat) (most : Int) (kn kcap bn bcap n : Nat) (A : Option Addr) (sv : Value) (x y : Int) (hg : w.heap[g]? = some (.cells #[.int .i64 most, .slice A kn kcap, .slice (some ⟨q, 0, none⟩) bn bcap, sv] 53 (0, 0))) (hn : n < kn) (hnb : n < bn)
    (hx : w.cell? ⟨q, n, none⟩ = some (.int .u64 x)) (hf : w.frozen? ⟨q, n, none⟩ = false) (hy : w.cell? ⟨gx, 0, none⟩ = some (.int .u64 y)) :
    Calls Try.prog 26 #[.pointer (some ⟨g, 0, none⟩), .int .i64 (n : Int), .func (.func 28) #[] #[.pointer (some ⟨gx, 0, none⟩)]] w fun e w' => e = .returned (.int .i64 0) ∧ ∃ m, w' = (w.setCell ⟨q, n, none⟩ (.int .u64 (Go.bits .andNot .u64 x y))).drewN m := by
  have c2 : w.cell? ⟨g, 2, none⟩ = some (.slice (some ⟨q, 0, none⟩) bn bcap) := (blk_cell hg 2).trans rfl
  have hh := has_walk w g most _ kn kcap _ sv (n : Int) hg
  have e : decide (0 ≤ (n : Int) ∧ (n : Int) < kn) = true := by simp; omega
  rw [e] at hh
  have HH := Aside0.mk hh
  clear hg e hh
  go_enter Try.func26, Try.ntmps26
  go_wp2_with (go_at_call 25; refine HH.out.mono ?_; rintro e w' ⟨rfl, rfl⟩)
  go_region_with ((go_at_call 28; refine (clear1 _ _ _ _ (by assumption)).mono ?_; rintro e w' ⟨rfl, rfl⟩))
  all_goals
    go_wp2
    go_ret
    exact ⟨rfl, 1, rfl⟩

set_option maxHeartbeats 400000 in
set_option maxRecDepth 100000 in
theorem clear_change_out (w : World) (g : Nat) (most n : Int) (kn kcap : Nat) (A : Option Addr) (bv sv : Value) (f : Value) (hg : w.heap[g]? = some (.cells #[.int .i64 most, .slice A kn kcap, bv, sv] 53 (0, 0))) (hn : ¬ (0 ≤ n ∧ n < kn)) :
    Calls Try.prog 26 #[.pointer (some ⟨g, 0, none⟩), .int .i64 n, f] w fun e w' => e = .returned (.int .i64 46) ∧ w' = w := by
  have hh := has_walk w g most A kn kcap bv sv n hg
  rw [decide_eq_false hn] at hh
  have HH := Aside0.mk hh
  clear hg hn hh
  go_enter Try.func26, Try.ntmps26
  go_wp2_with (go_at_call 25; refine HH.out.mono ?_; rintro e w' ⟨rfl, rfl⟩)
  go_ret
  exact ⟨rfl, rfl⟩

set_option maxHeartbeats 400000 in
set_option maxRecDepth 100000 in
theorem clear_change_nil (w : World) (n : Int) (f : Value) :
    Calls Try.prog 26 #[.pointer none, .int .i64 n, f] w fun e w' => e = .returned (.int .i64 42) ∧ w' = w := by
  go_enter Try.func26, Try.ntmps26
  go_wp2
  go_ret
  exact ⟨rfl, rfl⟩

set_option maxHeartbeats 400000 in
set_option maxRecDepth 100000 in
theorem clear_out (w : World) (g : Nat) (most n y : Int) (kn kcap : Nat) (A : Option Addr) (bv sv : Value) (hg : w.heap[g]? = some (.cells #[.int .i64 most, .slice A kn kcap, bv, sv] 53 (0, 0))) (hn : ¬ (0 ≤ n ∧ n < kn)) :
    Calls Try.prog 15 #[.pointer (some ⟨g, 0, none⟩), .int .i64 n, .int .u64 y] w fun e w' => e = .returned (.int .i64 46) ∧ w' = w.alloc (.cells #[.int .u64 y] 34) := by
  have hg' : (w.alloc (.cells #[.int .u64 y] 34)).heap[g]? = some (.cells #[.int .i64 most, .slice A kn kcap, bv, sv] 53 (0, 0)) := blk_alloc hg _
  have HH := Aside0.mk (fun f => clear_change_out _ g most n kn kcap A bv sv f hg' hn)
  clear hg hg' hn
  go_enter Try.func15, Try.ntmps15
  go_wp2_with (go_at_call 26; refine (HH.out _).mono ?_; rintro e w' ⟨rfl, rfl⟩)
  go_ret
  exact ⟨rfl, rfl⟩

set_option maxHeartbeats 400000 in
set_option maxRecDepth 100000 in
theorem clear_nil (w : World) (n y : Int) :
    Calls Try.prog 15 #[.pointer none, .int .i64 n, .int .u64 y] w fun e w' => e = .returned (.int .i64 42) ∧ w' = w.alloc (.cells #[.int .u64 y] 34) := by
  go_enter Try.func15, Try.ntmps15
  go_wp2_with (go_at_call 26; refine (clear_change_nil _ _ _).mono ?_; rintro e w' ⟨rfl, rfl⟩)
  go_ret
  exact ⟨rfl, rfl⟩

set_option maxHeartbeats 400000 in
set_option maxRecDepth 100000 in
theorem clear_in (w : World) (g q : Nat) (most : Int) (kn kcap bn bcap n : Nat) (A : Option Addr) (sv : Value) (x y : Int) (hg : w.heap[g]? = some (.cells #[.int .i64 most, .slice A kn kcap, .slice (some ⟨q, 0, none⟩) bn bcap, sv] 53 (0, 0))) (hn : n < kn) (hnb : n < bn)
    (hx : w.cell? ⟨q, n, none⟩ = some (.int .u64 x)) (hf : w.frozen? ⟨q, n, none⟩ = false) (hq : q < w.heap.size) :
    Calls Try.prog 15 #[.pointer (some ⟨g, 0, none⟩), .int .i64 (n : Int), .int .u64 y] w fun e w' => e = .returned (.int .i64 0) ∧ ∃ m, w' = ((w.setCell ⟨q, n, none⟩ (.int .u64 (Go.bits .andNot .u64 x y))).alloc (.cells #[.int .u64 y] 34)).drewN m := by
  have hb : Below w.heap.size w (w.alloc (.cells #[.int .u64 y] 34)) := below_alloc (Below.refl _ _) _
  have hg' : (w.alloc (.cells #[.int .u64 y] 34)).heap[g]? = some (.cells #[.int .i64 most, .slice A kn kcap, .slice (some ⟨q, 0, none⟩) bn bcap, sv] 53 (0, 0)) := blk_alloc hg _
  have hx' : (w.alloc (.cells #[.int .u64 y] 34)).cell? ⟨q, n, none⟩ = some (.int .u64 x) := (hb.cell (p := ⟨q, n, none⟩) hq).trans hx
  have hf' : (w.alloc (.cells #[.int .u64 y] 34)).frozen? ⟨q, n, none⟩ = false := (hb.frozen (p := ⟨q, n, none⟩) hq).trans hf
  have hy' : (w.alloc (.cells #[.int .u64 y] 34)).cell? ⟨w.heap.size, 0, none⟩ = some (.int .u64 y) := by go_simp
  have HH := Aside0.mk (clear_change _ g q w.heap.size most kn kcap bn bcap n A sv x y hg' hn hnb hx' hf' hy')
  clear hg hg' hx hx' hf hf' hy' hb
  go_enter Try.func15, Try.ntmps15
  go_wp2_with (go_at_call 26; refine HH.out.mono ?_; rintro e w' ⟨rfl, ⟨m, rfl⟩⟩)
  go_ret
  exact ⟨rfl, m, rfl⟩

end Go.Proofs.Ytihlndgnkhlphaa.St
