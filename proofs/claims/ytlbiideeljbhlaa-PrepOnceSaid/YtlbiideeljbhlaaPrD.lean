/- What tokens that use no macro are told as: done and tell. Condition: at most 8192 tokens in all. -/
import Derived.Test.YtlbiideeljbhlaaPrC
set_option linter.unusedSimpArgs false
set_option linter.unusedVariables false
namespace Go.Proofs.Ytlbiideeljbhlaa.Pr
open Go.RowKit Go.Proofs.YtlbiideeljbhlaaW.PrintWords Go.Proofs.YtlbiideeljbhlaaW.PrintLast Go.Proofs.YtlbiideeljbhlaaW.PrintMore Go.Proofs.Ytlbiideeljbhlaa.PPrepSkips

theorem store_func {P : Program} (a : Addr) (fn : Fn) (first cap : Array Value) (m : Mode) (w : World) : (store a (.func fn first cap) m).run P w = stored P w a (.func fn first cap) m := run_store P w a (.func fn first cap) m rfl

set_option maxHeartbeats 2000000 in
set_option maxRecDepth 100000 in
theorem done_plain (w : World) (gq mb : Nat) (A : Option Addr) (n c : Nat) (l : List S26) (hA : k26.C w A l.length l) (hn : n = l.length) (hc : n ≤ c) (hn2 : n ≤ 8192)
    (hk : w.cell? ⟨gq, 1, none⟩ = some (.map (some mb))) (hl : Plain w mb l) :
    Calls Try.prog 29 #[.pointer (some ⟨gq, 0, none⟩), .slice A n c] w fun e w' => ∃ O o, e = .returned (.slice O n o) ∧ k26.R 26 w' w.heap.size (fun _ => True) (.slice O n o) l ∧ Below w.heap.size w w' := by
  have hmf : ∀ (fn : Fn) (first cap : Array Value) (w : World), (Instr.makeFunc fn first cap).run Try.prog w = .ok (.func fn first cap) w := fun _ _ _ _ => rfl
  have hst := @store_func Try.prog
  have HDO : Aside0 (∀ (W : World) (gb gd : Nat), Below w.heap.size w W → W.cell? ⟨gb, 0, none⟩ = some (.pointer (some ⟨gq, 0, none⟩)) → Calls Try.prog 42 #[.slice A n c, .int .i64 0, .pointer (some ⟨gb, 0, none⟩), .pointer (some ⟨gd, 0, none⟩)] W fun e w' => ∃ O o, e = .returned (.slice O n o) ∧ k26.R 26 w' W.heap.size (fun _ => True) (.slice O n o) l ∧ Below W.heap.size W w') := ⟨fun W gb gd hb h => do_plain W gb gd gq mb 0 A n c l (Kd.C_below hA hb) hn hc hn2 h (pw_cell_below hb hk) (hl.on hb)⟩
  clear hA hl hk hn
  go_enter Try.func29, Try.ntmps29
  go_upto_region 2 with fail
  obtain ⟨g2, hg2⟩ : ∃ g2, g2 = w.heap.size := ⟨_, rfl⟩
  rw [← hg2]
  refine wp_world (fun W => Aside0 (Below w.heap.size w W ∧ W.heap[g2]? = some (.cells #[.pointer (some ⟨gq, 0, none⟩)] 35 (0, 0)) ∧ W.heap[g2 + 1]? = some (.cells #[.nilFunc] 73 (0, 0)))) ⟨below_alloc (below_alloc (Below.refl _ _) _) _, blk_alloc (by rw [hg2]; exact blk_new _ _) _, by rw [hg2]; have h := blk_new (w.alloc (.cells #[.pointer (some ⟨gq, 0, none⟩)] 35)) (.cells #[.nilFunc] 73); rwa [show (w.alloc (.cells #[.pointer (some ⟨gq, 0, none⟩)] 35)).heap.size = w.heap.size + 1 by simp] at h⟩ (fun W1 H1 => ?_)
  have HG2 := Aside0.mk hg2
  clear hg2
  have y0 := blk_frozen H1.out.2.2 0
  have z0 : W1.cell? ⟨g2 + 1, 0, none⟩ = some .nilFunc := (blk_cell H1.out.2.2 0).trans rfl
  go_upto_region 3 with fail
  refine wp_world (fun W => Aside0 (Below w.heap.size w W ∧ W.heap[g2]? = some (.cells #[.pointer (some ⟨gq, 0, none⟩)] 35 (0, 0)) ∧ W.heap[g2 + 1]? = some (.cells #[.func (.func 42) #[] #[.pointer (some ⟨g2, 0, none⟩), .pointer (some ⟨g2 + 1, 0, none⟩)]] 73 (0, 0)))) ⟨H1.out.1.setCell (by rw [← HG2.out]; exact Nat.le_succ _) _, blk_far (p := ⟨g2 + 1, 0, none⟩) H1.out.2.1 (by show g2 ≠ g2 + 1; omega) _, blk_set H1.out.2.2 0 _⟩ (fun W2 H2 => ?_)
  clear y0 z0 H1
  have z0 : W2.cell? ⟨g2 + 1, 0, none⟩ = some (.func (.func 42) #[] #[.pointer (some ⟨g2, 0, none⟩), .pointer (some ⟨g2 + 1, 0, none⟩)]) := (blk_cell H2.out.2.2 0).trans rfl
  clear hmf hst
  have HD := Aside0.mk (HDO.out W2 g2 (g2 + 1) H2.out.1 ((blk_cell H2.out.2.1 0).trans rfl))
  go_wp2_with (go_at_call 42; refine HD.out.mono ?_; rintro e w3 ⟨O, o, rfl, hR, hB⟩; have H3 := Aside0.mk (And.intro hR hB); clear hR hB)
  go_ret
  exact ⟨O, o, rfl, Kd.R_lower H3.out.1 H2.out.1.size, below_then H2.out.1 H2.out.1.size H3.out.2⟩
end Go.Proofs.Ytlbiideeljbhlaa.Pr
