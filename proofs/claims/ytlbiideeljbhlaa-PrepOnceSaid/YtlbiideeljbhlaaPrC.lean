/- What comes of tokens that use no macro: the closure inside done. Condition: at most 8192 tokens. -/
import Derived.Test.YtlbiideeljbhlaaPrB
set_option linter.unusedSimpArgs false
set_option linter.unusedVariables false
namespace Go.Proofs.Ytlbiideeljbhlaa.Pr
open Go.RowKit Go.Proofs.YtlbiideeljbhlaaW.PrintWords Go.Proofs.YtlbiideeljbhlaaW.PrintLast Go.Proofs.YtlbiideeljbhlaaW.PrintMore Go.Proofs.Ytlbiideeljbhlaa.PPrepSkips

/-- How a map answers at a text: what it holds there, and whether it does. -/
structure Looks (w : World) (mb : Nat) (s : ByteArray) (m0 : Bool) (Ap Ab : Option Addr) (np cp nb cb : Nat) (is : Bool) : Prop where
  run : ∀ W, Below w.heap.size w W → (Instr.lookup 38 (.map (some mb)) (.string s) true).run Try.prog W = .ok (.tuple #[.agg #[.bool m0, .slice Ap np cp, .slice Ab nb cb], .bool is]) W

/-- No token of a row is a macro's name. -/
def Plain (w : World) (mb : Nat) (l : List S26) : Prop := ∀ x, x ∈ l → ∃ m0 Ap Ab np cp nb cb is, Looks w mb x.f3 m0 Ap Ab np cp nb cb is ∧ (x.f0 = 1 → is = false)
theorem Plain.on {w W : World} {mb : Nat} {l : List S26} (h : Plain w mb l) (hb : Below w.heap.size w W) : Plain W mb l := fun x hx => by
  obtain ⟨m0, Ap, Ab, np, cp, nb, cb, is, hl, hi⟩ := h x hx
  exact ⟨m0, Ap, Ab, np, cp, nb, cb, is, ⟨fun W' hb' => hl.run W' (below_then hb hb.size hb')⟩, hi⟩

set_option maxHeartbeats 4000000 in
set_option maxRecDepth 100000 in
theorem do_plain (w : World) (gb gd gq mb : Nat) (deep : Int) (A : Option Addr) (n c : Nat) (l : List S26) (hA : k26.C w A l.length l) (hn : n = l.length) (hc : n ≤ c) (hn2 : n ≤ 8192)
    (hb : w.cell? ⟨gb, 0, none⟩ = some (.pointer (some ⟨gq, 0, none⟩))) (hk : w.cell? ⟨gq, 1, none⟩ = some (.map (some mb))) (hl : Plain w mb l) :
    Calls Try.prog 42 #[.slice A n c, .int .i64 deep, .pointer (some ⟨gb, 0, none⟩), .pointer (some ⟨gd, 0, none⟩)] w fun e w' => ∃ O o, e = .returned (.slice O n o) ∧ k26.R 26 w' w.heap.size (fun _ => True) (.slice O n o) l ∧ Below w.heap.size w w' := by
  obtain ⟨pb, po, HP⟩ := tok_cells hA
  have HP := Aside0.mk HP
  have HN := Aside0.mk hn
  have HL := Aside0.mk hl
  have HBK := Aside0.mk (And.intro hb hk)
  clear hA hl hb hk
  have hA0 : A = A := rfl
  have HA0 : Aside0 (0 < n → A = some ⟨pb, po + 0 * 5, none⟩) := ⟨fun h => by have := (HP.out 0 (by rw [← HN.out]; exact h)).1; rw [this]; simp⟩
  clear hA0 hn
  go_enter Try.func42, Try.ntmps42
  go_wp2
  go_loopg [0, 7] n (fun gg s0 s7 wz => ∃ (i r c' : Nat) (A' O : Option Addr) (o : Nat), i + r = n ∧ r ≤ gg ∧ r ≤ c' ∧ s0 = .slice A' r c' ∧ s7 = .slice O i o ∧ Aside0 ((0 < r → A' = some ⟨pb, po + i * 5, none⟩) ∧ Below w.heap.size w wz ∧ k26.R 26 wz w.heap.size (fun _ => True) (.slice O i o) (l.take i)))
  case atStart => exact ⟨0, n, c, A, none, 0, Nat.zero_add _, Nat.le_refl _, hc, rfl, rfl, ⟨HA0.out, Below.refl _ _, Kd.R_nil _ _ _ _ _⟩⟩
  case round =>
    obtain ⟨i, r, c', A', O, o, hir, hg, hrc, rfl, rfl, HW⟩ := hrel
    by_cases hr : 0 < r
    · have d0 : ((r : Int) > (0 : Int)) = True := eq_true (by omega)
      have d0' : ((0 : Int) < (r : Int)) = True := eq_true (by omega)
      have hil : i < l.length := by have := HN.out; omega
      obtain rfl := HW.out.1 hr
      obtain ⟨_, q0, q1, q2, q3, q4⟩ := HP.out i hil
      obtain ⟨m0, Ap, Ab, np, cp, nb, cb, is, hlook, his⟩ := HL.out _ (List.getElem_mem hil)
      have HTK := Aside0.mk (show l.take (i + 1) = l.take i ++ [l[i]] by rw [List.take_add_one, List.getElem?_eq_getElem hil]; rfl)
      have p0 := pw_cell_below HW.out.2.1 q0
      have p1 := pw_cell_below HW.out.2.1 q1
      have p2 := pw_cell_below HW.out.2.1 q2
      have p3 := pw_cell_below HW.out.2.1 q3
      have p4 := pw_cell_below HW.out.2.1 q4
      generalize l[i] = x at p0 p1 p2 p3 p4 hlook his HTK
      have HLK := Aside0.mk hlook
      clear q0 q1 q2 q3 q4 hil hlook
      go_upto_region 4 with fail
      obtain ⟨g8, hg8⟩ : ∃ g8, g8 = wr.heap.size := ⟨_, rfl⟩
      rw [← hg8]
      have HG8 := Aside0.mk hg8
      refine wp_world (fun W => Aside0 (Below wr.heap.size wr W ∧ W.heap[g8]? = some (.cells (tokC x) 26 (0, 0)))) ⟨below_alloc (Below.refl _ _) _, by rw [hg8]; exact blk_new _ _⟩ (fun W1 H1 => ?_)
      clear hg8 p0 p1 p2 p3 p4
      go_upto_region 5 with fail
      obtain ⟨A2, hA2⟩ : ∃ A2, A2 = (if c' = 1 then some (⟨pb, po + i * 5, none⟩ : Addr) else some ⟨pb, po + i * 5 + 5, none⟩) := ⟨_, rfl⟩
      rw [← hA2]
      have HA2 : Aside0 (0 < r - 1 → A2 = some ⟨pb, po + (i + 1) * 5, none⟩) := ⟨fun h => by rw [hA2, if_neg (by omega)]; congr 2; omega⟩
      clear hA2
      have HBW := Aside0.mk (below_then HW.out.2.1 HW.out.2.1.size H1.out.1)
      have SB := Aside0.mk (fun (W : World) (hb : Below W1.heap.size W1 W) => (⟨pw_cell_below (below_then HBW.out HBW.out.size hb) HBK.out.1, pw_cell_below (below_then HBW.out HBW.out.size hb) HBK.out.2, (pw_cell_below hb ((blk_cell H1.out.2 3).trans rfl)), HLK.out.run W (below_then HBW.out HBW.out.size hb)⟩ : (W.cell? ⟨gb, 0, none⟩ = some (.pointer (some ⟨gq, 0, none⟩)) ∧ W.cell? ⟨gq, 1, none⟩ = some (.map (some mb)) ∧ W.cell? ⟨g8, 3, none⟩ = some (.string x.f3) ∧ (Instr.lookup 38 (.map (some mb)) (.string x.f3) true).run Try.prog W = .ok (.tuple #[.agg #[.bool m0, .slice Ap np cp, .slice Ab nb cb], .bool is]) W)))
      obtain ⟨g9, hg9⟩ : ∃ g9, g9 = W1.heap.size := ⟨_, rfl⟩
      go_region_held3 (fun W => (W.cell? ⟨gb, 0, none⟩ = some (.pointer (some ⟨gq, 0, none⟩)) ∧ W.cell? ⟨gq, 1, none⟩ = some (.map (some mb)) ∧ W.cell? ⟨g8, 3, none⟩ = some (.string x.f3) ∧ (Instr.lookup 38 (.map (some mb)) (.string x.f3) true).run Try.prog W = .ok (.tuple #[.agg #[.bool m0, .slice Ap np cp, .slice Ab nb cb], .bool is]) W))
        ((refine SB.out _ ?_; (repeat (first | with_reducible exact Below.refl _ _ | with_reducible apply below_drew | with_reducible apply below_alloc))))
        (fail)
      all_goals (
        obtain ⟨W2, hW2⟩ : ∃ W2, W2 = (W1.alloc (.cells #[.bool m0, .slice Ap np cp, .slice Ab nb cb] 62)).drew := ⟨_, rfl⟩
        rw [← hg9, ← hW2]
        have hB2 : Below W1.heap.size W1 W2 := by rw [hW2]; exact below_drew (below_alloc (Below.refl _ _) _)
        have H2 := Aside0.mk (And.intro (below_then HBW.out HBW.out.size hB2) (blk_below H1.out.2 hB2))
        have H9 : Aside0 (W2.heap[g9]? = some (.cells #[.bool m0, .slice Ap np cp, .slice Ab nb cb] 62 (0, 0))) := ⟨by rw [hW2, hg9]; exact blk_new _ _⟩
        have HRI := Aside0.mk (Kd.R_below HW.out.2.2 (below_then H1.out.1 H1.out.1.size hB2))
        have HSZ := Aside0.mk (Nat.le_trans HW.out.2.1.size (below_then H1.out.1 H1.out.1.size hB2).size)
        clear hW2 hB2 SB hg9
        have c0 : W2.cell? ⟨g8, 0, none⟩ = some (.int .i64 x.f0) := (blk_cell H2.out.2 0).trans rfl
        have c1 : W2.cell? ⟨g8, 1, none⟩ = some (.int .i64 x.f1) := (blk_cell H2.out.2 1).trans rfl
        have c2 : W2.cell? ⟨g8, 2, none⟩ = some (.int .i64 x.f2) := (blk_cell H2.out.2 2).trans rfl
        have c3 : W2.cell? ⟨g8, 3, none⟩ = some (.string x.f3) := (blk_cell H2.out.2 3).trans rfl
        have c4 : W2.cell? ⟨g8, 4, none⟩ = some (.int .i64 x.f4) := (blk_cell H2.out.2 4).trans rfl
        have c9 : W2.cell? ⟨g9, 0, none⟩ = some (.bool m0) := (blk_cell H9.out 0).trans rfl
        have HLI := Aside0.mk (show (l.take i).length = i by rw [List.length_take]; have := HN.out; omega)
        have d5 : (((i + 1 : Nat) : Int) > (8192 : Int)) = False := eq_false (by omega)
        have d6 : (((i : Int) + 1) > (8192 : Int)) = False := eq_false (by omega)
        have d7 : ((8192 : Int) < ((i + 1 : Nat) : Int)) = False := eq_false (by omega)
        have d8 : ((8192 : Int) < ((i : Int) + 1)) = False := eq_false (by omega)
        have hfin : ∀ (O1 : Option Addr) (o1 : Nat) (w7 : World), k26.R 26 w7 w.heap.size (fun _ => True) (.slice O1 (i + 1) o1) (l.take i ++ [x]) → Below w.heap.size w w7 → Aside0 ((0 < r - 1 → A2 = some ⟨pb, po + (i + 1) * 5, none⟩) ∧ Below w.heap.size w w7 ∧ k26.R 26 w7 w.heap.size (fun _ => True) (.slice O1 (i + 1) o1) (l.take (i + 1))) := fun O1 o1 w7 h1 h2 => ⟨⟨HA2.out, h2, by rw [HTK.out]; exact h1⟩⟩
        have HFIN := Aside0.mk hfin
        clear hfin
        by_cases h1 : x.f0 = 1
        · have e1 : (x.f0 != (1 : Int)) = false := by rw [h1]; rfl
          obtain rfl : is = false := his h1
          clear his h1
          go_wp2_with (at_builtin; refine Kd.R_append k26 (w0 := w) (W := W2) w.heap.size rfl (.tmp 55) (.tmp 57) 22 26 (.agg #[(.int .i64 0), (.int .i64 0), (.int .i64 0), (.string ⟨#[]⟩), (.int .i64 0)]) 48 rfl Try.underlying22 info26 rfl k26_sz (by decide) (.slice O i o) (l.take i) x [.int .i64 x.f0, .int .i64 x.f1, .int .i64 x.f2, .string x.f3, .int .i64 x.f4] (fun _ => True) (fun _ => False) rfl rfl (k26_mkM _ _ _ x) (fun k hk => hk.elim) (fun _ _ => trivial) HRI.out H2.out.1 HSZ.out (by rw [HLI.out]; omega) ?_; intro v1 w7 hR7 hB7 _ _; obtain ⟨A7, c7, e⟩ := Kd.R_slice hR7; rw [List.length_append, HLI.out, List.length_singleton] at e; subst e; have HR7 := Aside0.mk (And.intro hR7 hB7); clear hR7 hB7)
          go_roundg (r - 1)
          case measure => omega
          case rel => exact ⟨i + 1, r - 1, c' - 1, _, A7, c7, by omega, by omega, by omega, rfl, rfl, HFIN.out _ _ _ HR7.out.1 HR7.out.2⟩
        · have e1 : (x.f0 != (1 : Int)) = true := by simpa using h1
          clear his h1
          go_wp2_with (at_builtin; refine Kd.R_append k26 (w0 := w) (W := W2) w.heap.size rfl (.tmp 55) (.tmp 57) 22 26 (.agg #[(.int .i64 0), (.int .i64 0), (.int .i64 0), (.string ⟨#[]⟩), (.int .i64 0)]) 48 rfl Try.underlying22 info26 rfl k26_sz (by decide) (.slice O i o) (l.take i) x [.int .i64 x.f0, .int .i64 x.f1, .int .i64 x.f2, .string x.f3, .int .i64 x.f4] (fun _ => True) (fun _ => False) rfl rfl (k26_mkM _ _ _ x) (fun k hk => hk.elim) (fun _ _ => trivial) HRI.out H2.out.1 HSZ.out (by rw [HLI.out]; omega) ?_; intro v1 w7 hR7 hB7 _ _; obtain ⟨A7, c7, e⟩ := Kd.R_slice hR7; rw [List.length_append, HLI.out, List.length_singleton] at e; subst e; have HR7 := Aside0.mk (And.intro hR7 hB7); clear hR7 hB7)
          go_roundg (r - 1)
          case measure => omega
          case rel => exact ⟨i + 1, r - 1, c' - 1, _, A7, c7, by omega, by omega, by omega, rfl, rfl, HFIN.out _ _ _ HR7.out.1 HR7.out.2⟩)
    · have d0 : ((r : Int) > (0 : Int)) = False := eq_false (by omega)
      have d0' : ((0 : Int) < (r : Int)) = False := eq_false (by omega)
      have hR := HW.out.2.2
      obtain rfl : i = n := by omega
      rw [show l.take i = l from List.take_of_length_le (by have := HN.out; omega)] at hR
      have HRF := Aside0.mk hR
      clear hR
      go_wp2
      go_ret
      exact ⟨O, o, rfl, HRF.out, HW.out.2.1⟩
end Go.Proofs.Ytlbiideeljbhlaa.Pr
