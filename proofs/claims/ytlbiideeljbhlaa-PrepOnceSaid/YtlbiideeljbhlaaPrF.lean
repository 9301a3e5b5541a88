/- What becomes of a row without directives and macros: the closure inside Macros. Condition: at most 8192 tokens. -/
import Derived.Test.YtlbiideeljbhlaaPrE
set_option linter.unusedSimpArgs false
set_option linter.unusedVariables false
namespace Go.Proofs.Ytlbiideeljbhlaa.Pr
open Go.RowKit Go.BigFrame Go.Proofs.YtlbiideeljbhlaaW.PrintWords Go.Proofs.YtlbiideeljbhlaaW.PrintLast Go.Proofs.YtlbiideeljbhlaaW.PrintMore Go.Proofs.Ytlbiideeljbhlaa.PPrepSkips

theorem wp_region_quietC {P : Program} {id : Nat} {Q : Exit → Act → World → Prop} {a : Act} {w : World} {l : List Oper} (C : World → Prop) (hm : P.follows .mixedOrders = true) (hB : Region.lexB .any l.toArray = true) (hC : C w.drew) (h : wpQuiet P l.toArray C (fun a' => ∀ w', C w' → Q .normal a' w') l a) : (Code.region id l.toArray true).wp P Q a w := wp_region_quiet (C := C) hm hB hC (by simpa using h)

theorem Told.trans {gq : Nat} {row : Option Nat} {W W1 W2 : World} (h : Told gq row W W1) (h2 : Told gq row W1 W2) : Told gq row W W2 := ⟨Nat.le_trans h.size h2.size, fun k h0 h1 hr => (h2.block k (Nat.lt_of_lt_of_le h0 h.size) h1 hr).trans (h.block k h0 h1 hr)⟩

theorem tell_plain (w : World) (base gq mb : Nat) (inl : Bool) (opn : Value) (uses : Int) (O A : Option Addr) (m o n c : Nat) (outs l : List S26) (hA : k26.C w A l.length l) (hn : n = l.length) (hc : n ≤ c) (hm : m = outs.length) (hmk : m + n ≤ 8192) (hbq : base ≤ gq) (hl : Plain w mb l)
    (hq : w.heap[gq]? = some (.cells (wkC inl mb opn uses (.slice O m o)) 41 (0, 0))) (hO : k26.R 26 w base (fun _ => True) (.slice O m o) outs) :
    Calls Try.prog 17 #[.pointer (some ⟨gq, 0, none⟩), .slice A n c] w fun e w' => e = .returned (.tuple #[]) ∧ ∃ O' o', w'.heap[gq]? = some (.cells (wkC inl mb opn uses (.slice O' (m + n) o')) 41 (0, 0)) ∧ k26.R 26 w' base (fun _ => True) (.slice O' (m + n) o') (outs ++ l) ∧ Below base w w' ∧ Told gq (Value.slice O m o).ownBlock w w' := by
  have hgq := blk_lt hq
  refine tell_walk w base gq mb inl opn uses uses O A m o n c outs l n hn hm hmk hbq hgq ?_
  refine (done_plain w gq mb A n c l hA hn hc (by omega) ((blk_cell hq 1).trans rfl) hl).mono ?_
  rintro e w' ⟨D, d, rfl, hR, hB⟩
  exact ⟨D, d, rfl, hR, blk_below hq hB, Kd.R_mono (Kd.R_below (Kd.R_bound hO) hB) (fun k hk => hk.2.2.1), below_then (Below.refl base w) (by omega) hB, (Told.refl _ _ _).below hB⟩

set_option maxHeartbeats 4000000 in
set_option maxRecDepth 100000 in
theorem macros_plain (w : World) (base gq mb : Nat) (inl : Bool) (uses : Int) (A : Option Addr) (n c : Nat) (l : List S26) (en : S26) (hA : k26.C w A l.length l) (hn : n = l.length) (hn2 : n ≤ 8192) (hbq : base ≤ gq) (hl : Plain w mb l) (hmk : ∀ x, x ∈ l → isT 4 x ⟨#[35]⟩ = false)
    (hq : w.heap[gq]? = some (.cells (wkC inl mb (.slice none 0 0) uses (.slice none 0 0)) 41 (0, 0))) :
    Calls Try.prog 14 #[.pointer (some ⟨gq, 0, none⟩), .slice A n c, tokV en] w fun e w' => e = .returned (.tuple #[]) ∧ ∃ O o, w'.heap[gq]? = some (.cells (wkC inl mb (.slice none 0 0) uses (.slice O n o)) 41 (0, 0)) ∧ k26.R 26 w' base (fun _ => True) (.slice O n o) l ∧ Below base w w' ∧ Told gq none w w' := by
  obtain ⟨pb, po, HP⟩ := tok_cells hA
  have HPP := Aside0.mk HP
  have HN := Aside0.mk hn
  have HMK := Aside0.mk hmk
  have HQ := Aside0.mk hq
  have HGQ := Aside0.mk (blk_lt hq)
  have HTL : Aside0 (∀ (W : World) (R : Option Addr) (rc : Nat), Below w.heap.size w W → k26.C W R l.length l → n ≤ rc → Calls Try.prog 17 #[.pointer (some ⟨gq, 0, none⟩), .slice R n rc] W fun e w' => e = .returned (.tuple #[]) ∧ ∃ O' o', w'.heap[gq]? = some (.cells (wkC inl mb (.slice none 0 0) uses (.slice O' (0 + n) o')) 41 (0, 0)) ∧ k26.R 26 w' base (fun _ => True) (.slice O' (0 + n) o') ([] ++ l) ∧ Below base W w' ∧ Told gq none W w') := ⟨fun W R rc hb hR hrc => by
    have h := tell_plain W base gq mb inl (.slice none 0 0) uses none R 0 0 n rc [] l hR hn hrc rfl (by omega) hbq (hl.on hb) (blk_below hq hb) (Kd.R_nil _ _ _ _ _)
    simpa [Value.ownBlock] using h⟩
  clear HP hn hmk hq hl hA
  go_enter Try.func14, Try.ntmps14
  go_wp2
  go_loopg [6, 7] n (fun gg s6 s7 wz => ∃ (i ro : Nat) (R : Option Addr), i ≤ n ∧ n - i ≤ gg ∧ s7 = .int .i64 i ∧ s6 = .slice R i ro ∧ Aside0 (Below w.heap.size w wz ∧ k26.R 26 wz w.heap.size (fun _ => True) (.slice R i ro) (l.take i)))
  case atStart => exact ⟨0, 0, none, Nat.zero_le _, Nat.le_of_eq (Nat.sub_zero _), rfl, rfl, ⟨below_alloc (Below.refl _ _) _, Kd.R_nil _ _ _ _ _⟩⟩
  case round =>
    obtain ⟨i, ro, R, hi, hg, rfl, rfl, HW⟩ := hrel
    by_cases hlt : i < n
    · have d0 : ((i : Int) < (n : Int)) = True := eq_true (by omega)
      have hil : i < l.length := by have := HN.out; omega
      obtain ⟨rfl, q0, q1, q2, q3, q4⟩ := HPP.out i hil
      have hnm := HMK.out _ (List.getElem_mem hil)
      have HTK := Aside0.mk (show l.take (i + 1) = l.take i ++ [l[i]] by rw [List.take_add_one, List.getElem?_eq_getElem hil]; rfl)
      have p0 := pw_cell_below HW.out.1 q0
      have p1 := pw_cell_below HW.out.1 q1
      have p2 := pw_cell_below HW.out.1 q2
      have p3 := pw_cell_below HW.out.1 q3
      have p4 := pw_cell_below HW.out.1 q4
      generalize l[i] = x at p0 p1 p2 p3 p4 hnm HTK
      have HMW := Aside0.mk (fun W => mark_walk x ⟨#[35]⟩ W)
      rw [hnm] at HMW
      clear q0 q1 q2 q3 q4 hil hnm
      go_upto_region 5 with fail
      obtain ⟨g8, hg8⟩ : ∃ g8, g8 = wr.heap.size := ⟨_, rfl⟩
      rw [← hg8]
      refine wp_world (fun W => Aside0 (Below wr.heap.size wr W ∧ W.heap[g8]? = some (.cells (tokC x) 26 (0, 0)))) ⟨below_alloc (Below.refl _ _) _, by rw [hg8]; exact blk_new _ _⟩ (fun W1 H1 => ?_)
      clear hg8 p0 p1 p2 p3 p4
      have c0 : W1.cell? ⟨g8, 0, none⟩ = some (.int .i64 x.f0) := (blk_cell H1.out.2 0).trans rfl
      have c1 : W1.cell? ⟨g8, 1, none⟩ = some (.int .i64 x.f1) := (blk_cell H1.out.2 1).trans rfl
      have c2 : W1.cell? ⟨g8, 2, none⟩ = some (.int .i64 x.f2) := (blk_cell H1.out.2 2).trans rfl
      have c3 : W1.cell? ⟨g8, 3, none⟩ = some (.string x.f3) := (blk_cell H1.out.2 3).trans rfl
      have c4 : W1.cell? ⟨g8, 4, none⟩ = some (.int .i64 x.f4) := (blk_cell H1.out.2 4).trans rfl
      have SB := Aside0.mk (fun (W : World) (hb : Below W1.heap.size W1 W) => (⟨pw_cell_below hb c0, pw_cell_below hb c1, pw_cell_below hb c2, pw_cell_below hb c3, pw_cell_below hb c4⟩ : W.cell? ⟨g8, 0, none⟩ = some (.int .i64 x.f0) ∧ W.cell? ⟨g8, 1, none⟩ = some (.int .i64 x.f1) ∧ W.cell? ⟨g8, 2, none⟩ = some (.int .i64 x.f2) ∧ W.cell? ⟨g8, 3, none⟩ = some (.string x.f3) ∧ W.cell? ⟨g8, 4, none⟩ = some (.int .i64 x.f4)))
      refine wp_region_quietC (fun W => Below W1.heap.size W1 W) (by kernel_rfl) (by kernel_rfl) (below_drew (Below.refl _ _)) ?_
      go_big_quiet_want
      refine ⟨tokV x, fun w hw => ?_, ?_⟩
      · obtain ⟨b0, b1, b2, b3, b4⟩ := SB.out w hw
        clear c0 c1 c2 c3 c4
        simp [Oper.quietAt, Oper.quietUpon, go_sem, *]
      simp only [Act.put, List.setIfInBounds_toArray, List.set_cons_zero, List.set_cons_succ]
      go_big_quiet_on
      go_big_quiet_want
      refine ⟨.bool false, fun w hw => ?_, ?_⟩
      · simp [Oper.quietAt, Oper.quietUpon, go_sem]
        exact (HMW.out w).mono (fun e w'' h => ⟨h.1, below_then hw hw.size h.2⟩)
      simp only [Act.put, List.setIfInBounds_toArray, List.set_cons_zero, List.set_cons_succ]
      go_big_quiet_on
      go_big_quiet_want
      refine ⟨.bool true, fun w hw => (by simp [Oper.quietAt, Oper.quietUpon, go_sem]), ?_⟩
      simp only [Act.put, List.setIfInBounds_toArray, List.set_cons_zero, List.set_cons_succ]
      go_big_quiet_on
      go_big_quiet_want
      go_big_quiet_op
      go_big_quiet_on
      repeat go_big_quiet_skip
      go_big_quiet_want
      refine ⟨.bool true, fun w hw => (by simp [Oper.quietAt, Oper.quietUpon, go_sem]), ?_⟩
      simp only [Act.put, List.setIfInBounds_toArray, List.set_cons_zero, List.set_cons_succ]
      go_big_quiet_on
      refine wpQuiet_nil ?_
      intro w2 hB2
      have HB2 := Aside0.mk hB2
      clear hB2 SB
      go_upto_region 6 with fail
      clear c0 c1 c2 c3 c4
      have HB12 := Aside0.mk (below_then H1.out.1 H1.out.1.size HB2.out)
      have HKP := Aside0.mk (kept_none w2 gq ((blk_cell (blk_below HQ.out (below_then HW.out.1 HW.out.1.size HB12.out)) 2).trans rfl))
      go_upto_region 7 with (go_at_call 16; refine HKP.out.mono ?_; rintro e w3 ⟨rfl, hD⟩; have HB3 := Aside0.mk (below_then H1.out.1 H1.out.1.size (HB2.out.trans (below_then (Below.refl _ _) HB2.out.size hD.below))); have H8 := Aside0.mk (blk_below (blk_below H1.out.2 HB2.out) hD.below); clear hD)
      have c0 : w3.cell? ⟨g8, 0, none⟩ = some (.int .i64 x.f0) := (blk_cell H8.out 0).trans rfl
      have c1 : w3.cell? ⟨g8, 1, none⟩ = some (.int .i64 x.f1) := (blk_cell H8.out 1).trans rfl
      have c2 : w3.cell? ⟨g8, 2, none⟩ = some (.int .i64 x.f2) := (blk_cell H8.out 2).trans rfl
      have c3 : w3.cell? ⟨g8, 3, none⟩ = some (.string x.f3) := (blk_cell H8.out 3).trans rfl
      have c4 : w3.cell? ⟨g8, 4, none⟩ = some (.int .i64 x.f4) := (blk_cell H8.out 4).trans rfl
      have HLI := Aside0.mk (show (l.take i).length = i by rw [List.length_take]; have := HN.out; omega)
      go_wp2_with (at_builtin; refine Kd.R_append k26 (w0 := w) (W := w3) w.heap.size rfl (.tmp 38) (.tmp 40) 22 26 (.agg #[(.int .i64 0), (.int .i64 0), (.int .i64 0), (.string ⟨#[]⟩), (.int .i64 0)]) 48 rfl Try.underlying22 info26 rfl k26_sz (by decide) (.slice R i ro) (l.take i) x [.int .i64 x.f0, .int .i64 x.f1, .int .i64 x.f2, .string x.f3, .int .i64 x.f4] (fun _ => True) (fun _ => False) rfl rfl (k26_mkM _ _ _ x) (fun k hk => hk.elim) (fun _ _ => trivial) (Kd.R_below HW.out.2 HB3.out) (below_then HW.out.1 HW.out.1.size HB3.out) (Nat.le_trans HW.out.1.size HB3.out.size) (by rw [HLI.out]; omega) ?_; intro v1 w7 hR7 hB7 _ _; obtain ⟨A7, c7, e⟩ := Kd.R_slice hR7; rw [List.length_append, HLI.out, List.length_singleton] at e; subst e; have HR7 := Aside0.mk (And.intro hR7 hB7); clear hR7 hB7)
      go_roundg (n - (i + 1))
      case measure => omega
      case rel => exact ⟨i + 1, c7, A7, by omega, by omega, by go_num, rfl, ⟨HR7.out.2, by rw [HTK.out]; exact HR7.out.1⟩⟩
    · have d0 : ((i : Int) < (n : Int)) = False := eq_false (by omega)
      obtain rfl : i = n := by omega
      have hR := HW.out.2
      rw [show l.take i = l from List.take_of_length_le (by have := HN.out; omega)] at hR
      have HT := Aside0.mk (HTL.out wr R ro HW.out.1 (Kd.R_reads' hR).2.2 (Kd.R_reads' hR).2.1)
      clear hR
      go_upto_region 17 with (go_at_call 17; refine HT.out.mono ?_; rintro e w4 ⟨rfl, O4, o4, hq4, hR4, hB4, hT4⟩; have H4 := Aside0.mk (And.intro hq4 (And.intro hR4 (And.intro hB4 hT4))); clear hq4 hR4 hB4 hT4)
      have cq2 : w4.cell? ⟨gq, 2, none⟩ = some (.slice none 0 0) := (blk_cell H4.out.1 2).trans rfl
      go_wp2
      have hle : base ≤ w.heap.size := Nat.le_of_lt (Nat.lt_of_le_of_lt hbq HGQ.out)
      have h4 := H4.out
      rw [Nat.zero_add, List.nil_append] at h4
      refine ⟨rfl, .tuple #[], (by simp [results, Try.results14, go_sem]), rfl, O4, o4, h4.1, h4.2.1, (below_then (Below.refl base w) hle HW.out.1).trans h4.2.2.1, ((Told.refl _ _ _).below HW.out.1).trans h4.2.2.2⟩
end Go.Proofs.Ytlbiideeljbhlaa.Pr
