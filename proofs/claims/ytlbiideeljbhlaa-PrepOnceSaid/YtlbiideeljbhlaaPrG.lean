/- What becomes of a row without inlines: the closure inside Inlines. Condition: at most 8192 tokens. -/
import Derived.Test.YtlbiideeljbhlaaPrF
set_option linter.unusedSimpArgs false
set_option linter.unusedVariables false
namespace Go.Proofs.Ytlbiideeljbhlaa.Pr
open Go.RowKit Go.BigFrame Go.Proofs.YtlbiideeljbhlaaW.PrintWords Go.Proofs.YtlbiideeljbhlaaW.PrintLast Go.Proofs.YtlbiideeljbhlaaW.PrintMore Go.Proofs.Ytlbiideeljbhlaa.PPrepSkips

set_option maxHeartbeats 8000000 in
set_option maxRecDepth 100000 in
theorem inlines_plain (w : World) (base gq mb : Nat) (inl : Bool) (uses : Int) (A : Option Addr) (n c : Nat) (l : List S26) (en : S26) (hA : k26.C w A l.length l) (hn : n = l.length) (hn2 : n ≤ 8192) (hbq : base ≤ gq) (hl : Plain w mb l) (hmk : ∀ x, x ∈ l → isT 1 x ⟨#[105, 110, 108, 105, 110, 101]⟩ = false)
    (hq : w.heap[gq]? = some (.cells (wkC inl mb (.slice none 0 0) uses (.slice none 0 0)) 41 (0, 0))) :
    Calls Try.prog 20 #[.pointer (some ⟨gq, 0, none⟩), .slice A n c, tokV en] w fun e w' => e = .returned (.tuple #[]) ∧ ∃ O o, w'.heap[gq]? = some (.cells (wkC inl mb (.slice none 0 0) uses (.slice O n o)) 41 (0, 0)) ∧ k26.R 26 w' base (fun _ => True) (.slice O n o) l ∧ Below base w w' ∧ Told gq none w w' := by
  obtain ⟨pb, po, HP⟩ := tok_cells hA
  have HPP := Aside0.mk HP
  have HN := Aside0.mk hn
  have HMK := Aside0.mk hmk
  have HQ := Aside0.mk hq
  have HGQ := Aside0.mk (blk_lt hq)
  have HTL : Aside0 (∀ (W : World) (R : Option Addr) (rc : Nat), Below w.heap.size w W → k26.C W R l.length l → n ≤ rc → Calls Try.prog 17 #[.pointer (some ⟨gq, 0, none⟩), .slice R n rc] W fun e w' => e = .returned (.tuple #[]) ∧ ∃ O' o', w'.heap[gq]? = some (.cells (wkC inl mb (.slice none 0 0) uses (.slice O' (0 + n) o')) 41 (0, 0)) ∧ k26.R 26 w' base (fun _ => True) (.slice O' (0 + n) o') ([] ++ l) ∧ Below base W w' ∧ Told gq none W w') := ⟨fun W R rc hb hR hrc => by
    have h := tell_plain W base gq mb inl (.slice none 0 0) uses none R 0 0 n rc [] l hR hn hrc rfl (by omega) hbq (hl.on hb) (blk_below hq hb) (Kd.R_nil _ _ _ _ _)
    simpa [Value.ownBlock] using h⟩
  clear HP hn hmk hq hl hA
  go_enter Try.func20, Try.ntmps20
  go_wp2
  go_loopg [6, 7, 8] n (fun gg s6 s7 s8 wz => ∃ (i ro : Nat) (R : Option Addr) (dp : Int), i ≤ n ∧ n - i ≤ gg ∧ s8 = .int .i64 i ∧ s6 = .slice R i ro ∧ s7 = .int .i64 dp ∧ -(i : Int) ≤ dp ∧ dp ≤ i ∧ Aside0 (Below w.heap.size w wz ∧ k26.R 26 wz w.heap.size (fun _ => True) (.slice R i ro) (l.take i)))
  case atStart => exact ⟨0, 0, none, 0, Nat.zero_le _, Nat.le_of_eq (Nat.sub_zero _), rfl, rfl, rfl, by omega, by omega, ⟨below_alloc (Below.refl _ _) _, Kd.R_nil _ _ _ _ _⟩⟩
  case round =>
    obtain ⟨i, ro, R, dp, hi, hg, rfl, rfl, rfl, hd0, hd1, HW⟩ := hrel
    by_cases hlt : i < n
    · have d0 : ((i : Int) < (n : Int)) = True := eq_true (by omega)
      have hil : i < l.length := by have := HN.out; omega
      obtain ⟨rfl, q0, q1, q2, q3, q4⟩ := HPP.out i hil
      have hnm := HMK.out _ (List.getElem_mem hil)
      have HTK := Aside0.mk (show l.take (i + 1) = l.take i ++ [l[i]] by rw [List.take_add_one, List.getElem?_eq_getElem hil]; rfl)
      have p0 := pw_cell_below HW.out.1 q0
      have p1 := pw_cell_below HW.out.1 q1
      have p2 := pw_cell_below HW.out.1 q2
      have p3 := pw_cell_below HW.out.1 q3
      have p4 := pw_cell_below HW.out.1 q4
      generalize l[i] = x at p0 p1 p2 p3 p4 hnm HTK
      have HWD := Aside0.mk (fun W => word_walk x ⟨#[105, 110, 108, 105, 110, 101]⟩ W)
      rw [hnm] at HWD
      obtain ⟨b1, hb1⟩ : ∃ b1, b1 = isT 4 x ⟨#[123]⟩ := ⟨_, rfl⟩
      obtain ⟨b2, hb2⟩ : ∃ b2, b2 = isT 4 x ⟨#[125]⟩ := ⟨_, rfl⟩
      have HM1 := Aside0.mk (fun W => mark_walk x ⟨#[123]⟩ W)
      have HM2 := Aside0.mk (fun W => mark_walk x ⟨#[125]⟩ W)
      rw [← hb1] at HM1
      rw [← hb2] at HM2
      clear q0 q1 q2 q3 q4 hil hnm hb1 hb2
      go_upto_region 6 with fail
      obtain ⟨g8, hg8⟩ : ∃ g8, g8 = wr.heap.size := ⟨_, rfl⟩
      rw [← hg8]
      refine wp_world (fun W => Aside0 (Below wr.heap.size wr W ∧ W.heap[g8]? = some (.cells (tokC x) 26 (0, 0)))) ⟨below_alloc (Below.refl _ _) _, by rw [hg8]; exact blk_new _ _⟩ (fun W1 H1 => ?_)
      clear hg8 p0 p1 p2 p3 p4
      have HC : Aside0 (∀ (W : World), Below W1.heap.size W1 W → (W.cell? ⟨g8, 0, none⟩ = some (.int .i64 x.f0) ∧ W.cell? ⟨g8, 1, none⟩ = some (.int .i64 x.f1) ∧ W.cell? ⟨g8, 2, none⟩ = some (.int .i64 x.f2) ∧ W.cell? ⟨g8, 3, none⟩ = some (.string x.f3) ∧ W.cell? ⟨g8, 4, none⟩ = some (.int .i64 x.f4))) := ⟨fun W hb => ⟨pw_cell_below hb ((blk_cell H1.out.2 0).trans rfl), pw_cell_below hb ((blk_cell H1.out.2 1).trans rfl), pw_cell_below hb ((blk_cell H1.out.2 2).trans rfl), pw_cell_below hb ((blk_cell H1.out.2 3).trans rfl), pw_cell_below hb ((blk_cell H1.out.2 4).trans rfl)⟩⟩
      have HLI := Aside0.mk (show (l.take i).length = i by rw [List.length_take]; have := HN.out; omega)
      obtain ⟨c0, c1, c2, c3, c4⟩ := HC.out W1 (Below.refl _ _)
      have HREST : ∀ (dp' : Int) (w4 : World), True := fun _ _ => trivial
      clear HREST
      by_cases hdp : dp ≤ 0
      · have d1 : (dp ≤ (0 : Int)) = True := eq_true hdp
        go_upto_region 10 with (go_at_call 21; refine (HWD.out _).mono ?_; rintro e w2 ⟨rfl, hB⟩; have HB2 := Aside0.mk hB; have hcc := HC.out _ hB; clear hB c0 c1 c2 c3 c4; obtain ⟨c0, c1, c2, c3, c4⟩ := hcc)
        cases b1
        all_goals (
          go_upto_region 12 with (go_at_call 15; refine (HM1.out _).mono ?_; rintro e w3 ⟨rfl, hB⟩; have HB3 := Aside0.mk (HB2.out.trans (below_then (Below.refl _ _) HB2.out.size hB)); have hcc := HC.out _ HB3.out; clear hB c0 c1 c2 c3 c4; obtain ⟨c0, c1, c2, c3, c4⟩ := hcc)
          cases b2
          all_goals (
            go_upto_region 14 with (go_at_call 15; refine (HM2.out _).mono ?_; rintro e w4 ⟨rfl, hB⟩; have HB4 := Aside0.mk (HB3.out.trans (below_then (Below.refl _ _) HB3.out.size hB)); have hcc := HC.out _ HB4.out; clear hB c0 c1 c2 c3 c4; obtain ⟨c0, c1, c2, c3, c4⟩ := hcc)
            have HB5 := Aside0.mk (below_then H1.out.1 H1.out.1.size HB4.out)
            go_wp2_with (at_builtin; refine Kd.R_append k26 (w0 := w) (W := w4) w.heap.size rfl (.tmp 42) (.tmp 44) 22 26 (.agg #[(.int .i64 0), (.int .i64 0), (.int .i64 0), (.string ⟨#[]⟩), (.int .i64 0)]) 48 rfl Try.underlying22 info26 rfl k26_sz (by decide) (.slice R i ro) (l.take i) x [.int .i64 x.f0, .int .i64 x.f1, .int .i64 x.f2, .string x.f3, .int .i64 x.f4] (fun _ => True) (fun _ => False) rfl rfl (k26_mkM _ _ _ x) (fun k hk => hk.elim) (fun _ _ => trivial) (Kd.R_below HW.out.2 HB5.out) (below_then HW.out.1 HW.out.1.size HB5.out) (Nat.le_trans HW.out.1.size HB5.out.size) (by rw [HLI.out]; omega) ?_; intro v1 w7 hR7 hB7 _ _; obtain ⟨A7, c7, e⟩ := Kd.R_slice hR7; rw [List.length_append, HLI.out, List.length_singleton] at e; subst e; have HR7 := Aside0.mk (And.intro hR7 hB7); clear hR7 hB7)
            go_roundg (n - (i + 1))
            case measure => omega
            case rel => exact ⟨i + 1, c7, A7, _, by omega, by omega, by go_num, rfl, rfl, by omega, by omega, ⟨HR7.out.2, by rw [HTK.out]; exact HR7.out.1⟩⟩))
      · have d1 : (dp ≤ (0 : Int)) = False := eq_false hdp
        go_upto_region 10 with fail
        have HB0 := Aside0.mk (Below.refl W1.heap.size W1)
        cases b1
        all_goals (
          go_upto_region 12 with (go_at_call 15; refine (HM1.out _).mono ?_; rintro e w3 ⟨rfl, hB⟩; have HB3 := Aside0.mk (HB0.out.trans (below_then (Below.refl _ _) HB0.out.size hB)); have hcc := HC.out _ HB3.out; clear hB c0 c1 c2 c3 c4; obtain ⟨c0, c1, c2, c3, c4⟩ := hcc)
          cases b2
          all_goals (
            go_upto_region 14 with (go_at_call 15; refine (HM2.out _).mono ?_; rintro e w4 ⟨rfl, hB⟩; have HB4 := Aside0.mk (HB3.out.trans (below_then (Below.refl _ _) HB3.out.size hB)); have hcc := HC.out _ HB4.out; clear hB c0 c1 c2 c3 c4; obtain ⟨c0, c1, c2, c3, c4⟩ := hcc)
            have HB5 := Aside0.mk (below_then H1.out.1 H1.out.1.size HB4.out)
            go_wp2_with (at_builtin; refine Kd.R_append k26 (w0 := w) (W := w4) w.heap.size rfl (.tmp 42) (.tmp 44) 22 26 (.agg #[(.int .i64 0), (.int .i64 0), (.int .i64 0), (.string ⟨#[]⟩), (.int .i64 0)]) 48 rfl Try.underlying22 info26 rfl k26_sz (by decide) (.slice R i ro) (l.take i) x [.int .i64 x.f0, .int .i64 x.f1, .int .i64 x.f2, .string x.f3, .int .i64 x.f4] (fun _ => True) (fun _ => False) rfl rfl (k26_mkM _ _ _ x) (fun k hk => hk.elim) (fun _ _ => trivial) (Kd.R_below HW.out.2 HB5.out) (below_then HW.out.1 HW.out.1.size HB5.out) (Nat.le_trans HW.out.1.size HB5.out.size) (by rw [HLI.out]; omega) ?_; intro v1 w7 hR7 hB7 _ _; obtain ⟨A7, c7, e⟩ := Kd.R_slice hR7; rw [List.length_append, HLI.out, List.length_singleton] at e; subst e; have HR7 := Aside0.mk (And.intro hR7 hB7); clear hR7 hB7)
            go_roundg (n - (i + 1))
            case measure => omega
            case rel => exact ⟨i + 1, c7, A7, _, by omega, by omega, by go_num, rfl, rfl, by omega, by omega, ⟨HR7.out.2, by rw [HTK.out]; exact HR7.out.1⟩⟩))
    · have d0 : ((i : Int) < (n : Int)) = False := eq_false (by omega)
      obtain rfl : i = n := by omega
      have hR := HW.out.2
      rw [show l.take i = l from List.take_of_length_le (by have := HN.out; omega)] at hR
      have HT := Aside0.mk (HTL.out wr R ro HW.out.1 (Kd.R_reads' hR).2.2 (Kd.R_reads' hR).2.1)
      clear hR
      go_wp2_with (go_at_call 17; refine HT.out.mono ?_; rintro e w4 ⟨rfl, O4, o4, hq4, hR4, hB4, hT4⟩; have H4 := Aside0.mk (And.intro hq4 (And.intro hR4 (And.intro hB4 hT4))); clear hq4 hR4 hB4 hT4)
      have hle : base ≤ w.heap.size := Nat.le_of_lt (Nat.lt_of_le_of_lt hbq HGQ.out)
      have h4 := H4.out
      rw [Nat.zero_add, List.nil_append] at h4
      refine ⟨rfl, .tuple #[], (by simp [results, Try.results20, go_sem]), rfl, O4, o4, h4.1, h4.2.1, (below_then (Below.refl base w) hle HW.out.1).trans h4.2.2.1, ((Told.refl _ _ _).below HW.out.1).trans h4.2.2.2⟩
end Go.Proofs.Ytlbiideeljbhlaa.Pr
