/- What a macro without parameters stands for: filled. Condition: at most 8192 tokens. -/
import Derived.Test.YtlbiideeljbhlaaPrF
set_option linter.unusedSimpArgs false
set_option linter.unusedVariables false
namespace Go.Proofs.Ytlbiideeljbhlaa.Pr
open Go.RowKit Go.BigFrame Go.Proofs.YtlbiideeljbhlaaW.PrintWords Go.Proofs.YtlbiideeljbhlaaW.PrintLast Go.Proofs.YtlbiideeljbhlaaW.PrintMore Go.Proofs.Ytlbiideeljbhlaa.PPrepSkips

structure Off (g : Nat) (W0 W : World) : Prop where
  at' : ∀ k, k ≠ g → W.heap[k]? = W0.heap[k]?
theorem Off.refl (g : Nat) (W : World) : Off g W W := ⟨fun _ _ => rfl⟩
theorem Off.drew {g : Nat} {W0 W : World} (h : Off g W0 W) : Off g W0 W.drew := ⟨h.at'⟩
theorem Off.set {g : Nat} {W0 W : World} (h : Off g W0 W) (i : Nat) (u : Value) : Off g W0 (W.setCell ⟨g, i, none⟩ u) := ⟨fun k hk => (Below.heap_setCell W ⟨g, i, none⟩ u k hk).trans (h.at' k hk)⟩
theorem Off.cell {g : Nat} {W0 W : World} (h : Off g W0 W) {k o : Nat} {v : Value} (hc : W0.cell? ⟨k, o, none⟩ = some v) (hk : k ≠ g) : W.cell? ⟨k, o, none⟩ = some v := (World.cell?_of_block (w := W0) (a := ⟨k, o, none⟩) (h.at' k hk)).trans hc

/-- A token that stands where another one stood. -/
def relab (a x : S26) : S26 := ⟨x.f0, a.f1, a.f2, x.f3, x.f4⟩

set_option maxHeartbeats 400000 in
theorem index_nil (s : ByteArray) (W : World) : Calls Try.prog 51 #[.slice none 0 0, .string s] W fun e w' => e = .returned (.int .i64 (-1)) ∧ Below W.heap.size W w' := by
  go_enter Try.func51, Try.ntmps51
  go_wp2
  go_loopg [8] 0 (fun gg s8 wz => s8 = .int .i64 0 ∧ Aside0 (Below W.heap.size W wz))
  case atStart => exact ⟨rfl, ⟨Below.refl _ _⟩⟩
  case round =>
    obtain ⟨rfl, HW⟩ := hrel
    go_wp2
    go_ret
    exact ⟨rfl, HW.out⟩

set_option maxHeartbeats 4000000 in
set_option maxRecDepth 100000 in
theorem put_one (W : World) (base g9 g7 b m o : Nat) (O : Option Addr) (x a : S26) (outs : List S26) (hb : W.heap[b]? = some (.cells (tokC x) 26 (0, 0))) (h7 : W.heap[g7]? = some (.cells (tokC a) 26 (0, 0))) (h9 : W.heap[g9]? = some (.cells #[.slice O m o] 22 (0, 0))) (hle : base ≤ g9) (hR : k26.R 26 W base (fun k => k ≠ g7) (.slice O m o) outs) (hbW : base ≤ W.heap.size) (hm : m = outs.length) (hm2 : m ≤ 8192) :
    Calls Try.prog 50 #[.slice (some ⟨b, 0, none⟩) 1 1, .pointer (some ⟨g9, 0, none⟩), .pointer (some ⟨g7, 0, none⟩)] W fun e w' => e = .returned (.tuple #[]) ∧ ∃ O' o', w'.heap[g9]? = some (.cells #[.slice O' (m + 1) o'] 22 (0, 0)) ∧ k26.R 26 w' base (fun k => k ≠ g7) (.slice O' (m + 1) o') (outs ++ [relab a x]) ∧ Below base W w' ∧ Told g9 (Value.slice O m o).ownBlock W w' := by
  have HB := Aside0.mk hb
  have H7 := Aside0.mk h7
  have H9 := Aside0.mk h9
  have HR := Aside0.mk hR
  have HM := Aside0.mk hm
  have hlt9 := blk_lt h9
  clear hb h7 h9 hR hm
  go_enter Try.func50, Try.ntmps50
  go_wp2
  go_loopg [8] 1 (fun gg s8 wz => (1 ≤ gg ∧ s8 = .int .i64 0 ∧ Aside0 (wz = W)) ∨ (s8 = .int .i64 1 ∧ Aside0 (∃ O' o', wz.heap[g9]? = some (.cells #[.slice O' (m + 1) o'] 22 (0, 0)) ∧ k26.R 26 wz base (fun k => k ≠ g7) (.slice O' (m + 1) o') (outs ++ [relab a x]) ∧ Below base W wz ∧ Told g9 (Value.slice O m o).ownBlock W wz)))
  case atStart => exact Or.inl ⟨Nat.le_refl _, rfl, ⟨rfl⟩⟩
  case round =>
    rcases hrel with ⟨hg, rfl, HW⟩ | ⟨rfl, HW⟩
    · obtain rfl := HW.out
      have p0 : wr.cell? ⟨b, 0, none⟩ = some (.int .i64 x.f0) := (blk_cell HB.out 0).trans rfl
      have p1 : wr.cell? ⟨b, 1, none⟩ = some (.int .i64 x.f1) := (blk_cell HB.out 1).trans rfl
      have p2 : wr.cell? ⟨b, 2, none⟩ = some (.int .i64 x.f2) := (blk_cell HB.out 2).trans rfl
      have p3 : wr.cell? ⟨b, 3, none⟩ = some (.string x.f3) := (blk_cell HB.out 3).trans rfl
      have p4 : wr.cell? ⟨b, 4, none⟩ = some (.int .i64 x.f4) := (blk_cell HB.out 4).trans rfl
      go_upto_region 3 with fail
      obtain ⟨g5, hg5⟩ : ∃ g5, g5 = wr.heap.size := ⟨_, rfl⟩
      rw [← hg5]
      have HG5 := Aside0.mk hg5
      refine wp_world (fun W1 => Aside0 (Below wr.heap.size wr W1 ∧ W1.heap[g5]? = some (.cells (tokC x) 26 (0, 0)))) ⟨below_alloc (Below.refl _ _) _, by rw [hg5]; exact blk_new _ _⟩ (fun W1 H1 => ?_)
      clear hg5 p0 p1 p2 p3 p4
      have c9 : W1.cell? ⟨g9, 0, none⟩ = some (.slice O m o) := (blk_cell (blk_below H9.out H1.out.1) 0).trans rfl
      have d1 : ((m : Int) ≤ (8192 : Int)) = True := eq_true (by omega)
      go_upto_region 4 with fail
      have h57 : g5 ≠ g7 := by have := blk_lt H7.out; have := HG5.out; omega
      have b7 := blk_below H7.out H1.out.1
      have a1 : W1.cell? ⟨g7, 1, none⟩ = some (.int .i64 a.f1) := (blk_cell b7 1).trans rfl
      have a2 : W1.cell? ⟨g7, 2, none⟩ = some (.int .i64 a.f2) := (blk_cell b7 2).trans rfl
      have x1 : W1.cell? ⟨g5, 1, none⟩ = some (.int .i64 x.f1) := (blk_cell H1.out.2 1).trans rfl
      have x2 : W1.cell? ⟨g5, 2, none⟩ = some (.int .i64 x.f2) := (blk_cell H1.out.2 2).trans rfl
      have y1 := blk_frozen H1.out.2 1
      have y2 := blk_frozen H1.out.2 2
      have SB := Aside0.mk (fun (W : World) (hb : Off g5 W1 W) => (⟨hb.cell a1 (fun e => h57 e.symm), hb.cell a2 (fun e => h57 e.symm)⟩ : W.cell? ⟨g7, 1, none⟩ = some (.int .i64 a.f1) ∧ W.cell? ⟨g7, 2, none⟩ = some (.int .i64 a.f2)))
      go_region_held3 (fun W => W.cell? ⟨g7, 1, none⟩ = some (.int .i64 a.f1) ∧ W.cell? ⟨g7, 2, none⟩ = some (.int .i64 a.f2))
        ((exact SB.out _ (by repeat (first | apply Off.set | apply Off.drew | exact Off.refl _ _))))
        (fail)
      have hW2 : Below wr.heap.size wr ((W1.setCell ⟨g5, 1, none⟩ (.int .i64 a.f1)).setCell ⟨g5, 2, none⟩ (.int .i64 a.f2)).drew ∧ ((W1.setCell ⟨g5, 1, none⟩ (.int .i64 a.f1)).setCell ⟨g5, 2, none⟩ (.int .i64 a.f2)).drew.heap[g5]? = some (.cells (tokC (relab a x)) 26 (0, 0)) := ⟨((H1.out.1.setCell (p := ⟨g5, 1, none⟩) (Nat.le_of_eq HG5.out.symm) _).setCell (p := ⟨g5, 2, none⟩) (Nat.le_of_eq HG5.out.symm) _).drew, blk_set (blk_set H1.out.2 1 (.int .i64 a.f1)) 2 (.int .i64 a.f2)⟩
      obtain ⟨W2, hW2e⟩ : ∃ W2, W2 = ((W1.setCell ⟨g5, 1, none⟩ (.int .i64 a.f1)).setCell ⟨g5, 2, none⟩ (.int .i64 a.f2)).drew := ⟨_, rfl⟩
      rw [← hW2e] at hW2 ⊢
      have H2 := Aside0.mk hW2
      clear hW2 hW2e SB a1 a2 x1 x2 y1 y2 c9 h57 b7 H1 d1
      have c0 : W2.cell? ⟨g5, 0, none⟩ = some (.int .i64 x.f0) := (blk_cell H2.out.2 0).trans rfl
      have c1 : W2.cell? ⟨g5, 1, none⟩ = some (.int .i64 a.f1) := (blk_cell H2.out.2 1).trans rfl
      have c2 : W2.cell? ⟨g5, 2, none⟩ = some (.int .i64 a.f2) := (blk_cell H2.out.2 2).trans rfl
      have c3 : W2.cell? ⟨g5, 3, none⟩ = some (.string x.f3) := (blk_cell H2.out.2 3).trans rfl
      have c4 : W2.cell? ⟨g5, 4, none⟩ = some (.int .i64 x.f4) := (blk_cell H2.out.2 4).trans rfl
      have b9 := blk_below H9.out H2.out.1
      have c9 : W2.cell? ⟨g9, 0, none⟩ = some (.slice O m o) := (blk_cell b9 0).trans rfl
      have HB9 := Aside0.mk b9
      have HR2 := Aside0.mk (Kd.R_below HR.out H2.out.1)
      clear b9
      go_wp2_with (at_builtin; refine Kd.R_append k26 (w0 := wr) (W := W2) base rfl (.tmp 21) (.tmp 23) 22 26 (.agg #[(.int .i64 0), (.int .i64 0), (.int .i64 0), (.string ⟨#[]⟩), (.int .i64 0)]) 48 rfl Try.underlying22 info26 rfl k26_sz (by decide) (.slice O m o) outs (relab a x) [.int .i64 x.f0, .int .i64 a.f1, .int .i64 a.f2, .string x.f3, .int .i64 x.f4] (fun k => k ≠ g7) (fun _ => False) rfl rfl (k26_mkM _ _ _ (relab a x)) (fun k hk => hk.elim) (fun k hk e => by have := blk_lt H7.out; have := H2.out.1.size; omega) HR2.out (below_then (Below.refl _ _) hbW H2.out.1) (Nat.le_trans hbW H2.out.1.size) (by rw [← HM.out]; omega) ?_; intro v1 w7 hR7 hB7 hG7 _; obtain ⟨A7, c7, e⟩ := Kd.R_slice hR7; rw [List.length_append, List.length_singleton, ← HM.out] at e; subst e; have hb9 := blk_grown HB9.out hG7 (Kd.R_ne HR2.out HB9.out (by decide)); have c97 : w7.cell? ⟨g9, 0, none⟩ = some (.slice O m o) := (blk_cell hb9 0).trans rfl; have f97 := blk_frozen hb9 0; have HR7 := Aside0.mk (And.intro hR7 (And.intro hB7 (And.intro hG7 hb9))); clear hR7 hB7 hG7 hb9)
      go_roundg 0
      case measure => omega
      case rel =>
        obtain ⟨hR7, hB7, hG7, hb9⟩ := HR7.out
        refine Or.inr ⟨by go_num, ⟨A7, c7, blk_set hb9 0 _, Kd.R_set hR7 hb9 (by show ∀ q, q ∈ [26] → q ≠ 22; decide) 0 _, hB7.setCell hle _, ((((Told.refl _ _ _).below H2.out.1).grown hG7 (Or.inl rfl)).set 0 _)⟩⟩
    · go_wp2
      refine ⟨rfl, .tuple #[], (by simp [results, Try.results50, go_sem]), rfl, HW.out⟩

set_option maxHeartbeats 4000000 in
set_option maxRecDepth 100000 in
theorem filled_walk (w : World) (gq nb cb : Nat) (Ab : Option Addr) (body : List S26) (a : S26) (hq : w.cell? ⟨gq, 0, none⟩ = some (.bool false)) (hA : k26.C w Ab body.length body) (hn : nb = body.length) (hn2 : nb ≤ 8192) :
    Calls Try.prog 44 #[.pointer (some ⟨gq, 0, none⟩), .agg #[.bool false, .slice none 0 0, .slice Ab nb cb], .slice none 0 0, tokV a] w fun e w' => ∃ O o, e = .returned (.slice O nb o) ∧ k26.R 26 w' w.heap.size (fun _ => True) (.slice O nb o) (body.map (relab a)) ∧ Below w.heap.size w w' := by
  have hmf : ∀ (fn : Fn) (first cap : Array Value) (w : World), (Instr.makeFunc fn first cap).run Try.prog w = .ok (.func fn first cap) w := fun _ _ _ _ => rfl
  obtain ⟨pb, po, HP⟩ := tok_cells hA
  have HPP := Aside0.mk HP
  have HN := Aside0.mk hn
  have HQ := Aside0.mk hq
  clear HP hA hn hq
  go_enter Try.func44, Try.ntmps44
  go_upto_region 2 with fail
  obtain ⟨g5, hg5⟩ : ∃ g5, g5 = w.heap.size := ⟨_, rfl⟩
  rw [← hg5]
  refine wp_world (fun W => Aside0 (Below w.heap.size w W ∧ W.heap[g5]? = some (.cells #[.bool false, .slice none 0 0, .slice Ab nb cb] 62 (0, 0)) ∧ W.heap[g5 + 1]? = some (.cells (tokC a) 26 (0, 0)) ∧ W.heap[g5 + 1 + 1]? = some (.cells #[.slice none 0 0] 22 (0, 0)))) ⟨below_alloc (below_alloc (below_alloc (Below.refl _ _) _) _) _, blk_alloc (blk_alloc (by rw [hg5]; exact blk_new _ _) _) _, blk_alloc (by have h := blk_new (w.alloc (.cells #[.bool false, .slice none 0 0, .slice Ab nb cb] 62)) (.cells (tokC a) 26); rwa [show (w.alloc (.cells #[.bool false, .slice none 0 0, .slice Ab nb cb] 62)).heap.size = g5 + 1 by rw [hg5]; simp] at h) _, by have h := blk_new ((w.alloc (.cells #[.bool false, .slice none 0 0, .slice Ab nb cb] 62)).alloc (.cells (tokC a) 26)) (.cells #[.slice none 0 0] 22); rwa [show ((w.alloc (.cells #[.bool false, .slice none 0 0, .slice Ab nb cb] 62)).alloc (.cells (tokC a) 26)).heap.size = g5 + 1 + 1 by rw [hg5]; simp] at h⟩ (fun W0 H0 => ?_)
  have HG5 := Aside0.mk hg5
  clear hg5
  have q0 : W0.cell? ⟨gq, 0, none⟩ = some (.bool false) := pw_cell_below H0.out.1 HQ.out
  have m2 : W0.cell? ⟨g5, 2, none⟩ = some (.slice Ab nb cb) := (blk_cell H0.out.2.1 2).trans rfl
  go_wp2
  go_loopg [26] nb (fun gg s26 wz => ∃ (i o : Nat) (O : Option Addr), i ≤ nb ∧ nb - i ≤ gg ∧ s26 = .int .i64 i ∧ Aside0 ((Below w.heap.size w wz ∧ wz.heap[g5]? = some (.cells #[.bool false, .slice none 0 0, .slice Ab nb cb] 62 (0, 0)) ∧ wz.heap[g5 + 1]? = some (.cells (tokC a) 26 (0, 0))) ∧ wz.heap[g5 + 1 + 1]? = some (.cells #[.slice O i o] 22 (0, 0)) ∧ k26.R 26 wz w.heap.size (fun k => k ≠ g5 + 1) (.slice O i o) ((body.take i).map (relab a))))
  case atStart => exact ⟨0, 0, none, Nat.zero_le _, Nat.le_of_eq (Nat.sub_zero _), rfl, ⟨⟨H0.out.1, H0.out.2.1, H0.out.2.2.1⟩, H0.out.2.2.2, Kd.R_nil _ _ _ _ _⟩⟩
  case round =>
    clear H0 q0 m2
    obtain ⟨i, o, O, hi, hg, rfl, HW⟩ := hrel
    by_cases hlt : i < nb
    · have d0 : ((i : Int) < (nb : Int)) = True := eq_true (by omega)
      have hil : i < body.length := by have := HN.out; omega
      obtain ⟨rfl, q0, q1, q2, q3, q4⟩ := HPP.out i hil
      have HTK := Aside0.mk (show (body.take (i + 1)).map (relab a) = (body.take i).map (relab a) ++ [relab a body[i]] by rw [List.take_add_one, List.getElem?_eq_getElem hil, List.map_append]; rfl)
      have p0 := pw_cell_below HW.out.1.1 q0
      have p1 := pw_cell_below HW.out.1.1 q1
      have p2 := pw_cell_below HW.out.1.1 q2
      have p3 := pw_cell_below HW.out.1.1 q3
      have p4 := pw_cell_below HW.out.1.1 q4
      generalize body[i] = x at p0 p1 p2 p3 p4 HTK
      clear q0 q1 q2 q3 q4 hil
      go_upto_region 8 with fail
      obtain ⟨g8, hg8⟩ : ∃ g8, g8 = wr.heap.size := ⟨_, rfl⟩
      rw [← hg8]
      refine wp_world (fun W => Aside0 (Below wr.heap.size wr W ∧ W.heap[g8]? = some (.cells (tokC x) 26 (0, 0)))) ⟨below_alloc (Below.refl _ _) _, by rw [hg8]; exact blk_new _ _⟩ (fun W1 H1 => ?_)
      clear hg8 p0 p1 p2 p3 p4
      have m1 : W1.cell? ⟨g5, 1, none⟩ = some (.slice none 0 0) := (blk_cell (blk_below HW.out.1.2.1 H1.out.1) 1).trans rfl
      have x3 : W1.cell? ⟨g8, 3, none⟩ = some (.string x.f3) := (blk_cell H1.out.2 3).trans rfl
      have HIX := Aside0.mk (index_nil x.f3 W1)
      go_upto_region 9 with (go_at_call 51; refine HIX.out.mono ?_; rintro e w2 ⟨rfl, hB⟩; have HB2 := Aside0.mk (below_then H1.out.1 H1.out.1.size hB); have H8 := Aside0.mk (blk_below H1.out.2 hB); clear hB)
      have c0 : w2.cell? ⟨g8, 0, none⟩ = some (.int .i64 x.f0) := (blk_cell H8.out 0).trans rfl
      have c1 : w2.cell? ⟨g8, 1, none⟩ = some (.int .i64 x.f1) := (blk_cell H8.out 1).trans rfl
      have c2 : w2.cell? ⟨g8, 2, none⟩ = some (.int .i64 x.f2) := (blk_cell H8.out 2).trans rfl
      have c3 : w2.cell? ⟨g8, 3, none⟩ = some (.string x.f3) := (blk_cell H8.out 3).trans rfl
      have c4 : w2.cell? ⟨g8, 4, none⟩ = some (.int .i64 x.f4) := (blk_cell H8.out 4).trans rfl
      have HLI := Aside0.mk (show ((body.take i).map (relab a)).length = i by rw [List.length_map, List.length_take]; have := HN.out; omega)
      have HPU : Aside0 (Calls Try.prog 50 #[.slice (some ⟨w2.heap.size, 0, none⟩) 1 1, .pointer (some ⟨g5 + 1 + 1, 0, none⟩), .pointer (some ⟨g5 + 1, 0, none⟩)] (w2.alloc (.cells #[.int .i64 x.f0, .int .i64 x.f1, .int .i64 x.f2, .string x.f3, .int .i64 x.f4] 26)) fun e w' => e = .returned (.tuple #[]) ∧ ∃ O' o', w'.heap[g5 + 1 + 1]? = some (.cells #[.slice O' (i + 1) o'] 22 (0, 0)) ∧ k26.R 26 w' w.heap.size (fun k => k ≠ g5 + 1) (.slice O' (i + 1) o') ((body.take i).map (relab a) ++ [relab a x]) ∧ Below w.heap.size (w2.alloc (.cells #[.int .i64 x.f0, .int .i64 x.f1, .int .i64 x.f2, .string x.f3, .int .i64 x.f4] 26)) w' ∧ Told (g5 + 1 + 1) (Value.slice O i o).ownBlock (w2.alloc (.cells #[.int .i64 x.f0, .int .i64 x.f1, .int .i64 x.f2, .string x.f3, .int .i64 x.f4] 26)) w') := ⟨by
        have hba := below_alloc HB2.out (.cells #[.int .i64 x.f0, .int .i64 x.f1, .int .i64 x.f2, .string x.f3, .int .i64 x.f4] 26)
        exact put_one _ w.heap.size (g5 + 1 + 1) (g5 + 1) w2.heap.size i o O x a ((body.take i).map (relab a)) (blk_new _ _) (blk_below HW.out.1.2.2 hba) (blk_below HW.out.2.1 hba) (by have := HG5.out; omega) (Kd.R_below HW.out.2.2 hba) (Nat.le_trans HW.out.1.1.size hba.size) HLI.out.symm (by omega)⟩
      clear m1 x3 HIX
      have hx0 : (x.f0 == (1 : Int)) = true ∨ (x.f0 == (1 : Int)) = false := by cases h : (x.f0 == (1 : Int)) <;> simp
      rcases hx0 with e1 | e1
      all_goals (
        go_wp2_with (go_at_call 50; refine HPU.out.mono ?_; rintro e w3 ⟨rfl, O3, o3, hq3, hR3, hB3, hT3⟩; have H3 := Aside0.mk (And.intro hq3 (And.intro hR3 (And.intro hB3 hT3))); clear hq3 hR3 hB3 hT3)
        go_roundg (nb - (i + 1))
        case measure => omega
        case rel =>
          have hba := below_alloc HB2.out (.cells #[.int .i64 x.f0, .int .i64 x.f1, .int .i64 x.f2, .string x.f3, .int .i64 x.f4] 26)
          have k5 := blk_below HW.out.1.2.1 hba
          have k7 := blk_below HW.out.1.2.2 hba
          have t5 := (H3.out.2.2.2.block g5 (blk_lt k5) (by omega) (Kd.R_ne (Kd.R_below HW.out.2.2 hba) k5 (by decide))).trans k5
          have t7 := (H3.out.2.2.2.block (g5 + 1) (blk_lt k7) (by omega) (fun e => HW.out.2.2.1 _ e.symm rfl)).trans k7
          exact ⟨i + 1, o3, O3, by omega, by omega, by go_num, ⟨⟨(below_then HW.out.1.1 HW.out.1.1.size hba).trans H3.out.2.2.1, t5, t7⟩, H3.out.1, by rw [HTK.out]; exact H3.out.2.1⟩⟩)
    · have d0 : ((i : Int) < (nb : Int)) = False := eq_false (by omega)
      obtain rfl : i = nb := by omega
      have hR := HW.out.2.2
      rw [show body.take i = body from List.take_of_length_le (by have := HN.out; omega)] at hR
      have HRF := Aside0.mk (Kd.R_mono hR (fun _ _ => trivial))
      clear hR
      have q0 : wr.cell? ⟨gq, 0, none⟩ = some (.bool false) := pw_cell_below HW.out.1.1 HQ.out
      have c9 : wr.cell? ⟨g5 + 1 + 1, 0, none⟩ = some (.slice O i o) := (blk_cell HW.out.2.1 0).trans rfl
      go_wp2
      go_ret
      exact ⟨O, o, rfl, HRF.out, HW.out.1.1⟩
end Go.Proofs.Ytlbiideeljbhlaa.Pr
