/- How a macro is made known: put, define, and a directive that defines. Condition: none is known yet. -/
import Derived.Test.YtlbiideeljbhlaaPrP
import Derived.ChangeMaps4
set_option linter.unusedSimpArgs false
set_option linter.unusedVariables false
namespace Go.Proofs.Ytlbiideeljbhlaa.Pr
open Go.RowKit Go.BigFrame Go.Proofs.YtlbiideeljbhlaaW.PrintWords Go.Proofs.YtlbiideeljbhlaaW.PrintLast Go.Proofs.YtlbiideeljbhlaaW.PrintMore Go.Proofs.Ytlbiideeljbhlaa.PPrepSkips

/-- A world with another block. -/
def setB (w : World) (b : Nat) (o : Obj) : World := { w with heap := w.heap.setIfInBounds b o }
theorem setB_at {w : World} {b : Nat} {o : Obj} (h : b < w.heap.size) : (setB w b o).heap[b]? = some o := by
  simp [setB, h]
theorem setB_ne {w : World} {b k : Nat} {o : Obj} (h : k ≠ b) : (setB w b o).heap[k]? = w.heap[k]? := by
  simp [setB, Array.getElem?_setIfInBounds, fun e : b = k => h e.symm]
  intro e
  exact absurd e.symm h
theorem setB_size {w : World} {b : Nat} {o : Obj} : (setB w b o).heap.size = w.heap.size := by simp [setB]

section
open Go.WideElems Go.ChangeShapes Go.WideShapes Go.MapKept Go.ChangeMaps
theorem upd_none {W : World} {mb cl : Nat} (hb : W.heap[mb]? = some (.map #[] cl)) (s : ByteArray) (v : Value) : (Instr.mapUpdate 38 (.map (some mb)) (.string s) v).run Try.prog W = .ok () (setB W mb (.map #[⟨.string s, v, cl⟩] (cl + 1))) := by
  simp [Instr.mapUpdate, run_underlying Try.underlying38, MapKept.run_getObj_map hb, check9, find9, MapKept.run_setObj_map _ hb, Result.andThen, setB]
theorem len_none {W : World} {mb cl : Nat} (hb : W.heap[mb]? = some (.map #[] cl)) : (Builtin.len_ #[38] 3 #[.map (some mb)]).run Try.prog W = .ok (.int .i64 0) W := by
  simp [Builtin.len_, run_underlying Try.underlying38, MapKept.run_getObj_map hb, Result.andThen]
  rfl
end

set_option maxHeartbeats 4000000 in
set_option maxRecDepth 100000 in
theorem put_walk (w : World) (gq mb cl nb cb : Nat) (Ab : Option Addr) (nm : ByteArray) (at_ uses : Int) (opn out : Value) (hq : w.heap[gq]? = some (.cells (wkC false mb opn uses out) 41 (0, 0))) (hm : w.heap[mb]? = some (.map #[] cl)) :
    Calls Try.prog 35 #[.pointer (some ⟨gq, 0, none⟩), .string nm, .agg #[.bool false, .slice none 0 0, .slice Ab nb cb], .int .i64 at_] w fun e w' => e = .returned (.tuple #[]) ∧ w'.heap[mb]? = some (.map #[⟨.string nm, macV Ab nb cb, cl⟩] (cl + 1)) ∧ (∀ base, base ≤ mb → Below base w w') ∧ Told mb none w w' := by
  have HQ := Aside0.mk hq
  have HM := Aside0.mk hm
  clear hq hm
  go_enter Try.func35, Try.ntmps35
  go_upto_region 1 with fail
  obtain ⟨g6, hg6⟩ : ∃ g6, g6 = w.heap.size := ⟨_, rfl⟩
  rw [← hg6]
  refine wp_world (fun W => Aside0 (Below w.heap.size w W ∧ W.heap[g6]? = some (.cells #[.bool false, .slice none 0 0, .slice Ab nb cb] 62 (0, 0)))) ⟨below_alloc (Below.refl _ _) _, by rw [hg6]; exact blk_new _ _⟩ (fun W1 H1 => ?_)
  clear hg6
  have hm1 := (H1.out.1.block mb (blk_lt HM.out)).trans HM.out
  have q1 : W1.cell? ⟨gq, 1, none⟩ = some (.map (some mb)) := (blk_cell (blk_below HQ.out H1.out.1) 1).trans rfl
  have l1 := look_none hm1 nm
  have HM1 := Aside0.mk hm1
  clear hm1
  go_upto_region 2 with fail
  refine wp_world (fun W => Aside0 (Below w.heap.size w W ∧ W.heap[g6]? = some (.cells #[.bool false, .slice none 0 0, .slice Ab nb cb] 62 (0, 0)))) ⟨below_then H1.out.1 H1.out.1.size (below_alloc (Below.refl _ _) _), blk_alloc H1.out.2 _⟩ (fun W2 H2 => ?_)
  have hm2 := (H2.out.1.block mb (blk_lt HM.out)).trans HM.out
  clear q1 l1 HM1 H1
  have q1 : W2.cell? ⟨gq, 1, none⟩ = some (.map (some mb)) := (blk_cell (blk_below HQ.out H2.out.1) 1).trans rfl
  have ln := len_none hm2
  have HM2 := Aside0.mk hm2
  clear hm2
  go_upto_region 4 with fail
  clear ln
  have n0 : W2.cell? ⟨g6, 0, none⟩ = some (.bool false) := (blk_cell H2.out.2 0).trans rfl
  have n1 : W2.cell? ⟨g6, 1, none⟩ = some (.slice none 0 0) := (blk_cell H2.out.2 1).trans rfl
  have n2 : W2.cell? ⟨g6, 2, none⟩ = some (.slice Ab nb cb) := (blk_cell H2.out.2 2).trans rfl
  have hup := upd_none (W := W2.drew) HM2.out nm (.agg #[.bool false, .slice none 0 0, .slice Ab nb cb])
  go_still_tail 6, (by kernel_rfl)
  change wpList _ _ _ _ _ W2.drew
  go_wp2
  refine ⟨rfl, .tuple #[], (by simp [results, Try.results35, go_sem]), rfl, setB_at (blk_lt (show W2.drew.heap[mb]? = _ from HM2.out)), fun base hle => ⟨?_, ?_, ?_, ?_, fun k hk => ?_⟩, ⟨?_, fun k hk hne _ => ?_⟩⟩
  · exact H2.out.1.os
  · exact H2.out.1.tape
  · exact H2.out.1.output
  · rw [setB_size]; exact H2.out.1.size
  · rw [setB_ne (by omega)]
    exact H2.out.1.block k (Nat.lt_of_lt_of_le hk (Nat.le_trans hle (Nat.le_of_lt (blk_lt HM.out))))
  · rw [setB_size]; exact H2.out.1.size
  · rw [setB_ne hne]
    exact H2.out.1.block k hk

set_option maxHeartbeats 8000000 in
set_option maxRecDepth 100000 in
theorem define_walk (w : World) (gq mb cl n c pb po : Nat) (nm : ByteArray) (at_ uses : Int) (opn out : Value) (l : List S26) (hA : k26.C w (some ⟨pb, po, none⟩) l.length l) (hn : n = l.length) (hc : n ≤ c) (hp : 0 < n) (hn2 : n ≤ 100000)
    (h0 : ∀ (h : 0 < l.length), l[0].f0 = 1 ∧ l[0].f3 = nm) (h1 : ∀ (h : 1 < l.length), isT 4 l[1] ⟨#[40]⟩ = false) (hnd : (nm.toList == [100, 101, 102, 105, 110, 101, 100]) = false) (A2 : Option Addr) (hA2 : A2 = (if c = 1 then some (⟨pb, po, none⟩ : Addr) else some ⟨pb, po + 5, none⟩))
    (hq : w.heap[gq]? = some (.cells (wkC false mb opn uses out) 41 (0, 0))) (hm : w.heap[mb]? = some (.map #[] cl)) :
    Calls Try.prog 33 #[.pointer (some ⟨gq, 0, none⟩), .slice (some ⟨pb, po, none⟩) n c, .int .i64 at_] w fun e w' => e = .returned (.tuple #[]) ∧ (∃ cl', w'.heap[mb]? = some (.map #[⟨.string nm, macV A2 (n - 1) (c - 1), cl'⟩] (cl' + 1))) ∧ (∀ base, base ≤ mb → Below base w w') ∧ Told mb none w w' := by
  obtain ⟨b', o', HP⟩ := tok_cells hA
  have hl0 : 0 < l.length := by omega
  obtain ⟨e, q0, q1, q2, q3, q4⟩ := HP 0 hl0
  injection e with e
  injection e with e1 e2
  subst e1 e2
  rw [Nat.zero_mul, Nat.add_zero] at q0 q1 q2 q3 q4
  rw [(h0 hl0).1] at q0
  rw [(h0 hl0).2] at q3
  have H1 : Aside0 (1 < n → ∃ x : S26, isT 4 x ⟨#[40]⟩ = false ∧ w.cell? ⟨pb, po + 5, none⟩ = some (.int .i64 x.f0) ∧ w.cell? ⟨pb, po + 5 + 1, none⟩ = some (.int .i64 x.f1) ∧ w.cell? ⟨pb, po + 5 + 2, none⟩ = some (.int .i64 x.f2) ∧ w.cell? ⟨pb, po + 5 + 3, none⟩ = some (.string x.f3) ∧ w.cell? ⟨pb, po + 5 + 4, none⟩ = some (.int .i64 x.f4)) := ⟨fun h => by
    have hl1 : 1 < l.length := by omega
    obtain ⟨_, r0, r1, r2, r3, r4⟩ := HP 1 hl1
    exact ⟨l[1], h1 hl1, r0, r1, r2, r3, r4⟩⟩
  have HQ := Aside0.mk hq
  have HM := Aside0.mk hm
  have H3 := Aside0.mk q3
  have HA2 := Aside0.mk hA2
  clear hA2 q1 q2 q4 HP hA hn h0 h1 hq hm hl0
  go_enter Try.func33, Try.ntmps33
  go_upto_region 3 with fail
  rw [← HA2.out]
  obtain ⟨g6, hg6⟩ : ∃ g6, g6 = w.heap.size := ⟨_, rfl⟩
  rw [← hg6]
  refine wp_world (fun W => Aside0 (Below w.heap.size w W ∧ W.heap[g6]? = some (.cells #[.bool false, .slice none 0 0, .slice A2 (n - 1) (c - 1)] 62 (0, 0)))) ⟨below_alloc (Below.refl _ _) _, by rw [hg6]; exact blk_new _ _⟩ (fun W1 HX => ?_)
  clear hg6 q0 q3
  by_cases hn1 : 1 < n
  · obtain ⟨x, hx, p0, p1, p2, p3, p4⟩ := H1.out hn1
    have d1 : ((n : Int) > (1 : Int)) = True := eq_true (by omega)
    have d2 : ((1 : Int) < (n : Int)) = True := eq_true (by omega)
    have HMW := Aside0.mk (fun W => mark_walk x ⟨#[40]⟩ W)
    rw [hx] at HMW
    have SB := Aside0.mk (fun (W : World) (hb : Below W1.heap.size W1 W) => (⟨pw_cell_below (below_then HX.out.1 HX.out.1.size hb) p0, pw_cell_below (below_then HX.out.1 HX.out.1.size hb) p1, pw_cell_below (below_then HX.out.1 HX.out.1.size hb) p2, pw_cell_below (below_then HX.out.1 HX.out.1.size hb) p3, pw_cell_below (below_then HX.out.1 HX.out.1.size hb) p4⟩ : W.cell? ⟨pb, po + 5, none⟩ = some (.int .i64 x.f0) ∧ W.cell? ⟨pb, po + 5 + 1, none⟩ = some (.int .i64 x.f1) ∧ W.cell? ⟨pb, po + 5 + 2, none⟩ = some (.int .i64 x.f2) ∧ W.cell? ⟨pb, po + 5 + 3, none⟩ = some (.string x.f3) ∧ W.cell? ⟨pb, po + 5 + 4, none⟩ = some (.int .i64 x.f4)))
    clear p0 p1 p2 p3 p4 hx
    refine wp_region_quietC (fun W => Below W1.heap.size W1 W) (by kernel_rfl) (by kernel_rfl) (below_drew (Below.refl _ _)) ?_
    go_big_quiet_want
    go_big_quiet_op
    go_big_quiet_on
    go_big_quiet_want
    refine ⟨.int .i64 (n : Int), fun W hW => (by simp [Oper.quietAt, Oper.quietUpon, go_sem]), ?_⟩
    simp only [Act.put, List.setIfInBounds_toArray, List.set_cons_zero, List.set_cons_succ]
    go_big_quiet_on
    go_big_quiet_want
    refine ⟨.bool true, fun W hW => (by simp [Oper.quietAt, Oper.quietUpon, go_sem, d1, d2]), ?_⟩
    simp only [Act.put, List.setIfInBounds_toArray, List.set_cons_zero, List.set_cons_succ]
    go_big_quiet_on
    go_big_quiet_want
    go_big_quiet_op
    go_big_quiet_on
    go_big_quiet_want
    go_big_quiet_op
    go_big_quiet_on
    go_big_quiet_want
    refine ⟨.pointer (some ⟨pb, po + 5, none⟩), fun W hW => (by simp [Oper.quietAt, Oper.quietUpon, go_sem, d1, d2, hn1]), ?_⟩
    simp only [Act.put, List.setIfInBounds_toArray, List.set_cons_zero, List.set_cons_succ]
    go_big_quiet_on
    go_big_quiet_want
    refine ⟨tokV x, fun W hW => (by obtain ⟨b0, b1, b2, b3, b4⟩ := SB.out W hW; simp [Oper.quietAt, Oper.quietUpon, go_sem, b0, b1, b2, b3, b4]), ?_⟩
    simp only [Act.put, List.setIfInBounds_toArray, List.set_cons_zero, List.set_cons_succ]
    go_big_quiet_on
    go_big_quiet_want
    refine ⟨.bool false, fun W hW => ?_, ?_⟩
    · simp [Oper.quietAt, Oper.quietUpon, go_sem]
      exact (HMW.out W).mono (fun e w'' h => ⟨h.1, below_then hW hW.size h.2⟩)
    simp only [Act.put, List.setIfInBounds_toArray, List.set_cons_zero, List.set_cons_succ]
    go_big_quiet_on
    go_big_quiet_want
    refine ⟨.bool false, fun W hW => (by simp [Oper.quietAt, Oper.quietUpon, go_sem]), ?_⟩
    simp only [Act.put, List.setIfInBounds_toArray, List.set_cons_zero, List.set_cons_succ]
    go_big_quiet_on
    go_big_quiet_want
    go_big_quiet_op
    go_big_quiet_on
    repeat go_big_quiet_skip
    go_big_quiet_want
    refine ⟨.bool false, fun W hW => (by simp [Oper.quietAt, Oper.quietUpon, go_sem]), ?_⟩
    simp only [Act.put, List.setIfInBounds_toArray, List.set_cons_zero, List.set_cons_succ]
    go_big_quiet_on
    refine wpQuiet_nil ?_
    intro w5 hB5
    have hW5 : Below w.heap.size w w5 ∧ w5.heap[g6]? = some (.cells #[.bool false, .slice none 0 0, .slice A2 (n - 1) (c - 1)] 62 (0, 0)) := ⟨below_then HX.out.1 HX.out.1.size hB5, blk_below HX.out.2 hB5⟩
    clear hB5 SB
    have HW5 := Aside0.mk hW5
    have r3 : w5.cell? ⟨pb, po + 3, none⟩ = some (.string nm) := pw_cell_below HW5.out.1 H3.out
    have n0 : w5.cell? ⟨g6, 0, none⟩ = some (.bool false) := (blk_cell HW5.out.2 0).trans rfl
    have n1 : w5.cell? ⟨g6, 1, none⟩ = some (.slice none 0 0) := (blk_cell HW5.out.2 1).trans rfl
    have n2 : w5.cell? ⟨g6, 2, none⟩ = some (.slice A2 (n - 1) (c - 1)) := (blk_cell HW5.out.2 2).trans rfl
    have HPW := Aside0.mk (put_walk w5.drew gq mb cl (n - 1) (c - 1) A2 nm at_ uses opn out (show w5.drew.heap[gq]? = _ from blk_below HQ.out HW5.out.1.drew) (show w5.drew.heap[mb]? = _ from (HW5.out.1.block mb (blk_lt HM.out)).trans HM.out))
    clear hW5
    go_upto_region 8 with fail
    go_still_tail 7, (by kernel_rfl)
    change wpList _ _ _ _ _ w5.drew
    go_wp2_with (go_at_call 35; refine HPW.out.mono ?_; rintro e w6 ⟨rfl, hm6, hb6, ht6⟩; have H6 := Aside0.mk (And.intro hm6 (And.intro hb6 ht6)); clear hm6 hb6 ht6)
    refine ⟨rfl, .tuple #[], (by simp [results, Try.results33, go_sem]), rfl, ⟨cl, H6.out.1⟩, fun base hle => ((below_then (Below.refl base w) (Nat.le_trans hle (Nat.le_of_lt (blk_lt HM.out))) HW5.out.1).trans (below_drew (Below.refl _ _))).trans (H6.out.2.1 base hle), ((Told.refl mb none w).below (HW5.out.1.drew)).trans H6.out.2.2⟩
  · have d1 : ((n : Int) > (1 : Int)) = False := eq_false (by omega)
    have d2 : ((1 : Int) < (n : Int)) = False := eq_false (by omega)
    go_quiet (fail)
    obtain ⟨w5, hw5⟩ : ∃ w5, w5 = W1.drewN nq := ⟨_, rfl⟩
    rw [← hw5]
    have hW5 : Below w.heap.size w w5 ∧ w5.heap[g6]? = some (.cells #[.bool false, .slice none 0 0, .slice A2 (n - 1) (c - 1)] 62 (0, 0)) := by
      rw [hw5]
      exact ⟨below_then HX.out.1 HX.out.1.size (pw_below_drewN (Below.refl _ _) _), blk_drewN HX.out.2 _⟩
    clear hw5
    have HW5 := Aside0.mk hW5
    have r3 : w5.cell? ⟨pb, po + 3, none⟩ = some (.string nm) := pw_cell_below HW5.out.1 H3.out
    have n0 : w5.cell? ⟨g6, 0, none⟩ = some (.bool false) := (blk_cell HW5.out.2 0).trans rfl
    have n1 : w5.cell? ⟨g6, 1, none⟩ = some (.slice none 0 0) := (blk_cell HW5.out.2 1).trans rfl
    have n2 : w5.cell? ⟨g6, 2, none⟩ = some (.slice A2 (n - 1) (c - 1)) := (blk_cell HW5.out.2 2).trans rfl
    have HPW := Aside0.mk (put_walk w5.drew gq mb cl (n - 1) (c - 1) A2 nm at_ uses opn out (show w5.drew.heap[gq]? = _ from blk_below HQ.out HW5.out.1.drew) (show w5.drew.heap[mb]? = _ from (HW5.out.1.block mb (blk_lt HM.out)).trans HM.out))
    clear hW5
    go_upto_region 8 with fail
    go_still_tail 7, (by kernel_rfl)
    change wpList _ _ _ _ _ w5.drew
    go_wp2_with (go_at_call 35; refine HPW.out.mono ?_; rintro e w6 ⟨rfl, hm6, hb6, ht6⟩; have H6 := Aside0.mk (And.intro hm6 (And.intro hb6 ht6)); clear hm6 hb6 ht6)
    refine ⟨rfl, .tuple #[], (by simp [results, Try.results33, go_sem]), rfl, ⟨cl, H6.out.1⟩, fun base hle => ((below_then (Below.refl base w) (Nat.le_trans hle (Nat.le_of_lt (blk_lt HM.out))) HW5.out.1).trans (below_drew (Below.refl _ _))).trans (H6.out.2.1 base hle), ((Told.refl mb none w).below (HW5.out.1.drew)).trans H6.out.2.2⟩
end Go.Proofs.Ytlbiideeljbhlaa.Pr
