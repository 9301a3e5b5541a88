/- How a row is done by a closure: all. Condition: a row within the form's reach that ends with its only end. -/
import Derived.Test.YtlbiideeljbhlaaPrG
import Derived.Defers
import Derived.Recover
set_option linter.unusedSimpArgs false
set_option linter.unusedVariables false
namespace Go.Proofs.Ytlbiideeljbhlaa.Pr
open Go.RowKit Go.BigFrame Go.Proofs.YtlbiideeljbhlaaW.PrintWords Go.Proofs.YtlbiideeljbhlaaW.PrintLast Go.Proofs.YtlbiideeljbhlaaW.PrintMore Go.Proofs.Ytlbiideeljbhlaa.PPrepSkips

theorem catch_idle (p0 p1 p2 : Addr) (w : World) :
    CallsD Try.prog 27 #[.pointer (some p0), .pointer (some p1), .pointer (some p2)] .returning w fun e u' w' => e = .returned (.tuple #[]) ∧ u' = .returning ∧ w' = w := by
  refine callsD_of_wpS Try.func27 rfl fun c₀ cs hu => ?_
  apply wpS_seq
  apply wpS_region
  simp [wpOpsS, go_sem, recoverD, hu, Try.ntmps27, Exit.thenS]
  apply wpS_seq
  apply wpS_region
  simp [wpOpsS, go_sem, recoverD, hu, Try.ntmps27, Exit.thenS]
  refine wpS_cond (t := false) (by simp [Act.eval, Array.replicate]) ?_
  simp only [Bool.false_eq_true, if_false]
  refine wpS_of_wp (wp_skip ?_)
  cases c₀
  simp_all [bodyPostS, results, Try.results27]

theorem C_init {w : World} {A : Option Addr} {l : List S26} {x : S26} (h : k26.C w A (l ++ [x]).length (l ++ [x])) : k26.C w A l.length l := by
  obtain ⟨h1, h2, h3⟩ := h
  have hl : (l ++ [x]).length = l.length + 1 := by simp
  refine ⟨rfl, by rw [hl] at h2; omega, fun hp => ?_⟩
  obtain ⟨ad, e, hc⟩ := h3 (by rw [hl]; omega)
  exact ⟨ad, e, fun j p hj => hc j p (by rw [List.getElem?_append_left (by have := (List.getElem?_eq_some_iff.1 hj).1; omega)]; exact hj)⟩

/-- What a closure does of a row (all but its end): this comes of it. -/
def Does (k : Nat) (w : World) (inl : Bool) (l : List S26) (en : S26) (res : List S26) : Prop :=
  ∀ (W : World) (gq mb cl : Nat) (A : Option Addr) (c : Nat), Below w.heap.size w W → w.heap.size ≤ gq → w.heap.size ≤ mb → W.heap[gq]? = some (.cells (wkC inl mb (.slice none 0 0) 0 (.slice none 0 0)) 41 (0, 0)) → W.heap[mb]? = some (.map #[] cl) → k26.C W A l.length l → l.length ≤ c →
    Calls Try.prog k #[.pointer (some ⟨gq, 0, none⟩), .slice A l.length c, tokV en] W fun e w' => e = .returned (.tuple #[]) ∧ ∃ mb' opn' uses' O o, w'.heap[gq]? = some (.cells (wkC inl mb' opn' uses' (.slice O res.length o)) 41 (0, 0)) ∧ k26.R 26 w' w.heap.size (fun _ => True) (.slice O res.length o) res ∧ Below w.heap.size W w' ∧ Told gq none W w'

set_option maxHeartbeats 4000000 in
set_option maxRecDepth 100000 in
theorem all_walk14 (w : World) (inl : Bool) (A : Option Addr) (n c : Nat) (l : List S26) (en : S26) (res : List S26) (hA : k26.C w A (l ++ [en]).length (l ++ [en])) (hn : n = l.length) (hn2 : n + 1 ≤ 2932031007401) (hc : n + 1 ≤ c) (h0 : ∀ x, x ∈ l → x.f0 ≠ 0) (h1 : en.f0 = 0) (hres : res.length ≤ 8192) (hdo : Does 14 w inl l en res) :
    Calls Try.prog 13 #[.slice A (n + 1) c, .bool inl, .func (.func 14) #[] #[]] w fun e w' => ∃ O o, e = .returned (.tuple #[.slice O (res.length + 1) o, .int .i64 0, .int .i64 0]) ∧ k26.R 26 w' w.heap.size (fun _ => True) (.slice O (res.length + 1) o) (res ++ [en]) ∧ Below w.heap.size w w' := by
  have hmf : ∀ (fn : Fn) (first cap : Array Value) (w : World), (Instr.makeFunc fn first cap).run Try.prog w = .ok (.func fn first cap) w := fun _ _ _ _ => rfl
  have hst := @store_func Try.prog
  have hmm := @run_makeMap Try.prog
  have HIX : Aside0 (∀ W, Below w.heap.size w W → Calls Try.prog 25 #[.slice A (n + 1) c, .func (.func 26) #[] #[]] W fun e w' => e = .returned (.int .i64 (n : Int)) ∧ Below W.heap.size W w') := ⟨fun W hb => by
    have h := index_walk W A (n + 1) c (l ++ [en]) (Kd.C_below hA hb) (by rw [List.length_append, hn]; rfl) (by omega) (fun i hi hlt => by rw [List.getElem_append_left (by omega)]; exact h0 _ (List.getElem_mem _)) (fun hi => by rw [List.getElem_append_right (by omega)]; simp [hn, h1]) (by omega)
    simpa using h⟩
  have HCL : Aside0 (∀ W, Below w.heap.size w W → Calls Try.prog 28 #[.slice A (n + 1) c] W fun e w' => ∃ A2 c2, e = .returned (.slice A2 (n + 1) c2) ∧ k26.R 26 w' W.heap.size (fun _ => True) (.slice A2 (n + 1) c2) (l ++ [en]) ∧ Below W.heap.size W w') := ⟨fun W hb => by
    have hln : (l ++ [en]).length = n + 1 := by rw [List.length_append, hn]; rfl
    have h := clone_walk W A c (l ++ [en]) (Kd.C_below hA hb) (by omega)
    rw [hln] at h
    refine h.mono ?_
    rintro e w' ⟨v, rfl, hR, hB⟩
    obtain ⟨A2, c2, e2⟩ := Kd.R_slice hR
    rw [hln] at e2
    subst e2
    exact ⟨A2, c2, rfl, hR, hB⟩⟩
  have HDO := Aside0.mk hdo
  have HN := Aside0.mk hn
  clear hA h0 h1 hdo hn
  have d0 : ((n : Int) < (0 : Int)) = False := eq_false (by omega)
  go_enter_defers Try.func13, Try.ntmps13
  go_upto_region 1 with fail
  obtain ⟨g6, hg6⟩ : ∃ g6, g6 = w.heap.size := ⟨_, rfl⟩
  rw [← hg6]
  refine wp_world (fun W => Aside0 (Below w.heap.size w W ∧ W.heap[g6]? = some (.cells #[.slice none 0 0] 22 (0, 0)) ∧ W.heap[g6 + 1]? = some (.cells #[.int .i64 0] 28 (0, 0)) ∧ W.heap[g6 + 1 + 1]? = some (.cells #[.int .i64 0] 3 (0, 0)))) ⟨below_alloc (below_alloc (below_alloc (Below.refl _ _) _) _) _, blk_alloc (blk_alloc (by rw [hg6]; exact blk_new _ _) _) _, blk_alloc (by have h := blk_new (w.alloc (.cells #[.slice none 0 0] 22)) (.cells #[.int .i64 0] 28); rwa [show (w.alloc (.cells #[.slice none 0 0] 22)).heap.size = g6 + 1 by rw [hg6]; simp] at h) _, by have h := blk_new ((w.alloc (.cells #[.slice none 0 0] 22)).alloc (.cells #[.int .i64 0] 28)) (.cells #[.int .i64 0] 3); rwa [show ((w.alloc (.cells #[.slice none 0 0] 22)).alloc (.cells #[.int .i64 0] 28)).heap.size = g6 + 1 + 1 by rw [hg6]; simp] at h⟩ (fun W0 H0 => ?_)
  have HG6 := Aside0.mk hg6
  clear hg6
  go_upto_region 2 with (go_at_call 25; refine (HIX.out _ H0.out.1).mono ?_; rintro e w1 ⟨rfl, hB⟩; have HB1 := Aside0.mk hB; clear hB)
  have H1 : Aside0 (Below w.heap.size w w1 ∧ w1.heap[g6]? = some (.cells #[.slice none 0 0] 22 (0, 0)) ∧ w1.heap[g6 + 1]? = some (.cells #[.int .i64 0] 28 (0, 0)) ∧ w1.heap[g6 + 1 + 1]? = some (.cells #[.int .i64 0] 3 (0, 0))) := ⟨below_then H0.out.1 H0.out.1.size HB1.out, blk_below H0.out.2.1 HB1.out, blk_below H0.out.2.2.1 HB1.out, blk_below H0.out.2.2.2 HB1.out⟩
  clear H0 HB1
  go_upto_region 5 with fail
  go_upto_region 6 with (go_at_call 28; refine (HCL.out _ H1.out.1).mono ?_; rintro e w2 ⟨A2, c2, rfl, hR, hB⟩; have H2' := Aside0.mk (And.intro hR hB); clear hR hB)
  have H2 : Aside0 ((Below w.heap.size w w2 ∧ w2.heap[g6]? = some (.cells #[.slice none 0 0] 22 (0, 0)) ∧ w2.heap[g6 + 1]? = some (.cells #[.int .i64 0] 28 (0, 0)) ∧ w2.heap[g6 + 1 + 1]? = some (.cells #[.int .i64 0] 3 (0, 0))) ∧ k26.R 26 w2 w.heap.size (fun _ => True) (.slice A2 (n + 1) c2) (l ++ [en])) := ⟨⟨below_then H1.out.1 H1.out.1.size H2'.out.2, blk_below H1.out.2.1 H2'.out.2, blk_below H1.out.2.2.1 H2'.out.2, blk_below H1.out.2.2.2 H2'.out.2⟩, Kd.R_lower H2'.out.1 H1.out.1.size⟩
  clear H1 H2' hmf
  obtain ⟨ab, ao, HP⟩ := tok_cells (Kd.R_reads' H2.out.2).2.2
  have hln : n < (l ++ [en]).length := by rw [List.length_append, HN.out]; simp
  obtain ⟨rfl, p0, p1, p2, p3, p4⟩ := HP n hln
  have hen : (l ++ [en])[n] = en := by rw [List.getElem_append_right (by rw [HN.out]; exact Nat.le_refl _)]; simp [HN.out]
  rw [hen] at p0 p1 p2 p3 p4
  clear HP hln hen
  go_upto_region 7 with fail
  obtain ⟨g10, hg10⟩ : ∃ g10, g10 = w2.heap.size := ⟨_, rfl⟩
  rw [← hg10]
  refine wp_world (fun W => Aside0 ((Below w.heap.size w W ∧ W.heap[g6]? = some (.cells #[.slice none 0 0] 22 (0, 0)) ∧ W.heap[g6 + 1]? = some (.cells #[.int .i64 0] 28 (0, 0)) ∧ W.heap[g6 + 1 + 1]? = some (.cells #[.int .i64 0] 3 (0, 0))) ∧ k26.R 26 W w.heap.size (fun _ => True) (.slice (some ⟨ab, ao, none⟩) (n + 1) c2) (l ++ [en]) ∧ W.heap[g10]? = some (.cells (tokC en) 26 (0, 0)))) ⟨⟨below_then H2.out.1.1 H2.out.1.1.size (below_alloc (Below.refl _ _) _), blk_alloc H2.out.1.2.1 _, blk_alloc H2.out.1.2.2.1 _, blk_alloc H2.out.1.2.2.2 _⟩, Kd.R_below H2.out.2 (below_alloc (Below.refl _ _) _), by rw [hg10]; exact blk_new _ _⟩ (fun W3 H3 => ?_)
  clear hg10 H2 p0 p1 p2 p3 p4
  go_upto_region 8 with fail
  obtain ⟨gm, hgm⟩ : ∃ gm, gm = W3.heap.size := ⟨_, rfl⟩
  rw [← hgm]
  refine wp_world (fun W => Aside0 ((Below w.heap.size w W ∧ W.heap[g6]? = some (.cells #[.slice none 0 0] 22 (0, 0)) ∧ W.heap[g6 + 1]? = some (.cells #[.int .i64 0] 28 (0, 0)) ∧ W.heap[g6 + 1 + 1]? = some (.cells #[.int .i64 0] 3 (0, 0))) ∧ k26.R 26 W w.heap.size (fun _ => True) (.slice (some ⟨ab, ao, none⟩) (n + 1) c2) (l ++ [en]) ∧ W.heap[g10]? = some (.cells (tokC en) 26 (0, 0)) ∧ W.heap[gm]? = some (.map #[] 0) ∧ W.heap[gm + 1]? = some (.cells (wkC inl gm (.slice none 0 0) 0 (.slice none 0 0)) 41 (0, 0)) ∧ w.heap.size ≤ gm)) ⟨⟨below_then H3.out.1.1 H3.out.1.1.size (below_alloc (below_alloc (Below.refl _ _) _) _), blk_alloc (blk_alloc H3.out.1.2.1 _) _, blk_alloc (blk_alloc H3.out.1.2.2.1 _) _, blk_alloc (blk_alloc H3.out.1.2.2.2 _) _⟩, Kd.R_below H3.out.2.1 (below_alloc (below_alloc (Below.refl _ _) _) _), blk_alloc (blk_alloc H3.out.2.2 _) _, blk_alloc (by rw [hgm]; exact blk_new _ _) _, by have h := blk_new (W3.alloc (.map #[] 0)) (.cells (wkC inl gm (.slice none 0 0) 0 (.slice none 0 0)) 41); rwa [show (W3.alloc (.map #[] 0)).heap.size = gm + 1 by rw [hgm]; simp] at h, by rw [hgm]; exact H3.out.1.1.size⟩ (fun W4 H4 => ?_)
  clear hgm H3 hmm
  have HDD : Aside0 (Calls Try.prog 14 #[.pointer (some ⟨gm + 1, 0, none⟩), .slice (some ⟨ab, ao, none⟩) n c2, tokV en] W4.drew fun e w' => e = .returned (.tuple #[]) ∧ ∃ mb' opn' uses' O o, w'.heap[gm + 1]? = some (.cells (wkC inl mb' opn' uses' (.slice O res.length o)) 41 (0, 0)) ∧ k26.R 26 w' w.heap.size (fun _ => True) (.slice O res.length o) res ∧ Below w.heap.size W4.drew w' ∧ Told (gm + 1) none W4.drew w') := ⟨by
    have h := HDO.out W4.drew (gm + 1) gm 0 (some ⟨ab, ao, none⟩) c2 H4.out.1.1.drew (by have := H4.out.2.2.2.2.2; omega) H4.out.2.2.2.2.2 H4.out.2.2.2.2.1 H4.out.2.2.2.1 (C_init (Kd.R_reads' (Kd.R_drew H4.out.2.1)).2.2) (by have := (Kd.R_reads' H4.out.2.1).2.1; rw [← HN.out]; omega)
    rw [← HN.out] at h
    exact h⟩
  have z0 : W4.cell? ⟨g10, 0, none⟩ = some (.int .i64 en.f0) := (blk_cell H4.out.2.2.1 0).trans rfl
  have z1 : W4.cell? ⟨g10, 1, none⟩ = some (.int .i64 en.f1) := (blk_cell H4.out.2.2.1 1).trans rfl
  have z2 : W4.cell? ⟨g10, 2, none⟩ = some (.int .i64 en.f2) := (blk_cell H4.out.2.2.1 2).trans rfl
  have z3 : W4.cell? ⟨g10, 3, none⟩ = some (.string en.f3) := (blk_cell H4.out.2.2.1 3).trans rfl
  have z4 : W4.cell? ⟨g10, 4, none⟩ = some (.int .i64 en.f4) := (blk_cell H4.out.2.2.1 4).trans rfl
  have hnc : n ≤ c2 := by have := (Kd.R_reads' H4.out.2.1).2.1; omega
  have d2 : ((n : Int) ≤ (c2 : Int)) = True := eq_true (by omega)
  have hwr : IntKind.i64.wrap (n : Int) = (n : Int) := by rw [IntKind.wrap_i64]; omega
  go_still_tail 8, (by kernel_rfl)
  change wpList _ _ _ _ _ W4.drew
  go_upto_region 9 with (go_at_call 14; refine HDD.out.mono ?_; rintro e w5 ⟨rfl, mb', opn', uses', O, o, hq5, hR5, hB5, hT5⟩; have H5 := Aside0.mk (And.intro hq5 (And.intro hR5 (And.intro hB5 hT5))); clear hq5 hR5 hB5 hT5)
  clear z0 z1 z2 z3 z4 hwr HDD
  obtain ⟨hbl4, h46, h47, h48⟩ := H4.out.1
  have keep : ∀ (g t : Nat) (cs : Array Value), W4.heap[g]? = some (.cells cs t (0, 0)) → t ≠ 41 → w5.heap[g]? = some (.cells cs t (0, 0)) := fun g t cs h ht => (H5.out.2.2.2.block g (blk_lt h) (blk_ne h H4.out.2.2.2.2.1 ht) (by simp)).trans h
  have b6 := keep g6 22 _ h46 (by decide)
  have b7 := keep (g6 + 1) 28 _ h47 (by decide)
  have b8 := keep (g6 + 1 + 1) 3 _ h48 (by decide)
  have b10 := keep g10 26 _ H4.out.2.2.1 (by decide)
  have H6 := Aside0.mk (And.intro b6 (And.intro b7 (And.intro b8 b10)))
  have HB5 := Aside0.mk (hbl4.trans ((below_drew (Below.refl w.heap.size W4)).trans H5.out.2.2.1))
  have z0 : w5.cell? ⟨g10, 0, none⟩ = some (.int .i64 en.f0) := (blk_cell b10 0).trans rfl
  have z1 : w5.cell? ⟨g10, 1, none⟩ = some (.int .i64 en.f1) := (blk_cell b10 1).trans rfl
  have z2 : w5.cell? ⟨g10, 2, none⟩ = some (.int .i64 en.f2) := (blk_cell b10 2).trans rfl
  have z3 : w5.cell? ⟨g10, 3, none⟩ = some (.string en.f3) := (blk_cell b10 3).trans rfl
  have z4 : w5.cell? ⟨g10, 4, none⟩ = some (.int .i64 en.f4) := (blk_cell b10 4).trans rfl
  have cq4 : w5.cell? ⟨gm + 1, 4, none⟩ = some (.slice O res.length o) := (blk_cell H5.out.1 4).trans rfl
  have cq4' : (w5.alloc (.cells #[.int .i64 en.f0, .int .i64 en.f1, .int .i64 en.f2, .string en.f3, .int .i64 en.f4] 26)).cell? ⟨gm + 1, 4, none⟩ = some (.slice O res.length o) := (blk_cell (blk_alloc H5.out.1 _) 4).trans rfl
  clear keep b6 b7 b8 b10 h46 h47 h48 hbl4 hnc d2
  have HSZ := Aside0.mk (show w.heap.size ≤ w5.drew.heap.size from HB5.out.size)
  refine wp_region_noPanic ?_
  go_region_law (first
    | (refine Kd.R_append_step k26 (w0 := w) (W := w5.drew) w.heap.size rfl (.tmp 48) (.tmp 50) 22 26 (.agg #[(.int .i64 0), (.int .i64 0), (.int .i64 0), (.string ⟨#[]⟩), (.int .i64 0)]) 48 rfl Try.underlying22 info26 rfl k26_sz (by decide) (.slice O res.length o) res en [.int .i64 en.f0, .int .i64 en.f1, .int .i64 en.f2, .string en.f3, .int .i64 en.f4] (fun _ => True) (fun _ => False) (by simp [Act.eval, Act.put]) (by simp [Act.eval, Act.put]) (k26_mkM _ _ _ en) (fun k hk => hk.elim) (fun _ _ => trivial) (Kd.R_drew H5.out.2.1) HB5.out.drew HSZ.out (by omega) ?_; intro v1 w7 hR7 hB7 hG7 hA7; obtain ⟨A7, c7, e⟩ := Kd.R_slice hR7; rw [List.length_append, List.length_singleton] at e; subst e; have b6 := blk_grown (show w5.drew.heap[g6]? = _ from H6.out.1) hG7 (Kd.R_ne (Kd.R_drew H5.out.2.1) (show w5.drew.heap[g6]? = _ from H6.out.1) (by decide)); have b7 := blk_grown (show w5.drew.heap[g6 + 1]? = _ from H6.out.2.1) hG7 (Kd.R_ne (Kd.R_drew H5.out.2.1) (show w5.drew.heap[g6 + 1]? = _ from H6.out.2.1) (by decide)); have b8 := blk_grown (show w5.drew.heap[g6 + 1 + 1]? = _ from H6.out.2.2.1) hG7 (Kd.R_ne (Kd.R_drew H5.out.2.1) (show w5.drew.heap[g6 + 1 + 1]? = _ from H6.out.2.2.1) (by decide)); have H7 := Aside0.mk (And.intro hR7 (And.intro hB7 (And.intro b6 (And.intro b7 b8)))); have u6 : w7.cell? ⟨g6, 0, none⟩ = some (.slice none 0 0) := (blk_cell b6 0).trans rfl; have u7 : w7.cell? ⟨g6 + 1, 0, none⟩ = some (.int .i64 0) := (blk_cell b7 0).trans rfl; have u8 : w7.cell? ⟨g6 + 1 + 1, 0, none⟩ = some (.int .i64 0) := (blk_cell b8 0).trans rfl; have f6 := blk_frozen b6 0; have f7 := blk_frozen b7 0; have f8 := blk_frozen b8 0; clear hR7 hB7 hG7 hA7 b6 b7 b8))
  all_goals (
    refine NoPanic.normal ?_
    go_wp2
    obtain ⟨hR7, hB7, b6, b7, b8⟩ := H7.out
    have hle6 : w.heap.size ≤ g6 := Nat.le_of_eq HG6.out.symm
    have B6 := blk_far (p := ⟨g6 + 1 + 1, 0, none⟩) (blk_far (p := ⟨g6 + 1, 0, none⟩) (blk_set b6 0 (.slice A7 (res.length + 1) c7)) (by show g6 ≠ g6 + 1; omega) (.int .i64 0)) (by show g6 ≠ g6 + 1 + 1; omega) (.int .i64 0)
    have B7 := blk_far (p := ⟨g6 + 1 + 1, 0, none⟩) (blk_set (blk_far (p := ⟨g6, 0, none⟩) b7 (by show g6 + 1 ≠ g6; omega) (.slice A7 (res.length + 1) c7)) 0 (.int .i64 0)) (by show g6 + 1 ≠ g6 + 1 + 1; omega) (.int .i64 0)
    have B8 := blk_set (blk_far (p := ⟨g6 + 1, 0, none⟩) (blk_far (p := ⟨g6, 0, none⟩) b8 (by show g6 + 1 + 1 ≠ g6; omega) (.slice A7 (res.length + 1) c7)) (by show g6 + 1 + 1 ≠ g6 + 1; omega) (.int .i64 0)) 0 (.int .i64 0)
    have hRF := Kd.R_set (Kd.R_set (Kd.R_set hR7 b6 (by show ∀ q, q ∈ [26] → q ≠ 22; decide) 0 (.slice A7 (res.length + 1) c7)) (blk_far (p := ⟨g6, 0, none⟩) b7 (by show g6 + 1 ≠ g6; omega) (.slice A7 (res.length + 1) c7)) (by show ∀ q, q ∈ [26] → q ≠ 28; decide) 0 (.int .i64 0)) (blk_far (p := ⟨g6 + 1, 0, none⟩) (blk_far (p := ⟨g6, 0, none⟩) b8 (by show g6 + 1 + 1 ≠ g6; omega) (.slice A7 (res.length + 1) c7)) (by show g6 + 1 + 1 ≠ g6 + 1; omega) (.int .i64 0)) (by show ∀ q, q ∈ [26] → q ≠ 3; decide) 0 (.int .i64 0)
    have hBF := ((hB7.setCell (p := ⟨g6, 0, none⟩) hle6 (.slice A7 (res.length + 1) c7)).setCell (p := ⟨g6 + 1, 0, none⟩) (Nat.le_succ_of_le hle6) (.int .i64 0)).setCell (p := ⟨g6 + 1 + 1, 0, none⟩) (Nat.le_succ_of_le (Nat.le_succ_of_le hle6)) (.int .i64 0)
    clear hR7 hB7 b6 b7 b8 u6 u7 u8 f6 f7 f8
    obtain ⟨W9, hW9⟩ : ∃ W9, W9 = ((w7.setCell ⟨g6, 0, none⟩ (.slice A7 (res.length + 1) c7)).setCell ⟨g6 + 1, 0, none⟩ (.int .i64 0)).setCell ⟨g6 + 1 + 1, 0, none⟩ (.int .i64 0) := ⟨_, rfl⟩
    rw [← hW9] at B6 B7 B8 hRF hBF ⊢
    clear hW9
    have v6 : W9.cell? ⟨g6, 0, none⟩ = some (.slice A7 (res.length + 1) c7) := (blk_cell B6 0).trans rfl
    have v7 : W9.cell? ⟨g6 + 1, 0, none⟩ = some (.int .i64 0) := (blk_cell B7 0).trans rfl
    have v8 : W9.cell? ⟨g6 + 1 + 1, 0, none⟩ = some (.int .i64 0) := (blk_cell B8 0).trans rfl
    refine leaves_cons (f := 27) (args := #[.pointer (some ⟨g6, 0, none⟩), .pointer (some ⟨g6 + 1, 0, none⟩), .pointer (some ⟨g6 + 1 + 1, 0, none⟩)]) (by simp) (by simp [go_sem]) ?_
    refine (catch_idle _ _ _ _).mono ?_
    rintro e u' w'' ⟨rfl, rfl, rfl⟩
    simp [Leaves, settle, results, Try.results13, go_sem, v6, v7, v8]
    exact ⟨A7, c7, ⟨rfl, rfl⟩, hRF, hBF⟩)

set_option maxHeartbeats 4000000 in
set_option maxRecDepth 100000 in
theorem all_walk20 (w : World) (inl : Bool) (A : Option Addr) (n c : Nat) (l : List S26) (en : S26) (res : List S26) (hA : k26.C w A (l ++ [en]).length (l ++ [en])) (hn : n = l.length) (hn2 : n + 1 ≤ 2932031007401) (hc : n + 1 ≤ c) (h0 : ∀ x, x ∈ l → x.f0 ≠ 0) (h1 : en.f0 = 0) (hres : res.length ≤ 8192) (hdo : Does 20 w inl l en res) :
    Calls Try.prog 13 #[.slice A (n + 1) c, .bool inl, .func (.func 20) #[] #[]] w fun e w' => ∃ O o, e = .returned (.tuple #[.slice O (res.length + 1) o, .int .i64 0, .int .i64 0]) ∧ k26.R 26 w' w.heap.size (fun _ => True) (.slice O (res.length + 1) o) (res ++ [en]) ∧ Below w.heap.size w w' := by
  have hmf : ∀ (fn : Fn) (first cap : Array Value) (w : World), (Instr.makeFunc fn first cap).run Try.prog w = .ok (.func fn first cap) w := fun _ _ _ _ => rfl
  have hst := @store_func Try.prog
  have hmm := @run_makeMap Try.prog
  have HIX : Aside0 (∀ W, Below w.heap.size w W → Calls Try.prog 25 #[.slice A (n + 1) c, .func (.func 26) #[] #[]] W fun e w' => e = .returned (.int .i64 (n : Int)) ∧ Below W.heap.size W w') := ⟨fun W hb => by
    have h := index_walk W A (n + 1) c (l ++ [en]) (Kd.C_below hA hb) (by rw [List.length_append, hn]; rfl) (by omega) (fun i hi hlt => by rw [List.getElem_append_left (by omega)]; exact h0 _ (List.getElem_mem _)) (fun hi => by rw [List.getElem_append_right (by omega)]; simp [hn, h1]) (by omega)
    simpa using h⟩
  have HCL : Aside0 (∀ W, Below w.heap.size w W → Calls Try.prog 28 #[.slice A (n + 1) c] W fun e w' => ∃ A2 c2, e = .returned (.slice A2 (n + 1) c2) ∧ k26.R 26 w' W.heap.size (fun _ => True) (.slice A2 (n + 1) c2) (l ++ [en]) ∧ Below W.heap.size W w') := ⟨fun W hb => by
    have hln : (l ++ [en]).length = n + 1 := by rw [List.length_append, hn]; rfl
    have h := clone_walk W A c (l ++ [en]) (Kd.C_below hA hb) (by omega)
    rw [hln] at h
    refine h.mono ?_
    rintro e w' ⟨v, rfl, hR, hB⟩
    obtain ⟨A2, c2, e2⟩ := Kd.R_slice hR
    rw [hln] at e2
    subst e2
    exact ⟨A2, c2, rfl, hR, hB⟩⟩
  have HDO := Aside0.mk hdo
  have HN := Aside0.mk hn
  clear hA h0 h1 hdo hn
  have d0 : ((n : Int) < (0 : Int)) = False := eq_false (by omega)
  go_enter_defers Try.func13, Try.ntmps13
  go_upto_region 1 with fail
  obtain ⟨g6, hg6⟩ : ∃ g6, g6 = w.heap.size := ⟨_, rfl⟩
  rw [← hg6]
  refine wp_world (fun W => Aside0 (Below w.heap.size w W ∧ W.heap[g6]? = some (.cells #[.slice none 0 0] 22 (0, 0)) ∧ W.heap[g6 + 1]? = some (.cells #[.int .i64 0] 28 (0, 0)) ∧ W.heap[g6 + 1 + 1]? = some (.cells #[.int .i64 0] 3 (0, 0)))) ⟨below_alloc (below_alloc (below_alloc (Below.refl _ _) _) _) _, blk_alloc (blk_alloc (by rw [hg6]; exact blk_new _ _) _) _, blk_alloc (by have h := blk_new (w.alloc (.cells #[.slice none 0 0] 22)) (.cells #[.int .i64 0] 28); rwa [show (w.alloc (.cells #[.slice none 0 0] 22)).heap.size = g6 + 1 by rw [hg6]; simp] at h) _, by have h := blk_new ((w.alloc (.cells #[.slice none 0 0] 22)).alloc (.cells #[.int .i64 0] 28)) (.cells #[.int .i64 0] 3); rwa [show ((w.alloc (.cells #[.slice none 0 0] 22)).alloc (.cells #[.int .i64 0] 28)).heap.size = g6 + 1 + 1 by rw [hg6]; simp] at h⟩ (fun W0 H0 => ?_)
  have HG6 := Aside0.mk hg6
  clear hg6
  go_upto_region 2 with (go_at_call 25; refine (HIX.out _ H0.out.1).mono ?_; rintro e w1 ⟨rfl, hB⟩; have HB1 := Aside0.mk hB; clear hB)
  have H1 : Aside0 (Below w.heap.size w w1 ∧ w1.heap[g6]? = some (.cells #[.slice none 0 0] 22 (0, 0)) ∧ w1.heap[g6 + 1]? = some (.cells #[.int .i64 0] 28 (0, 0)) ∧ w1.heap[g6 + 1 + 1]? = some (.cells #[.int .i64 0] 3 (0, 0))) := ⟨below_then H0.out.1 H0.out.1.size HB1.out, blk_below H0.out.2.1 HB1.out, blk_below H0.out.2.2.1 HB1.out, blk_below H0.out.2.2.2 HB1.out⟩
  clear H0 HB1
  go_upto_region 5 with fail
  go_upto_region 6 with (go_at_call 28; refine (HCL.out _ H1.out.1).mono ?_; rintro e w2 ⟨A2, c2, rfl, hR, hB⟩; have H2' := Aside0.mk (And.intro hR hB); clear hR hB)
  have H2 : Aside0 ((Below w.heap.size w w2 ∧ w2.heap[g6]? = some (.cells #[.slice none 0 0] 22 (0, 0)) ∧ w2.heap[g6 + 1]? = some (.cells #[.int .i64 0] 28 (0, 0)) ∧ w2.heap[g6 + 1 + 1]? = some (.cells #[.int .i64 0] 3 (0, 0))) ∧ k26.R 26 w2 w.heap.size (fun _ => True) (.slice A2 (n + 1) c2) (l ++ [en])) := ⟨⟨below_then H1.out.1 H1.out.1.size H2'.out.2, blk_below H1.out.2.1 H2'.out.2, blk_below H1.out.2.2.1 H2'.out.2, blk_below H1.out.2.2.2 H2'.out.2⟩, Kd.R_lower H2'.out.1 H1.out.1.size⟩
  clear H1 H2' hmf
  obtain ⟨ab, ao, HP⟩ := tok_cells (Kd.R_reads' H2.out.2).2.2
  have hln : n < (l ++ [en]).length := by rw [List.length_append, HN.out]; simp
  obtain ⟨rfl, p0, p1, p2, p3, p4⟩ := HP n hln
  have hen : (l ++ [en])[n] = en := by rw [List.getElem_append_right (by rw [HN.out]; exact Nat.le_refl _)]; simp [HN.out]
  rw [hen] at p0 p1 p2 p3 p4
  clear HP hln hen
  go_upto_region 7 with fail
  obtain ⟨g10, hg10⟩ : ∃ g10, g10 = w2.heap.size := ⟨_, rfl⟩
  rw [← hg10]
  refine wp_world (fun W => Aside0 ((Below w.heap.size w W ∧ W.heap[g6]? = some (.cells #[.slice none 0 0] 22 (0, 0)) ∧ W.heap[g6 + 1]? = some (.cells #[.int .i64 0] 28 (0, 0)) ∧ W.heap[g6 + 1 + 1]? = some (.cells #[.int .i64 0] 3 (0, 0))) ∧ k26.R 26 W w.heap.size (fun _ => True) (.slice (some ⟨ab, ao, none⟩) (n + 1) c2) (l ++ [en]) ∧ W.heap[g10]? = some (.cells (tokC en) 26 (0, 0)))) ⟨⟨below_then H2.out.1.1 H2.out.1.1.size (below_alloc (Below.refl _ _) _), blk_alloc H2.out.1.2.1 _, blk_alloc H2.out.1.2.2.1 _, blk_alloc H2.out.1.2.2.2 _⟩, Kd.R_below H2.out.2 (below_alloc (Below.refl _ _) _), by rw [hg10]; exact blk_new _ _⟩ (fun W3 H3 => ?_)
  clear hg10 H2 p0 p1 p2 p3 p4
  go_upto_region 8 with fail
  obtain ⟨gm, hgm⟩ : ∃ gm, gm = W3.heap.size := ⟨_, rfl⟩
  rw [← hgm]
  refine wp_world (fun W => Aside0 ((Below w.heap.size w W ∧ W.heap[g6]? = some (.cells #[.slice none 0 0] 22 (0, 0)) ∧ W.heap[g6 + 1]? = some (.cells #[.int .i64 0] 28 (0, 0)) ∧ W.heap[g6 + 1 + 1]? = some (.cells #[.int .i64 0] 3 (0, 0))) ∧ k26.R 26 W w.heap.size (fun _ => True) (.slice (some ⟨ab, ao, none⟩) (n + 1) c2) (l ++ [en]) ∧ W.heap[g10]? = some (.cells (tokC en) 26 (0, 0)) ∧ W.heap[gm]? = some (.map #[] 0) ∧ W.heap[gm + 1]? = some (.cells (wkC inl gm (.slice none 0 0) 0 (.slice none 0 0)) 41 (0, 0)) ∧ w.heap.size ≤ gm)) ⟨⟨below_then H3.out.1.1 H3.out.1.1.size (below_alloc (below_alloc (Below.refl _ _) _) _), blk_alloc (blk_alloc H3.out.1.2.1 _) _, blk_alloc (blk_alloc H3.out.1.2.2.1 _) _, blk_alloc (blk_alloc H3.out.1.2.2.2 _) _⟩, Kd.R_below H3.out.2.1 (below_alloc (below_alloc (Below.refl _ _) _) _), blk_alloc (blk_alloc H3.out.2.2 _) _, blk_alloc (by rw [hgm]; exact blk_new _ _) _, by have h := blk_new (W3.alloc (.map #[] 0)) (.cells (wkC inl gm (.slice none 0 0) 0 (.slice none 0 0)) 41); rwa [show (W3.alloc (.map #[] 0)).heap.size = gm + 1 by rw [hgm]; simp] at h, by rw [hgm]; exact H3.out.1.1.size⟩ (fun W4 H4 => ?_)
  clear hgm H3 hmm
  have HDD : Aside0 (Calls Try.prog 20 #[.pointer (some ⟨gm + 1, 0, none⟩), .slice (some ⟨ab, ao, none⟩) n c2, tokV en] W4.drew fun e w' => e = .returned (.tuple #[]) ∧ ∃ mb' opn' uses' O o, w'.heap[gm + 1]? = some (.cells (wkC inl mb' opn' uses' (.slice O res.length o)) 41 (0, 0)) ∧ k26.R 26 w' w.heap.size (fun _ => True) (.slice O res.length o) res ∧ Below w.heap.size W4.drew w' ∧ Told (gm + 1) none W4.drew w') := ⟨by
    have h := HDO.out W4.drew (gm + 1) gm 0 (some ⟨ab, ao, none⟩) c2 H4.out.1.1.drew (by have := H4.out.2.2.2.2.2; omega) H4.out.2.2.2.2.2 H4.out.2.2.2.2.1 H4.out.2.2.2.1 (C_init (Kd.R_reads' (Kd.R_drew H4.out.2.1)).2.2) (by have := (Kd.R_reads' H4.out.2.1).2.1; rw [← HN.out]; omega)
    rw [← HN.out] at h
    exact h⟩
  have z0 : W4.cell? ⟨g10, 0, none⟩ = some (.int .i64 en.f0) := (blk_cell H4.out.2.2.1 0).trans rfl
  have z1 : W4.cell? ⟨g10, 1, none⟩ = some (.int .i64 en.f1) := (blk_cell H4.out.2.2.1 1).trans rfl
  have z2 : W4.cell? ⟨g10, 2, none⟩ = some (.int .i64 en.f2) := (blk_cell H4.out.2.2.1 2).trans rfl
  have z3 : W4.cell? ⟨g10, 3, none⟩ = some (.string en.f3) := (blk_cell H4.out.2.2.1 3).trans rfl
  have z4 : W4.cell? ⟨g10, 4, none⟩ = some (.int .i64 en.f4) := (blk_cell H4.out.2.2.1 4).trans rfl
  have hnc : n ≤ c2 := by have := (Kd.R_reads' H4.out.2.1).2.1; omega
  have d2 : ((n : Int) ≤ (c2 : Int)) = True := eq_true (by omega)
  have hwr : IntKind.i64.wrap (n : Int) = (n : Int) := by rw [IntKind.wrap_i64]; omega
  go_still_tail 8, (by kernel_rfl)
  change wpList _ _ _ _ _ W4.drew
  go_upto_region 9 with (go_at_call 20; refine HDD.out.mono ?_; rintro e w5 ⟨rfl, mb', opn', uses', O, o, hq5, hR5, hB5, hT5⟩; have H5 := Aside0.mk (And.intro hq5 (And.intro hR5 (And.intro hB5 hT5))); clear hq5 hR5 hB5 hT5)
  clear z0 z1 z2 z3 z4 hwr HDD
  obtain ⟨hbl4, h46, h47, h48⟩ := H4.out.1
  have keep : ∀ (g t : Nat) (cs : Array Value), W4.heap[g]? = some (.cells cs t (0, 0)) → t ≠ 41 → w5.heap[g]? = some (.cells cs t (0, 0)) := fun g t cs h ht => (H5.out.2.2.2.block g (blk_lt h) (blk_ne h H4.out.2.2.2.2.1 ht) (by simp)).trans h
  have b6 := keep g6 22 _ h46 (by decide)
  have b7 := keep (g6 + 1) 28 _ h47 (by decide)
  have b8 := keep (g6 + 1 + 1) 3 _ h48 (by decide)
  have b10 := keep g10 26 _ H4.out.2.2.1 (by decide)
  have H6 := Aside0.mk (And.intro b6 (And.intro b7 (And.intro b8 b10)))
  have HB5 := Aside0.mk (hbl4.trans ((below_drew (Below.refl w.heap.size W4)).trans H5.out.2.2.1))
  have z0 : w5.cell? ⟨g10, 0, none⟩ = some (.int .i64 en.f0) := (blk_cell b10 0).trans rfl
  have z1 : w5.cell? ⟨g10, 1, none⟩ = some (.int .i64 en.f1) := (blk_cell b10 1).trans rfl
  have z2 : w5.cell? ⟨g10, 2, none⟩ = some (.int .i64 en.f2) := (blk_cell b10 2).trans rfl
  have z3 : w5.cell? ⟨g10, 3, none⟩ = some (.string en.f3) := (blk_cell b10 3).trans rfl
  have z4 : w5.cell? ⟨g10, 4, none⟩ = some (.int .i64 en.f4) := (blk_cell b10 4).trans rfl
  have cq4 : w5.cell? ⟨gm + 1, 4, none⟩ = some (.slice O res.length o) := (blk_cell H5.out.1 4).trans rfl
  have cq4' : (w5.alloc (.cells #[.int .i64 en.f0, .int .i64 en.f1, .int .i64 en.f2, .string en.f3, .int .i64 en.f4] 26)).cell? ⟨gm + 1, 4, none⟩ = some (.slice O res.length o) := (blk_cell (blk_alloc H5.out.1 _) 4).trans rfl
  clear keep b6 b7 b8 b10 h46 h47 h48 hbl4 hnc d2
  have HSZ := Aside0.mk (show w.heap.size ≤ w5.drew.heap.size from HB5.out.size)
  refine wp_region_noPanic ?_
  go_region_law (first
    | (refine Kd.R_append_step k26 (w0 := w) (W := w5.drew) w.heap.size rfl (.tmp 48) (.tmp 50) 22 26 (.agg #[(.int .i64 0), (.int .i64 0), (.int .i64 0), (.string ⟨#[]⟩), (.int .i64 0)]) 48 rfl Try.underlying22 info26 rfl k26_sz (by decide) (.slice O res.length o) res en [.int .i64 en.f0, .int .i64 en.f1, .int .i64 en.f2, .string en.f3, .int .i64 en.f4] (fun _ => True) (fun _ => False) (by simp [Act.eval, Act.put]) (by simp [Act.eval, Act.put]) (k26_mkM _ _ _ en) (fun k hk => hk.elim) (fun _ _ => trivial) (Kd.R_drew H5.out.2.1) HB5.out.drew HSZ.out (by omega) ?_; intro v1 w7 hR7 hB7 hG7 hA7; obtain ⟨A7, c7, e⟩ := Kd.R_slice hR7; rw [List.length_append, List.length_singleton] at e; subst e; have b6 := blk_grown (show w5.drew.heap[g6]? = _ from H6.out.1) hG7 (Kd.R_ne (Kd.R_drew H5.out.2.1) (show w5.drew.heap[g6]? = _ from H6.out.1) (by decide)); have b7 := blk_grown (show w5.drew.heap[g6 + 1]? = _ from H6.out.2.1) hG7 (Kd.R_ne (Kd.R_drew H5.out.2.1) (show w5.drew.heap[g6 + 1]? = _ from H6.out.2.1) (by decide)); have b8 := blk_grown (show w5.drew.heap[g6 + 1 + 1]? = _ from H6.out.2.2.1) hG7 (Kd.R_ne (Kd.R_drew H5.out.2.1) (show w5.drew.heap[g6 + 1 + 1]? = _ from H6.out.2.2.1) (by decide)); have H7 := Aside0.mk (And.intro hR7 (And.intro hB7 (And.intro b6 (And.intro b7 b8)))); have u6 : w7.cell? ⟨g6, 0, none⟩ = some (.slice none 0 0) := (blk_cell b6 0).trans rfl; have u7 : w7.cell? ⟨g6 + 1, 0, none⟩ = some (.int .i64 0) := (blk_cell b7 0).trans rfl; have u8 : w7.cell? ⟨g6 + 1 + 1, 0, none⟩ = some (.int .i64 0) := (blk_cell b8 0).trans rfl; have f6 := blk_frozen b6 0; have f7 := blk_frozen b7 0; have f8 := blk_frozen b8 0; clear hR7 hB7 hG7 hA7 b6 b7 b8))
  all_goals (
    refine NoPanic.normal ?_
    go_wp2
    obtain ⟨hR7, hB7, b6, b7, b8⟩ := H7.out
    have hle6 : w.heap.size ≤ g6 := Nat.le_of_eq HG6.out.symm
    have B6 := blk_far (p := ⟨g6 + 1 + 1, 0, none⟩) (blk_far (p := ⟨g6 + 1, 0, none⟩) (blk_set b6 0 (.slice A7 (res.length + 1) c7)) (by show g6 ≠ g6 + 1; omega) (.int .i64 0)) (by show g6 ≠ g6 + 1 + 1; omega) (.int .i64 0)
    have B7 := blk_far (p := ⟨g6 + 1 + 1, 0, none⟩) (blk_set (blk_far (p := ⟨g6, 0, none⟩) b7 (by show g6 + 1 ≠ g6; omega) (.slice A7 (res.length + 1) c7)) 0 (.int .i64 0)) (by show g6 + 1 ≠ g6 + 1 + 1; omega) (.int .i64 0)
    have B8 := blk_set (blk_far (p := ⟨g6 + 1, 0, none⟩) (blk_far (p := ⟨g6, 0, none⟩) b8 (by show g6 + 1 + 1 ≠ g6; omega) (.slice A7 (res.length + 1) c7)) (by show g6 + 1 + 1 ≠ g6 + 1; omega) (.int .i64 0)) 0 (.int .i64 0)
    have hRF := Kd.R_set (Kd.R_set (Kd.R_set hR7 b6 (by show ∀ q, q ∈ [26] → q ≠ 22; decide) 0 (.slice A7 (res.length + 1) c7)) (blk_far (p := ⟨g6, 0, none⟩) b7 (by show g6 + 1 ≠ g6; omega) (.slice A7 (res.length + 1) c7)) (by show ∀ q, q ∈ [26] → q ≠ 28; decide) 0 (.int .i64 0)) (blk_far (p := ⟨g6 + 1, 0, none⟩) (blk_far (p := ⟨g6, 0, none⟩) b8 (by show g6 + 1 + 1 ≠ g6; omega) (.slice A7 (res.length + 1) c7)) (by show g6 + 1 + 1 ≠ g6 + 1; omega) (.int .i64 0)) (by show ∀ q, q ∈ [26] → q ≠ 3; decide) 0 (.int .i64 0)
    have hBF := ((hB7.setCell (p := ⟨g6, 0, none⟩) hle6 (.slice A7 (res.length + 1) c7)).setCell (p := ⟨g6 + 1, 0, none⟩) (Nat.le_succ_of_le hle6) (.int .i64 0)).setCell (p := ⟨g6 + 1 + 1, 0, none⟩) (Nat.le_succ_of_le (Nat.le_succ_of_le hle6)) (.int .i64 0)
    clear hR7 hB7 b6 b7 b8 u6 u7 u8 f6 f7 f8
    obtain ⟨W9, hW9⟩ : ∃ W9, W9 = ((w7.setCell ⟨g6, 0, none⟩ (.slice A7 (res.length + 1) c7)).setCell ⟨g6 + 1, 0, none⟩ (.int .i64 0)).setCell ⟨g6 + 1 + 1, 0, none⟩ (.int .i64 0) := ⟨_, rfl⟩
    rw [← hW9] at B6 B7 B8 hRF hBF ⊢
    clear hW9
    have v6 : W9.cell? ⟨g6, 0, none⟩ = some (.slice A7 (res.length + 1) c7) := (blk_cell B6 0).trans rfl
    have v7 : W9.cell? ⟨g6 + 1, 0, none⟩ = some (.int .i64 0) := (blk_cell B7 0).trans rfl
    have v8 : W9.cell? ⟨g6 + 1 + 1, 0, none⟩ = some (.int .i64 0) := (blk_cell B8 0).trans rfl
    refine leaves_cons (f := 27) (args := #[.pointer (some ⟨g6, 0, none⟩), .pointer (some ⟨g6 + 1, 0, none⟩), .pointer (some ⟨g6 + 1 + 1, 0, none⟩)]) (by simp) (by simp [go_sem]) ?_
    refine (catch_idle _ _ _ _).mono ?_
    rintro e u' w'' ⟨rfl, rfl, rfl⟩
    simp [Leaves, settle, results, Try.results13, go_sem, v6, v7, v8]
    exact ⟨A7, c7, ⟨rfl, rfl⟩, hRF, hBF⟩)
end Go.Proofs.Ytlbiideeljbhlaa.Pr
