/- A channel's copy: the walk of chans.copied. Condition: at most 2^47/24 messages, each of at most 2^44 numbers. -/
import Derived.Test.YtieijoclahcipaaChB
import Derived.Deep.AppendLies
import Derived.Deep.RegionLaw
set_option linter.unusedSimpArgs false
set_option linter.unusedVariables false
namespace Go.Proofs.Ytieijoclahcipaa.Ch
open Go.RowKit Go.Proofs.YtieijoclahcipaaW.PrintWords Go.Proofs.YtieijoclahcipaaW.PrintLast Go.Proofs.YtieijoclahcipaaW.PrintMore Go.Proofs.Ytieijoclahcipaa.PChansPut

theorem queue_cell {w : World} {A : Option Addr} {n : Nat} {q : List (List Int)} (h : kd2.C w A n q) (i : Nat) (hi : i < q.length) : ∃ ad B c, A = some ad ∧ w.cell? (ad.add i) = some (.slice B q[i].length c) ∧ q[i].length ≤ c ∧ kd1.C w B q[i].length q[i] := by
  obtain ⟨hl, _, hr⟩ := h
  obtain ⟨ad, rfl, hc⟩ := hr (by omega)
  obtain ⟨cs, _, hk, hcc⟩ := hc i _ (List.getElem?_eq_getElem hi)
  obtain ⟨B, c, rfl, hlc, hC⟩ := hk
  have h1 := hcc 0 _ rfl
  exact ⟨ad, B, c, rfl, by simpa [Kd.slice] using h1, hlc, hC⟩

set_option maxHeartbeats 1600000 in
set_option maxRecDepth 100000 in
theorem copied_walk (w : World) (sh : Int) (A : Option Addr) (c : Nat) (q : List (List Int)) (h : kd2.C w A q.length q) (hq : q.length ≤ 5864062014805) (hm : ∀ m, m ∈ q → m.length < 17592186044416) :
    Calls Try.prog 21 #[.agg #[.int .i64 sh, .slice A q.length c]] w fun e w' => ∃ v, e = .returned (.agg #[.int .i64 sh, v]) ∧ kd2.R 29 w' w.heap.size (fun _ => True) v q ∧ Below w.heap.size w w' := by
  have H := Aside0.mk h
  have HM := Aside0.mk hm
  clear h hm
  go_enter Try.func21, Try.ntmps21
  go_wp2
  go_loopg [12] q.length (fun gg s12 wr => ∃ (kk : Nat) (vq : Value), kk ≤ q.length ∧ q.length - kk ≤ gg ∧ s12 = .int .i64 kk ∧ Aside0 (wr.heap[w.heap.size + 1 + 1]? = some (.cells #[.int .i64 sh, vq] 27 (0, 0)) ∧ wr.heap[w.heap.size + 1]? = some (.cells #[.int .i64 0, .slice none 0 0] 27 (0, 0)) ∧ kd2.R 29 wr w.heap.size (fun _ => True) vq (q.take kk) ∧ Below w.heap.size w wr))
  case atStart => 
    refine ⟨0, .slice none 0 0, Nat.zero_le _, Nat.le_of_eq (Nat.sub_zero _), rfl, ⟨?_, ?_, ?_, ?_⟩⟩
    · have := blk_new ((w.alloc (Obj.cells #[Value.int IntKind.i64 sh, Value.slice A q.length c] 27)).alloc (Obj.cells #[Value.int IntKind.i64 0, Value.slice none 0 0] 27)) (Obj.cells #[Value.int IntKind.i64 sh, Value.slice none 0 0] 27)
      simpa using this
    · have := blk_alloc (blk_new (w.alloc (Obj.cells #[Value.int IntKind.i64 sh, Value.slice A q.length c] 27)) (Obj.cells #[Value.int IntKind.i64 0, Value.slice none 0 0] 27)) (Obj.cells #[Value.int IntKind.i64 sh, Value.slice none 0 0] 27)
      simpa using this
    · rw [List.take_zero]
      exact Kd.R_nil _ _ _ _ _
    · repeat (first | exact Below.refl _ _ | apply below_alloc)
  case round =>
    obtain ⟨kk, vq, hk, hg, rfl, HW⟩ := hrel
    by_cases hlt : kk < q.length
    · obtain ⟨ad, B, mc, rfl, hcell, hmc, hC⟩ := queue_cell H.out kk hlt
      obtain ⟨hb3, hb2, hR, hB⟩ := HW.out
      have hcw := pw_cell_below hB hcell
      have HC := Aside0.mk (Kd.C_below hC hB)
      have HML := Aside0.mk (HM.out _ (List.getElem_mem hlt))
      have HT := Aside0.mk (show q.take (kk + 1) = q.take kk ++ [q[kk]] by rw [List.take_add_one, List.getElem?_eq_getElem hlt]; rfl)
      generalize hmm : q[kk] = m at hcell hmc hC hcw HC HML HT
      have d0 : ((kk : Int) < (q.length : Int)) = True := eq_true (by omega)
      have c3 : wr.cell? ⟨w.heap.size + 1 + 1, 1, none⟩ = some vq := (blk_cell hb3 1).trans rfl
      have f3 := blk_frozen hb3 1
      have HS := Aside0.mk hB.size
      clear hcell hC hmm hB hmc
      go_wp2
      go_region_law (first
        | (go_simp; go_at_call 28; refine (clone_walk _ _ _ _ (Kd.C_drew HC.out) HML.out).mono ?_; rintro e w1 ⟨vm, rfl, hR1, hB1⟩; obtain ⟨Am, cm, rfl⟩ := Kd.R_slice hR1; have HB1 := Aside0.mk ((below_drew (Below.refl wr.heap.size wr)).trans hB1); have HR1 := Aside0.mk hR1; clear hR1 hB1; have hb31 := blk_below hb3 HB1.out; have c31 : w1.cell? ⟨w.heap.size + 1 + 1, 1, none⟩ = some vq := (blk_cell hb31 1).trans rfl; have HQ1 := Aside0.mk (Kd.R_below hR HB1.out); have c32 : (w1.alloc (Obj.cells #[Value.slice Am m.length cm] 29)).cell? ⟨w.heap.size + 1 + 1, 1, none⟩ = some vq := (blk_cell (blk_alloc hb31 _) 1).trans rfl)
        | (refine Kd.R_append_step kd2 (w0 := w) (W := w1) w.heap.size rfl (.tmp 17) (.tmp 20) 25 29 (.slice none 0 0) 24 rfl Try.underlying25 info29 rfl (by decide) (by decide) vq (q.take kk) m [Value.slice Am m.length cm] (fun _ => True) (fun k => wr.heap.size ≤ k) (by simp [Act.eval, Act.put]) (by simp [Act.eval, Act.put]) ⟨_, rfl, Kd.R_lower (Kd.R_mono (Kd.R_bound HR1.out) (fun k hk => hk.2.1)) HS.out⟩ (fun k hk => ⟨trivial, fun e => by have := Kd.R_lt hR k e.symm; omega⟩) (fun _ _ => trivial) HQ1.out (below_then HW.out.2.2.2 HS.out HB1.out) (Nat.le_trans HS.out HB1.out.size) (by rw [List.length_take]; omega) ?_; intro v1 w2 hR2 hB2 hg2 hat2; obtain ⟨A1, c1, rfl⟩ := Kd.R_slice hR2; have hb32 := blk_grown hb31 hg2 (Kd.R_ne HQ1.out hb31 (by decide)); have c33 : w2.cell? ⟨w.heap.size + 1 + 1, 1, none⟩ = some vq := (blk_cell hb32 1).trans rfl; have f33 := blk_frozen hb32 1; have HR2 := Aside0.mk hR2; have HB2 := Aside0.mk hB2; have hb22 := blk_grown (blk_below hb2 HB1.out) hg2 (Kd.R_ne HQ1.out (blk_below hb2 HB1.out) (by decide)); clear hR2 hB2 hg2 hat2))
      all_goals (
        go_wp2
        go_roundg (q.length - (kk + 1))
        case measure => omega
        case rel =>
          refine ⟨kk + 1, .slice A1 (kk + 1) c1, by omega, by omega, by go_num, ⟨?_, ?_, ?_, ?_⟩⟩
          · exact blk_set hb32 1 _
          · exact blk_far hb22 (by simp) _
          · rw [HT.out]
            have h_ := Kd.R_set HR2.out hb32 (by decide) 1 (.slice A1 (kk + 1) c1)
            have e_ : (q.take kk ++ [m]).length = kk + 1 := by rw [List.length_append, List.length_take, List.length_singleton]; omega
            rw [e_] at h_
            exact h_
          · exact HB2.out.setCell (by show w.heap.size ≤ w.heap.size + 1 + 1; omega) _)
    · have hkq : kk = q.length := by omega
      subst hkq
      obtain ⟨hb3, hb2, hR, hB⟩ := HW.out
      rw [List.take_length] at hR
      obtain ⟨A1, c1, rfl⟩ := Kd.R_slice hR
      have HB := Aside0.mk hB
      have HR := Aside0.mk hR
      have d0 : ((q.length : Int) < (q.length : Int)) = False := eq_false (by omega)
      have c30 : wr.cell? ⟨w.heap.size + 1 + 1, 0, none⟩ = some (.int .i64 sh) := (blk_cell hb3 0).trans rfl
      have c31 : wr.cell? ⟨w.heap.size + 1 + 1, 1, none⟩ = some (.slice A1 q.length c1) := (blk_cell hb3 1).trans rfl
      have c20 : wr.cell? ⟨w.heap.size + 1, 0, none⟩ = some (.int .i64 0) := (blk_cell hb2 0).trans rfl
      have c21 : wr.cell? ⟨w.heap.size + 1, 1, none⟩ = some (.slice none 0 0) := (blk_cell hb2 1).trans rfl
      have f20 := blk_frozen hb2 0
      have f21 := blk_frozen hb2 1
      clear hB hR hb3
      go_wp2
      refine bodyPost_ret (v := .agg #[.int .i64 sh, .slice A1 q.length c1]) (by simp [results, Try.results21, go_sem, c20, c21]) rfl ⟨_, rfl, ?_, ?_⟩
      · exact Kd.R_set (Kd.R_set HR.out hb2 (by decide) 0 _) (blk_set hb2 0 _) (by decide) 1 _
      · exact (HB.out.setCell (by show w.heap.size ≤ w.heap.size + 1; omega) _).setCell (by show w.heap.size ≤ w.heap.size + 1; omega) _
end Go.Proofs.Ytieijoclahcipaa.Ch
