/- How a message is taken out: the walks of slices.Delete and chans.Take. Condition: at most 2^47/24 messages, each of at most 2^44 numbers. -/
import Derived.Test.YtieijoclahcipaaChF
import Derived.Lib.SlicesDelete
import Derived.Deep.RegionLaw
set_option linter.unusedSimpArgs false
set_option linter.unusedVariables false
namespace Go.Proofs.Ytieijoclahcipaa.Ch
open Go.RowKit Go.Proofs.YtieijoclahcipaaW.PrintWords Go.Proofs.YtieijoclahcipaaW.PrintLast Go.Proofs.YtieijoclahcipaaW.PrintMore Go.Proofs.Ytieijoclahcipaa.PChansPut

/-- A spare cell is written: the row lives on. -/
theorem spare_put {w : World} {base g n c j : Nat} {q : List (List Int)} (h : kd2.R 29 w base (fun _ => True) (.slice (some ⟨g, 0, none⟩) n c) q) (hj : n ≤ j) (u : Value) : kd2.R 29 (w.setCell ⟨g, j, none⟩ u) base (fun _ => True) (.slice (some ⟨g, 0, none⟩) n c) q := by
  obtain ⟨h0, inner, ho, hr⟩ := h
  have hn : n = q.length := by
    rcases ho.2 with ⟨e, _⟩ | ⟨_, _, _, e, _⟩
    · cases e
    · injection e
  refine ⟨h0, inner, ⟨ho.1, ?_⟩, hr.imp_ (fun _ _ hp => Kd.M_far (p := ⟨g, j, none⟩) hp (fun k hk e => hk.2 (by rw [show k = g from e]; simp [Value.ownBlock])) u)⟩
  rcases ho.2 with ⟨e, _⟩ | ⟨g', cap, cur, e, hb, hh, h1, h2, h3, h4⟩
  · cases e
  · injection e with ea _ ec
    injection ea with ea
    injection ea with eg
    subst eg; subst ec
    refine .inr ⟨g, c, _, by rw [hn], hb, blk_set hh j u, h1, h2, by simpa using h3, ?_⟩
    rw [Array.toList_setIfInBounds, List.take_set_of_le (by simp [Kd.slice]; omega)]
    exact h4

set_option maxHeartbeats 4000000 in
set_option maxRecDepth 100000 in
theorem delete_walk (w : World) (base g n c i : Nat) (q : List (List Int)) (HR : kd2.R 29 w base (fun _ => True) (.slice (some ⟨g, 0, none⟩) n c) q) (hi : i < n) (hbase : base ≤ w.heap.size) :
    Calls Try.prog 26 #[.slice (some ⟨g, 0, none⟩) n c, .int .i64 i, .int .i64 ((i : Int) + 1)] w fun e w' =>
      e = .returned (.slice (some ⟨g, 0, none⟩) (n - 1) c) ∧ kd2.R 29 w' base (fun _ => True) (.slice (some ⟨g, 0, none⟩) (n - 1) c) (q.eraseIdx i) ∧ Below base w w' ∧ w.grownBy w' (some g) := by
  obtain ⟨hn, hnc, hC⟩ := Kd.R_reads' HR
  have hm : c ≤ 9223372036854775807 := by
    obtain ⟨_, inner, ho, _⟩ := HR
    rcases ho.2 with ⟨e, _⟩ | ⟨_, _, _, e, _, _, _, h2, _⟩
    · cases e
    · injection e with _ _ ec
      subst ec
      unfold maxLen at h2
      omega
  have HRA := Aside0.mk HR
  have hl : n - 1 + 1 = n := by omega
  clear HR hC
  have hinfo : (Try.prog.info? 29).map (·.size) = some kd2.sz := by
    obtain ⟨i0, hi0, _, h1, _⟩ := info_parts info29
    rw [hi0]
    simp [h1, Kd.slice]
  have hA : ∀ A, A = (if c = i + 1 then some ⟨g, 0, none⟩ else some (⟨g, i + 1, none⟩ : Addr)) → A = if c = i + 1 then some ⟨g, 0, none⟩ else (some (⟨g, 0, none⟩ : Addr)).map (·.add ((i + 1) * kd2.sz)) := by
    rintro A rfl
    by_cases h : c = i + 1
    · rw [if_pos h, if_pos h]
    · rw [if_neg h, if_neg h]
      simp [Kd.slice, Go.WideShapes.add_plain]
  have HAA := Aside0.mk hA
  have hii := Aside0.mk hinfo
  clear hA hinfo
  have HN := Aside0.mk hn
  clear hn
  go_enter Try.func26, Try.ntmps26
  go_wp2_with fail
  have hnw : ∀ (w1 : World), kd2.R 29 w1 base (fun _ => True) (.slice (some ⟨g, 0, none⟩) (n - 1) c) (q.eraseIdx i) → ∀ ty, (Builtin.clear_ #[25] ty #[.slice (some ⟨g, n - 1, none⟩) (n - (n - 1)) (c - (n - 1))]).run Try.prog w1 = .ok (.tuple #[]) (w1.setCell ⟨g, n - 1, none⟩ (.slice none 0 0)) := by
    intro w1 h1 ty
    obtain ⟨_, inner, ho, _⟩ := h1
    rcases ho.2 with ⟨e, _⟩ | ⟨g', cap, cur, e, _, hh, _, _, h3, _⟩
    · cases e
    injection e with ea _ ec
    injection ea with ea
    injection ea with eg
    subst eg; subst ec
    have h3' : cur.size = c := by simpa [Kd.slice] using h3
    have h := Lib.run_clear_slice (P := Try.prog) w1 25 29 ty (.slice none 0 0) Try.underlying25 (fun w => by go_simp) rfl rfl g (n - 1) (n - (n - 1)) (c - (n - 1)) (by omega) (fun j hj => by rw [blk_cell hh, Array.getElem?_eq_getElem (by omega)]; rfl) (fun j hj => blk_frozen hh _)
    rw [h, show n - (n - 1) = 1 by omega]
    rfl
  have HCL := Aside0.mk hnw
  clear hnw
  have hic : i ≤ c := by omega
  have hjc : i + 1 ≤ c := by omega
  have hz1 : (0 : Int) ≤ (i : Int) + 1 := by omega
  have hz2 : (i : Int) + 1 ≤ (n : Int) := by omega
  go_region_law (refine Kd.R_delete_step kd2 (w0 := w) base rfl (.tmp 22) (.tmp 25) 25 29 rfl Try.underlying25 hii.out (g := g) (n := n) (c := c) (k := i) (m := n - (i + 1)) (c2 := c - (i + 1)) (A := if c = i + 1 then some ⟨g, 0, none⟩ else some ⟨g, i + 1, none⟩) (xs := q) (ok := fun _ => True) (by simp [Act.eval, Act.put]) (by simp [Act.eval, Act.put]) (HAA.out _ rfl) rfl (Kd.R_drew HRA.out) hi (below_drew (Below.refl _ _)) hbase ?_; intro w1 hR1 hB1 hG1; have HR1 := Aside0.mk hR1; have HB1 := Aside0.mk hB1; have HG1 := Aside0.mk hG1; have hcl := HCL.out w1 hR1; clear hR1 hB1 hG1)
  have hk1 : n - 1 ≤ n := by omega
  have hk2 : n ≤ c := hnc
  have hk3 : n - 1 ≤ c := by omega
  have hk4 : ((n - 1 : Nat) : Int) ≤ (n : Int) := by omega
  have hk5 : (0 : Int) ≤ ((n - 1 : Nat) : Int) := by omega
  have hk6 : ¬ (c = n - 1) := by omega
  go_wp2
  all_goals (
    go_ret
    refine ⟨rfl, ?_, ?_, ?_⟩
    · first
        | exact spare_put HR1.out (Nat.le_refl _) _
        | (rw [← (‹c = i + 1› : c = i + 1)]; exact spare_put HR1.out (Nat.le_refl _) _)
    · refine HB1.out.setCell ?_ _
      exact Kd.R_base HR1.out g (by simp [Value.ownBlock])
    · have h := HG1.out
      exact ⟨h.os, h.tape, h.output, by show w.heap.size ≤ (w1.setCell _ _).heap.size; rw [show (w1.setCell ⟨g, n - 1, none⟩ (.slice none 0 0)).heap.size = w1.heap.size by simp [World.setCell]]; exact h.size, fun k hk hne => (Below.heap_setCell w1 ⟨g, n - 1, none⟩ _ k (fun e => hne (by rw [show k = g from e]))).trans (h.block k hk hne)⟩)

/-- A message is taken out of a queue. -/
def takeQ (q : List (List Int)) (i : Int) : List (List Int) := if 0 ≤ i ∧ i < q.length then q.eraseIdx i.toNat else []
def takeM (q : List (List Int)) (i : Int) : List Int := if 0 ≤ i ∧ i < q.length then q.getD i.toNat [] else []
def takeE (q : List (List Int)) (i : Int) : Int := if 0 ≤ i ∧ i < q.length then 0 else 46

set_option maxHeartbeats 4000000 in
set_option maxRecDepth 100000 in
theorem take_walk (w : World) (sh : Int) (A : Option Addr) (c : Nat) (q : List (List Int)) (i : Int) (hq : kd2.C w A q.length q) (hql : q.length ≤ 5864062014805) (hqm : ∀ m, m ∈ q → m.length < 17592186044416) :
    Calls Try.prog 14 #[.agg #[.int .i64 sh, .slice A q.length c], .int .i64 i] w fun e w' =>
      ∃ v vm, e = .returned (.tuple #[.agg #[.int .i64 (if takeE q i = 0 then sh else 0), v], vm, .int .i64 (takeE q i)]) ∧ kd2.R 29 w' w.heap.size (fun _ => True) v (takeQ q i) ∧ kd1.R 2 w' w.heap.size (fun _ => True) vm (takeM q i) ∧ Below w.heap.size w w' := by
  have HQ := Aside0.mk hq
  have HM := Aside0.mk hqm
  clear hq hqm
  by_cases hi : 0 ≤ i ∧ i < q.length
  · rw [show takeQ q i = q.eraseIdx i.toNat from if_pos hi, show takeM q i = q.getD i.toNat [] from if_pos hi, show takeE q i = 0 from if_pos hi, if_pos rfl]
    obtain ⟨n, rfl⟩ := Int.eq_ofNat_of_zero_le hi.1
    have hn : n < q.length := by omega
    have hmx := Kd.C_max HQ.out
    rw [Int.toNat_natCast]
    have d0 : ((n : Int) < 0) = False := eq_false (by omega)
    have d1 : ((q.length : Int) ≤ (n : Int)) = False := eq_false (by omega)
    clear hi
    go_enter Try.func14, Try.ntmps14
    go_upto_region 4 with (go_at_call 21; refine (copied_walk _ _ _ _ q (Kd.C_below HQ.out (by repeat (first | exact Below.refl _ _ | apply below_alloc))) hql HM.out).mono ?_; rintro e w1 ⟨vq, rfl, hR1, hB1⟩; obtain ⟨g, cap, rfl, hgb, hgl, _⟩ := Kd.R_form hR1 (by omega); have HR1 := Aside0.mk hR1; have HB1 := Aside0.mk hB1; have HGB := Aside0.mk hgb; have HGL := Aside0.mk hgl; clear hR1 hB1 hgb hgl)
    have hB1' : Below w.heap.size w w1 := below_then (by repeat (first | exact Below.refl _ _ | apply below_alloc)) (by simp; omega) HB1.out
    have h4 : w1.heap[w.heap.size + 1]? = some (.cells #[.int .i64 0, .slice none 0 0] 27 (0, 0)) := blk_below (by
      have := blk_new (w.alloc (Obj.cells #[Value.int IntKind.i64 sh, Value.slice A q.length c] 27)) (Obj.cells #[Value.int IntKind.i64 0, Value.slice none 0 0] 27)
      simpa using this) HB1.out
    obtain ⟨cs, _, ⟨vm, rfl, hVM⟩, hcells, _⟩ := Kd.R_elem HR1.out [] (n : Int) (by omega) (by omega)
    rw [Int.toNat_natCast] at hVM hcells
    obtain ⟨Am, cm, rfl⟩ := Kd.R_slice hVM
    have hcell : w1.cell? ⟨g, n, none⟩ = some (.slice Am (q.getD n []).length cm) := by
      have := hcells 0 _ rfl
      simpa [Kd.slice] using this
    obtain ⟨W2, hW2⟩ : ∃ W2, W2 = w1.alloc (.cells #[.int .i64 sh, .slice (some ⟨g, 0, none⟩) q.length cap] 27) := ⟨_, rfl⟩
    have hb7 : W2.heap[w1.heap.size]? = some (.cells #[.int .i64 sh, .slice (some ⟨g, 0, none⟩) q.length cap] 27 (0, 0)) := by rw [hW2]; exact blk_new _ _
    have hb4 : W2.heap[w.heap.size + 1]? = some (.cells #[.int .i64 0, .slice none 0 0] 27 (0, 0)) := by rw [hW2]; exact blk_alloc h4 _
    have hc2 : W2.cell? ⟨g, n, none⟩ = some (.slice Am (q.getD n []).length cm) := by rw [hW2]; exact pw_cell_below (below_alloc (Below.refl _ _) _) hcell
    have HV2 : Aside0 (kd1.R 2 W2 w.heap.size (fun k => (True ∧ k ≠ g)) (.slice Am (q.getD n []).length cm) (q.getD n [])) := ⟨by rw [hW2]; exact Kd.R_lower (Kd.R_alloc hVM _) (by simp; omega)⟩
    have HR2 : Aside0 (kd2.R 29 W2 w.heap.size (fun _ => True) (.slice (some ⟨g, 0, none⟩) q.length cap) q) := ⟨by rw [hW2]; exact Kd.R_lower (Kd.R_alloc HR1.out _) (by simp; omega)⟩
    have HB2 : Aside0 (Below w.heap.size w W2) := ⟨by rw [hW2]; exact below_alloc hB1' _⟩
    have HDEL : Aside0 (Calls Try.prog 26 #[.slice (some ⟨g, 0, none⟩) q.length cap, .int .i64 n, .int .i64 ((n : Int) + 1)] W2 fun e w3 => e = .returned (.slice (some ⟨g, 0, none⟩) (q.length - 1) cap) ∧ kd2.R 29 w3 w.heap.size (fun _ => True) (.slice (some ⟨g, 0, none⟩) (q.length - 1) cap) (q.eraseIdx n) ∧ kd1.R 2 w3 w.heap.size (fun _ => True) (.slice Am (q.getD n []).length cm) (q.getD n []) ∧ Below w.heap.size w w3 ∧
        w3.heap[w1.heap.size]? = some (.cells #[.int .i64 sh, .slice (some ⟨g, 0, none⟩) q.length cap] 27 (0, 0)) ∧ w3.heap[w.heap.size + 1]? = some (.cells #[.int .i64 0, .slice none 0 0] 27 (0, 0))) := ⟨by
      have hgl := HGL.out
      have hgb := HGB.out
      simp only [World.size_alloc] at hgb
      refine (delete_walk W2 w.heap.size g q.length cap n q HR2.out hn HB2.out.size).mono ?_
      rintro e w3 ⟨rfl, hR, hB, hG⟩
      refine ⟨rfl, hR, Kd.R_mono (Kd.R_grown HV2.out hG (fun k hk e => hk.2 (by injection e))) (fun _ _ => trivial), HB2.out.trans hB, blk_grown hb7 hG (fun e => by injection e with e; omega), blk_grown hb4 hG (fun e => by injection e with e; omega)⟩⟩
    have c70 : W2.cell? ⟨w1.heap.size, 0, none⟩ = some (.int .i64 sh) := (blk_cell hb7 0).trans rfl
    have c71 : W2.cell? ⟨w1.heap.size, 1, none⟩ = some (.slice (some ⟨g, 0, none⟩) q.length cap) := (blk_cell hb7 1).trans rfl
    have hlt1 := blk_lt h4
    have hne : ¬ (w1.heap.size = w.heap.size + 1) := by omega
    have hne' : ¬ (w.heap.size + 1 = w1.heap.size) := by omega
    have d2 : ((n : Int) < (q.length : Int)) = True := eq_true (by omega)
    rw [← hW2]
    clear hW2 hb7 hb4 h4 hcells hVM hcell hlt1
    generalize hqm : q.getD n [] = qm at hc2 HV2 HDEL
    have HQE := Aside0.mk hqm
    clear hqm
    go_wp2_with (go_at_call 26; refine HDEL.out.mono ?_; rintro e w3 ⟨rfl, hR3, hV3, hB3, h73, h43⟩; have HR3 := Aside0.mk hR3; have HV3 := Aside0.mk hV3; have HB3 := Aside0.mk hB3; have H73 := Aside0.mk h73; have H43 := Aside0.mk h43; have c730 : w3.cell? ⟨w1.heap.size, 0, none⟩ = some (.int .i64 sh) := (blk_cell h73 0).trans rfl; have c731 : w3.cell? ⟨w1.heap.size, 1, none⟩ = some (.slice (some ⟨g, 0, none⟩) q.length cap) := (blk_cell h73 1).trans rfl; have f731 := blk_frozen h73 1; have c40 : w3.cell? ⟨w.heap.size + 1, 0, none⟩ = some (.int .i64 0) := (blk_cell h43 0).trans rfl; have c41 : w3.cell? ⟨w.heap.size + 1, 1, none⟩ = some (.slice none 0 0) := (blk_cell h43 1).trans rfl; have f40 := blk_frozen h43 0; have f41 := blk_frozen h43 1; clear hR3 hV3 hB3 h73 h43)
    refine bodyPost_ret (v := .tuple #[.agg #[.int .i64 sh, .slice (some ⟨g, 0, none⟩) (q.length - 1) cap], .slice Am qm.length cm, .int .i64 0]) (by simp [results, Try.results14, go_sem, c40, c41, hne, hne']) rfl ⟨_, _, rfl, ?_, ?_, ?_⟩
    · exact Kd.R_set (Kd.R_set (Kd.R_set HR3.out H73.out (by decide) 1 _) (blk_far H43.out (p := ⟨w1.heap.size, 1, none⟩) hne' _) (by decide) 0 _) (blk_set (blk_far H43.out (p := ⟨w1.heap.size, 1, none⟩) hne' _) 0 _) (by decide) 1 _
    · rw [HQE.out]
      exact Kd.R_set (Kd.R_set (Kd.R_set HV3.out H73.out (by decide) 1 _) (blk_far H43.out (p := ⟨w1.heap.size, 1, none⟩) hne' _) (by decide) 0 _) (blk_set (blk_far H43.out (p := ⟨w1.heap.size, 1, none⟩) hne' _) 0 _) (by decide) 1 _
    · exact ((HB3.out.setCell (by show w.heap.size ≤ w1.heap.size; have := HB1.out.size; simp at this; omega) _).setCell (by show w.heap.size ≤ w.heap.size + 1; omega) _).setCell (by show w.heap.size ≤ w.heap.size + 1; omega) _
  · rw [show takeQ q i = [] from if_neg hi, show takeM q i = [] from if_neg hi, show takeE q i = 46 from if_neg hi, if_neg (by decide)]
    by_cases hneg : i < 0
    · have d0 : (i < 0) = True := eq_true hneg
      go_enter Try.func14, Try.ntmps14
      go_wp2
      refine bodyPost_ret (v := .tuple #[.agg #[.int .i64 0, .slice none 0 0], .slice none 0 0, .int .i64 46]) (by simp [results, Try.results14, go_sem]) rfl ⟨_, _, rfl, Kd.R_nil _ _ _ _ _, Kd.R_nil _ _ _ _ _, ?_⟩
      repeat (first | exact Below.refl _ _ | apply below_alloc)
    · have d0 : (i < 0) = False := eq_false hneg
      have d1 : ((q.length : Int) ≤ i) = True := eq_true (by omega)
      clear hi hneg
      go_enter Try.func14, Try.ntmps14
      go_wp2
      refine bodyPost_ret (v := .tuple #[.agg #[.int .i64 0, .slice none 0 0], .slice none 0 0, .int .i64 46]) (by simp [results, Try.results14, go_sem]) rfl ⟨_, _, rfl, Kd.R_nil _ _ _ _ _, Kd.R_nil _ _ _ _ _, ?_⟩
      repeat (first | exact Below.refl _ _ | apply below_alloc)
end Go.Proofs.Ytieijoclahcipaa.Ch
