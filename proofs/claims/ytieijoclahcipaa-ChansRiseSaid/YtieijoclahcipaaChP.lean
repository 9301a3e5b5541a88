/- What is put sorted rises, and has the same messages: the walk of ChansRise. Condition: at most 2^47/24 messages, each of fewer than 2^44 numbers. -/
import Derived.Test.YtieijoclahcipaaChK
import Derived.Test.YtieijoclahcipaaChO
import Derived.Deep.RegionHeld3
set_option linter.unusedSimpArgs false
set_option linter.unusedVariables false
namespace Go.Proofs.Ytieijoclahcipaa.Ch
open Go.RowKit Go.Proofs.YtieijoclahcipaaW.PrintWords Go.Proofs.YtieijoclahcipaaW.PrintLast Go.Proofs.YtieijoclahcipaaW.PrintMore Go.Proofs.Ytieijoclahcipaa.PChansPut Go.Proofs.Ytieijoclahcipaa.Vm
/-- The first loop's memory. -/
structure RiW (w wr : World) (g6 : Nat) (room : Int) (Af A : Option Addr) (nf cf c : Nat) (q : List (List Int)) : Prop where
  b0 : wr.heap[w.heap.size]? = some (.cells #[.int .i64 room, .slice Af nf cf] 24 (0, 0))
  b6 : wr.heap[g6]? = some (.cells #[.int .i64 0, .slice A q.length c] 27 (0, 0))
  b7 : wr.heap[g6 + 1]? = some (.cells #[.int .i64 0, .slice none 0 0] 27 (0, 0))
  rd : kd2.R 29 wr w.heap.size (fun _ => True) (.slice A q.length c) q
  below : Below w.heap.size w wr

/-- The second loop's memory: jj messages of the first queue are not put yet. -/
structure RjW (w wr : World) (g6 : Nat) (room : Int) (Af A B : Option Addr) (nf cf c d jj : Nat) (q : List (List Int)) : Prop where
  b0 : wr.heap[w.heap.size]? = some (.cells #[.int .i64 room, .slice Af nf cf] 24 (0, 0))
  b6 : wr.heap[g6]? = some (.cells #[.int .i64 0, .slice A q.length c] 27 (0, 0))
  b7 : wr.heap[g6 + 1]? = some (.cells #[.int .i64 0, .slice B (q.drop jj).length d] 27 (0, 0))
  rd : kd2.R 29 wr w.heap.size (fun _ => True) (.slice A q.length c) q
  rb : kd2.R 29 wr w.heap.size (fun _ => True) (.slice B (q.drop jj).length d) (q.drop jj)
  below : Below w.heap.size w wr

set_option maxHeartbeats 4000000 in
set_option maxRecDepth 100000 in
theorem rise_walk (w : World) (room : Int) (Af A : Option Addr) (cf c : Nat) (fs : List S47) (l : List (List Int)) (hf : k47.C w Af fs.length fs) (hl : kd2.C w A l.length l)
    (hll : l.length ≤ 5864062014805) (hlm : ∀ y, y ∈ l → y.length < 17592186044416) (hfl : fs.length < 17592186044416) :
    Calls Try.prog 5 #[.agg #[.int .i64 room, .slice Af fs.length cf], .slice A l.length c] w fun e w' => e = .returned (.bool true) ∧ Below w.heap.size w w' := by
  have HF := Aside0.mk hf
  have HL := Aside0.mk hl
  have HLM := Aside0.mk hlm
  clear hf hl hlm
  go_enter Try.func5, Try.ntmps5
  go_upto_region 2 with (go_at_call 6; refine (shown_walk _).mono ?_; rintro e w1 ⟨rfl, hB1⟩; have HB1 := Aside0.mk hB1; clear hB1)
  have hle1 := Aside0.mk (show w.heap.size ≤ w1.heap.size from Nat.le_trans (by simp) HB1.out.size)
  go_wp2
  go_loopg [8] l.length (fun gg s8 wr => ∃ (kk : Nat) (q : List (List Int)) (Aq : Option Addr) (cq : Nat), kk ≤ l.length ∧ q.length ≤ kk ∧ l.length - kk ≤ gg ∧ s8 = .int .i64 kk ∧ Aside0 (RiW w wr w1.heap.size room Af Aq fs.length cf cq q ∧ Sorted room fs q))
  case atStart =>
    refine ⟨0, [], none, 0, Nat.zero_le _, Nat.le_refl _, Nat.le_of_eq (Nat.sub_zero _), rfl, ⟨⟨?_, ?_, ?_, Kd.R_nil _ _ _ _ _, ?_⟩, sorted_nil _ _⟩⟩
    · exact blk_alloc (blk_alloc (blk_below (blk_new _ _) HB1.out) _) _
    · exact blk_alloc (blk_new _ _) _
    · have := blk_new (w1.alloc (Obj.cells #[.int .i64 0, .slice none 0 0] 27)) (Obj.cells #[.int .i64 0, .slice none 0 0] 27)
      simpa using this
    · exact below_alloc (below_alloc (below_then (below_alloc (Below.refl _ _) _) (by simp) HB1.out) _) _
  case round =>
    obtain ⟨kk, q, Aq, cq, hkk, hqk, hg, rfl, HW⟩ := hrel
    by_cases hlt : kk < l.length
    · obtain ⟨ab, ao, Bl, ml, rfl, hab, hcell, hmc, hC⟩ := queue_at HL.out kk hlt
      have d0 : ((kk : Int) < (l.length : Int)) = True := eq_true (by omega)
      have hcw := pw_cell_below HW.out.1.below hcell
      have HP : Aside0 (∀ W, Below wr.heap.size wr W → Calls Try.prog 8 #[.agg #[.int .i64 room, .slice Af fs.length cf], .agg #[.int .i64 0, .slice Aq q.length cq], .slice Bl l[kk].length ml, .bool true] W fun e w' => ∃ v, e = .returned (.tuple #[.agg #[.int .i64 (putS 0 room fs q l[kk]), v], .int .i64 (putE room fs q l[kk])]) ∧ kd2.R 29 w' W.heap.size (fun _ => True) v (putQ room fs q l[kk] true) ∧ Below W.heap.size W w' ∧ Below wr.heap.size wr w') := ⟨fun W hb => (put_walk W room 0 Af Aq Bl cf cq ml fs q l[kk] true (Kd.C_below (Kd.C_below HF.out HW.out.1.below) hb) (Kd.C_below (Kd.R_reads' HW.out.1.rd).2.2 hb) (Kd.C_below (Kd.C_below hC HW.out.1.below) hb) (by omega) (fun y hy => by rw [(HW.out.2.fit y hy).1]; exact hfl) (HLM.out _ (List.getElem_mem hlt))).mono (fun e w' ⟨v, h1, h2, h3⟩ => ⟨v, h1, h2, h3, below_then hb hb.size h3⟩)⟩
      generalize l[kk] = m at hcell hmc hC hcw HP
      have c00 : wr.cell? ⟨w.heap.size, 0, none⟩ = some (.int .i64 room) := (blk_cell HW.out.1.b0 0).trans rfl
      have c01 : wr.cell? ⟨w.heap.size, 1, none⟩ = some (.slice Af fs.length cf) := (blk_cell HW.out.1.b0 1).trans rfl
      have c60 : wr.cell? ⟨w1.heap.size, 0, none⟩ = some (.int .i64 0) := (blk_cell HW.out.1.b6 0).trans rfl
      have c61 : wr.cell? ⟨w1.heap.size, 1, none⟩ = some (.slice Aq q.length cq) := (blk_cell HW.out.1.b6 1).trans rfl
      clear hcell hmc hC
      have SB := Aside0.mk (fun (W : World) (hb : Below wr.heap.size wr W) => (⟨pw_cell_below hb c00, pw_cell_below hb c01, pw_cell_below hb c60, pw_cell_below hb c61, pw_cell_below hb hcw⟩ : W.cell? ⟨w.heap.size, 0, none⟩ = some (.int .i64 room) ∧ W.cell? ⟨w.heap.size, 1, none⟩ = some (.slice Af fs.length cf) ∧ W.cell? ⟨w1.heap.size, 0, none⟩ = some (.int .i64 0) ∧ W.cell? ⟨w1.heap.size, 1, none⟩ = some (.slice Aq q.length cq) ∧ W.cell? ⟨ab, ao + kk, none⟩ = some (.slice Bl m.length ml)))
      go_wp2
      go_region_held3 (fun W => W.cell? ⟨w.heap.size, 0, none⟩ = some (.int .i64 room) ∧ W.cell? ⟨w.heap.size, 1, none⟩ = some (.slice Af fs.length cf) ∧ W.cell? ⟨w1.heap.size, 0, none⟩ = some (.int .i64 0) ∧ W.cell? ⟨w1.heap.size, 1, none⟩ = some (.slice Aq q.length cq) ∧ W.cell? ⟨ab, ao + kk, none⟩ = some (.slice Bl m.length ml))
        ((exact SB.out _ (by repeat (first | exact HBW.out | exact Below.refl _ _ | apply below_alloc | apply below_drew | refine Below.setCell ?_ (by first | exact Nat.le_refl _ | exact HBW.out.size) _))))
        ((first | (go_at_call 8; refine (HP.out _ (by repeat (first | exact Below.refl _ _ | apply below_alloc | apply below_drew))).mono ?_; rintro e w3 ⟨v3, rfl, hR3, hB3, hBW⟩; have HBW := Aside0.mk hBW; obtain ⟨A3, c3, rfl⟩ := Kd.R_slice hR3; (try (have b9 := blk_below (blk_new wr.drew (.cells #[.int .i64 0, .slice none 0 0] 27)) hB3; have c90 : w3.cell? ⟨wr.heap.size, 0, none⟩ = some (.int .i64 0) := (blk_cell b9 0).trans rfl; have c91 : w3.cell? ⟨wr.heap.size, 1, none⟩ = some (.slice none 0 0) := (blk_cell b9 1).trans rfl; have f90 : w3.frozen? ⟨wr.heap.size, 0, none⟩ = false := blk_frozen b9 0; have f91 : w3.frozen? ⟨wr.heap.size, 1, none⟩ = false := blk_frozen b9 1)); have HR3 := Aside0.mk hR3; clear hR3 hB3 hBW)))
      · have hs : putS 0 room fs q m = 0 := by unfold putS; split <;> rfl
        rw [hs]
        have hb9 := blk_new w3 (Obj.cells #[Value.int IntKind.i64 0, Value.slice A3 (putQ room fs q m true).length c3] 27)
        have hB9 : Below wr.heap.size wr (w3.alloc (Obj.cells #[Value.int IntKind.i64 0, Value.slice A3 (putQ room fs q m true).length c3] 27)) := below_alloc HBW.out _
        have hR9 := Kd.R_alloc HR3.out (Obj.cells #[Value.int IntKind.i64 0, Value.slice A3 (putQ room fs q m true).length c3] 27)
        replace hR9 := Kd.R_lower hR9 (show wr.heap.size ≤ _ from Nat.le_refl _)
        generalize (w3.alloc (Obj.cells #[Value.int IntKind.i64 0, Value.slice A3 (putQ room fs q m true).length c3] 27)) = W9 at hb9 hB9 hR9 ⊢
        have hne9 : ¬ (w3.heap.size = w1.heap.size) := by have h1 := blk_lt HW.out.1.b6; have h2 := HBW.out.size; omega
        generalize w3.heap.size = g9 at hb9 hne9 ⊢
        by_cases e0 : putE room fs q m = 0
        · have HS := Aside0.mk (sorted_put HW.out.2 e0)
          have de : ((putE room fs q m) == 0) = true := by simpa using e0
          rw [HS.out.2] at hb9 hR9
          have h60 := blk_below HW.out.1.b6 hB9
          have h70 := blk_below HW.out.1.b7 hB9
          have h00 := blk_below HW.out.1.b0 hB9
          have hne0 : ¬ (w.heap.size = w1.heap.size) := by
            intro e
            rw [e, h60] at h00
            injection h00 with h_
            injection h_ with _ h_
            exact absurd h_ (by decide)
          have c90 : W9.cell? ⟨g9, 0, none⟩ = some (.int .i64 0) := (blk_cell hb9 0).trans rfl
          have c91 : W9.cell? ⟨g9, 1, none⟩ = some (.slice A3 (q.length + 1) c3) := (blk_cell hb9 1).trans rfl
          have c60' : W9.cell? ⟨w1.heap.size, 0, none⟩ = some (.int .i64 0) := (blk_cell h60 0).trans rfl
          have c61' : W9.cell? ⟨w1.heap.size, 1, none⟩ = some (.slice Aq q.length cq) := (blk_cell h60 1).trans rfl
          have f60 := blk_frozen h60 0
          have f61 := blk_frozen h60 1
          have HH := Aside0.mk (And.intro h60 (And.intro h70 (And.intro h00 (And.intro hR9 (And.intro (below_then HW.out.1.below HW.out.1.below.size hB9) hne0)))))
          clear hb9 h60 h70 h00 hR9 hB9 hne0 e0 HP SB c00 c01 c60 c61 hcw HR3
          go_wp2
          go_roundg (l.length - (kk + 1))
          case measure => omega
          case rel =>
            have hle := hle1.out
            obtain ⟨h60, h70, h00, hR9, hB, hne0⟩ := HH.out
            refine ⟨kk + 1, putQ room fs q m true, A3, c3, by omega, by rw [HS.out.2]; omega, by omega, by go_num, ⟨?_, HS.out.1⟩⟩
            refine ⟨blk_far (p := ⟨w1.heap.size, 1, none⟩) (blk_far (p := ⟨w1.heap.size, 0, none⟩) h00 hne0 _) hne0 _, ?_, blk_far (p := ⟨w1.heap.size, 1, none⟩) (blk_far (p := ⟨w1.heap.size, 0, none⟩) h70 (by show w1.heap.size + 1 ≠ w1.heap.size; omega) _) (by show w1.heap.size + 1 ≠ w1.heap.size; omega) _, ?_, (hB.setCell hle _).setCell hle _⟩
            · rw [HS.out.2]
              exact blk_set (blk_set h60 0 _) 1 _
            · rw [HS.out.2]
              exact Kd.R_lower (Kd.R_set (Kd.R_set hR9 h60 (by decide) 0 _) (blk_set h60 0 _) (by decide) 1 _) HW.out.1.below.size
        · have de : ((putE room fs q m) == 0) = false := by simpa using e0
          have HWW := Aside0.mk (And.intro (⟨blk_below HW.out.1.b0 hB9, blk_below HW.out.1.b6 hB9, blk_below HW.out.1.b7 hB9, Kd.R_below HW.out.1.rd hB9, below_then HW.out.1.below HW.out.1.below.size hB9⟩ : RiW w W9 w1.heap.size room Af Aq fs.length cf cq q) HW.out.2)
          clear e0 hb9 hB9 hR9 HP SB HR3
          go_wp2
          go_roundg (l.length - (kk + 1))
          case measure => omega
          case rel => exact ⟨kk + 1, q, Aq, cq, by omega, by omega, by omega, by go_num, HWW⟩
      · have hs : putS 0 room fs q m = 0 := by unfold putS; split <;> rfl
        rw [hs]
        have b9 : w3.heap[wr.heap.size]? = some (.cells #[.int .i64 0, .slice none 0 0] 27 (0, 0)) := b9
        have hb9 : ((w3.setCell ⟨wr.heap.size, 0, none⟩ (.int .i64 0)).setCell ⟨wr.heap.size, 1, none⟩ (.slice A3 (putQ room fs q m true).length c3)).heap[wr.heap.size]? = some (.cells #[.int .i64 0, .slice A3 (putQ room fs q m true).length c3] 27 (0, 0)) := blk_set (blk_set b9 0 _) 1 _
        have hB9 : Below wr.heap.size wr ((w3.setCell ⟨wr.heap.size, 0, none⟩ (.int .i64 0)).setCell ⟨wr.heap.size, 1, none⟩ (.slice A3 (putQ room fs q m true).length c3)) := (HBW.out.setCell (Nat.le_refl _) _).setCell (Nat.le_refl _) _
        have hR9 := Kd.R_set (Kd.R_set HR3.out b9 (by decide) 0 (.int .i64 0)) (blk_set b9 0 _) (by decide) 1 (.slice A3 (putQ room fs q m true).length c3)
        replace hR9 := Kd.R_lower hR9 (show wr.heap.size ≤ _ by simp)
        clear b9 c90 c91 f90 f91
        generalize ((w3.setCell ⟨wr.heap.size, 0, none⟩ (.int .i64 0)).setCell ⟨wr.heap.size, 1, none⟩ (.slice A3 (putQ room fs q m true).length c3)) = W9 at hb9 hB9 hR9 ⊢
        obtain ⟨g9, hg9⟩ : ∃ g9, g9 = wr.heap.size := ⟨_, rfl⟩
        have hne9 : ¬ (g9 = w1.heap.size) := by have h1 := blk_lt HW.out.1.b6; omega
        rw [← hg9] at hb9 ⊢
        clear hg9
        by_cases e0 : putE room fs q m = 0
        · have HS := Aside0.mk (sorted_put HW.out.2 e0)
          have de : ((putE room fs q m) == 0) = true := by simpa using e0
          rw [HS.out.2] at hb9 hR9
          have h60 := blk_below HW.out.1.b6 hB9
          have h70 := blk_below HW.out.1.b7 hB9
          have h00 := blk_below HW.out.1.b0 hB9
          have hne0 : ¬ (w.heap.size = w1.heap.size) := by
            intro e
            rw [e, h60] at h00
            injection h00 with h_
            injection h_ with _ h_
            exact absurd h_ (by decide)
          have c90 : W9.cell? ⟨g9, 0, none⟩ = some (.int .i64 0) := (blk_cell hb9 0).trans rfl
          have c91 : W9.cell? ⟨g9, 1, none⟩ = some (.slice A3 (q.length + 1) c3) := (blk_cell hb9 1).trans rfl
          have c60' : W9.cell? ⟨w1.heap.size, 0, none⟩ = some (.int .i64 0) := (blk_cell h60 0).trans rfl
          have c61' : W9.cell? ⟨w1.heap.size, 1, none⟩ = some (.slice Aq q.length cq) := (blk_cell h60 1).trans rfl
          have f60 := blk_frozen h60 0
          have f61 := blk_frozen h60 1
          have HH := Aside0.mk (And.intro h60 (And.intro h70 (And.intro h00 (And.intro hR9 (And.intro (below_then HW.out.1.below HW.out.1.below.size hB9) hne0)))))
          clear hb9 h60 h70 h00 hR9 hB9 hne0 e0 HP SB c00 c01 c60 c61 hcw HR3
          go_wp2
          go_roundg (l.length - (kk + 1))
          case measure => omega
          case rel =>
            have hle := hle1.out
            obtain ⟨h60, h70, h00, hR9, hB, hne0⟩ := HH.out
            refine ⟨kk + 1, putQ room fs q m true, A3, c3, by omega, by rw [HS.out.2]; omega, by omega, by go_num, ⟨?_, HS.out.1⟩⟩
            refine ⟨blk_far (p := ⟨w1.heap.size, 1, none⟩) (blk_far (p := ⟨w1.heap.size, 0, none⟩) h00 hne0 _) hne0 _, ?_, blk_far (p := ⟨w1.heap.size, 1, none⟩) (blk_far (p := ⟨w1.heap.size, 0, none⟩) h70 (by show w1.heap.size + 1 ≠ w1.heap.size; omega) _) (by show w1.heap.size + 1 ≠ w1.heap.size; omega) _, ?_, (hB.setCell hle _).setCell hle _⟩
            · rw [HS.out.2]
              exact blk_set (blk_set h60 0 _) 1 _
            · rw [HS.out.2]
              exact Kd.R_lower (Kd.R_set (Kd.R_set hR9 h60 (by decide) 0 _) (blk_set h60 0 _) (by decide) 1 _) HW.out.1.below.size
        · have de : ((putE room fs q m) == 0) = false := by simpa using e0
          have HWW := Aside0.mk (And.intro (⟨blk_below HW.out.1.b0 hB9, blk_below HW.out.1.b6 hB9, blk_below HW.out.1.b7 hB9, Kd.R_below HW.out.1.rd hB9, below_then HW.out.1.below HW.out.1.below.size hB9⟩ : RiW w W9 w1.heap.size room Af Aq fs.length cf cq q) HW.out.2)
          clear e0 hb9 hB9 hR9 HP SB HR3
          go_wp2
          go_roundg (l.length - (kk + 1))
          case measure => omega
          case rel => exact ⟨kk + 1, q, Aq, cq, by omega, by omega, by omega, by go_num, HWW⟩
    · have d0 : ((kk : Int) < (l.length : Int)) = False := eq_false (by omega)
      have hql : q.length ≤ 5864062014805 := by omega
      have c60 := (blk_cell HW.out.1.b6 0).trans rfl
      have c61 := (blk_cell HW.out.1.b6 1).trans rfl
      clear hlt hqk hkk
      go_wp2
      have hb7 := blk_cell HW.out.1.b7
      go_loopg [11] q.length (fun gg s11 wz => ∃ (jj : Nat) (B : Option Addr) (d : Nat), jj ≤ q.length ∧ jj ≤ gg ∧ s11 = .int .i64 ((jj : Int) - 1) ∧ Aside0 (RjW w wz w1.heap.size room Af Aq B fs.length cf cq d jj q))
      case atStart =>
        refine ⟨q.length, none, 0, Nat.le_refl _, Nat.le_refl _, by go_num, ⟨HW.out.1.b0, HW.out.1.b6, ?_, HW.out.1.rd, ?_, HW.out.1.below⟩⟩
        · rw [List.drop_length]
          exact HW.out.1.b7
        · rw [List.drop_length]
          exact Kd.R_nil _ _ _ _ _
      case round =>
        obtain ⟨jj, B, d, hjj, hg2, es, HZ⟩ := hrel
        by_cases hlt : 0 < jj
        · obtain ⟨j, rfl⟩ : ∃ j, jj = j + 1 := ⟨jj - 1, by omega⟩
          rw [show (((j + 1 : Nat) : Int) - 1) = (j : Int) by omega] at es
          subst es
          have d1 : ((0 : Int) ≤ (j : Int)) = True := eq_true (by omega)
          have d2 : ((j : Int) < (q.length : Int)) = True := eq_true (by omega)
          obtain ⟨xb, xo, Bx, cx, rfl, hxb, hxc, hxl, hX⟩ := queue_at (Kd.R_reads' HZ.out.rd).2.2 j (by omega)
          have hqj : q[j] ∈ q := List.getElem_mem (by omega)
          have HP : Aside0 (∀ W, Below wr.heap.size wr W → Calls Try.prog 8 #[.agg #[.int .i64 room, .slice Af fs.length cf], .agg #[.int .i64 0, .slice B (q.drop (j + 1)).length d], .slice Bx q[j].length cx, .bool true] W fun e w' => ∃ v, e = .returned (.tuple #[.agg #[.int .i64 0, v], .int .i64 0]) ∧ kd2.R 29 w' W.heap.size (fun _ => True) v (q.drop j) ∧ Below W.heap.size W w' ∧ Below wr.heap.size wr w') := ⟨fun W hb => (put_walk W room 0 Af B Bx cf d cx fs (q.drop (j + 1)) q[j] true (Kd.C_below (Kd.C_below HF.out HZ.out.below) hb) (Kd.C_below (Kd.R_reads' HZ.out.rb).2.2 hb) (Kd.C_below hX hb) (by rw [List.length_drop]; omega) (fun y hy => by rw [(HW.out.2.fit y (List.mem_of_mem_drop hy)).1]; exact hfl) (by rw [(HW.out.2.fit _ hqj).1]; exact hfl)).mono (fun e w' ⟨v, h1, h2, h3⟩ => by
            obtain ⟨s1, s2⟩ := sorted_again HW.out.2 j (by omega)
            rw [s1, (put_done s1).2.2.2.2] at h1
            rw [s2] at h2
            exact ⟨v, h1, h2, h3, below_then hb hb.size h3⟩)⟩
          generalize q[j] = x at hxc hxl hX hqj HP
          have c00 : wr.cell? ⟨w.heap.size, 0, none⟩ = some (.int .i64 room) := (blk_cell HZ.out.b0 0).trans rfl
          have c01 : wr.cell? ⟨w.heap.size, 1, none⟩ = some (.slice Af fs.length cf) := (blk_cell HZ.out.b0 1).trans rfl
          have c61z : wr.cell? ⟨w1.heap.size, 1, none⟩ = some (.slice (some ⟨xb, xo, none⟩) q.length cq) := (blk_cell HZ.out.b6 1).trans rfl
          have c70 : wr.cell? ⟨w1.heap.size + 1, 0, none⟩ = some (.int .i64 0) := (blk_cell HZ.out.b7 0).trans rfl
          obtain ⟨Ld, hLd⟩ : ∃ Ld, (q.drop (j + 1)).length = Ld := ⟨_, rfl⟩
          obtain ⟨Le, hLe⟩ : ∃ Le, (q.drop j).length = Le := ⟨_, rfl⟩
          rw [hLd] at HP
          have HLE := Aside0.mk hLe
          have c71 : wr.cell? ⟨w1.heap.size + 1, 1, none⟩ = some (.slice B Ld d) := (blk_cell HZ.out.b7 1).trans (by rw [hLd]; rfl)
          clear hLd hLe hX hxl hqj
          have SB := Aside0.mk (fun (W : World) (hb : Below wr.heap.size wr W) => (⟨pw_cell_below hb c00, pw_cell_below hb c01, pw_cell_below hb c61z, pw_cell_below hb c70, pw_cell_below hb c71, pw_cell_below hb hxc⟩ : W.cell? ⟨w.heap.size, 0, none⟩ = some (.int .i64 room) ∧ W.cell? ⟨w.heap.size, 1, none⟩ = some (.slice Af fs.length cf) ∧ W.cell? ⟨w1.heap.size, 1, none⟩ = some (.slice (some ⟨xb, xo, none⟩) q.length cq) ∧ W.cell? ⟨w1.heap.size + 1, 0, none⟩ = some (.int .i64 0) ∧ W.cell? ⟨w1.heap.size + 1, 1, none⟩ = some (.slice B Ld d) ∧ W.cell? ⟨xb, xo + j, none⟩ = some (.slice Bx x.length cx)))
          go_wp2
          go_region_held3 (fun W => W.cell? ⟨w.heap.size, 0, none⟩ = some (.int .i64 room) ∧ W.cell? ⟨w.heap.size, 1, none⟩ = some (.slice Af fs.length cf) ∧ W.cell? ⟨w1.heap.size, 1, none⟩ = some (.slice (some ⟨xb, xo, none⟩) q.length cq) ∧ W.cell? ⟨w1.heap.size + 1, 0, none⟩ = some (.int .i64 0) ∧ W.cell? ⟨w1.heap.size + 1, 1, none⟩ = some (.slice B Ld d) ∧ W.cell? ⟨xb, xo + j, none⟩ = some (.slice Bx x.length cx))
            ((exact SB.out _ (by repeat (first | exact HBW.out | exact Below.refl _ _ | apply below_alloc | apply below_drew | refine Below.setCell ?_ (by first | exact Nat.le_refl _ | exact HBW.out.size) _))))
            ((first | (go_at_call 8; refine (HP.out _ (by repeat (first | exact Below.refl _ _ | apply below_alloc | apply below_drew))).mono ?_; rintro e w3 ⟨v3, rfl, hR3, hB3, hBW⟩; have HBW := Aside0.mk hBW; obtain ⟨A3, c3, e3⟩ := Kd.R_slice hR3; rw [HLE.out] at e3; subst e3; (try (have b9 := blk_below (blk_new wr.drew (.cells #[.int .i64 0, .slice none 0 0] 27)) hB3; have c90 : w3.cell? ⟨wr.heap.size, 0, none⟩ = some (.int .i64 0) := (blk_cell b9 0).trans rfl; have c91 : w3.cell? ⟨wr.heap.size, 1, none⟩ = some (.slice none 0 0) := (blk_cell b9 1).trans rfl; have f90 : w3.frozen? ⟨wr.heap.size, 0, none⟩ = false := blk_frozen b9 0; have f91 : w3.frozen? ⟨wr.heap.size, 1, none⟩ = false := blk_frozen b9 1)); have HR3 := Aside0.mk hR3; clear hR3 hB3 hBW)))
          · skip
            have hb9 := blk_new w3 (Obj.cells #[Value.int IntKind.i64 0, Value.slice A3 Le c3] 27)
            have hB9 : Below wr.heap.size wr (w3.alloc (Obj.cells #[Value.int IntKind.i64 0, Value.slice A3 Le c3] 27)) := below_alloc HBW.out _
            have hR9 := Kd.R_alloc HR3.out (Obj.cells #[Value.int IntKind.i64 0, Value.slice A3 Le c3] 27)
            replace hR9 := Kd.R_lower hR9 (show wr.heap.size ≤ _ from Nat.le_refl _)
            generalize (w3.alloc (Obj.cells #[Value.int IntKind.i64 0, Value.slice A3 Le c3] 27)) = W9 at hb9 hB9 hR9 ⊢
            have hne9 : ¬ (w3.heap.size = w1.heap.size + 1) := by have h1 := blk_lt HZ.out.b7; have h2 := HBW.out.size; omega
            generalize w3.heap.size = g9 at hb9 hne9 ⊢
            have h60 := blk_below HZ.out.b6 hB9
            have h70 := blk_below HZ.out.b7 hB9
            have h00 := blk_below HZ.out.b0 hB9
            have hne0 : ¬ (w.heap.size = w1.heap.size + 1) := by have := hle1.out; omega
            have hne1 : ¬ (w1.heap.size = w1.heap.size + 1) := by omega
            have c90 : W9.cell? ⟨g9, 0, none⟩ = some (.int .i64 0) := (blk_cell hb9 0).trans rfl
            have c91 : W9.cell? ⟨g9, 1, none⟩ = some (.slice A3 Le c3) := (blk_cell hb9 1).trans rfl
            have c70' : W9.cell? ⟨w1.heap.size + 1, 0, none⟩ = some (.int .i64 0) := (blk_cell h70 0).trans rfl
            have c71' : ∃ n, W9.cell? ⟨w1.heap.size + 1, 1, none⟩ = some (.slice B n d) := ⟨_, (blk_cell h70 1).trans rfl⟩
            have f70 := blk_frozen h70 0
            have f71 := blk_frozen h70 1
            obtain ⟨nn, c71'⟩ := c71'
            have HH := Aside0.mk (And.intro h60 (And.intro h70 (And.intro h00 (And.intro hR9 (And.intro (below_then HZ.out.below HZ.out.below.size hB9) (And.intro hne0 (And.intro hne1 (Kd.R_below HZ.out.rd hB9))))))))
            clear hb9 h60 h70 h00 hR9 hB9 hne0 hne1 HP SB c00 c01 c61z c70 c71 hxc HR3
            go_wp2
            go_roundg j
            case measure => omega
            case rel =>
              have hle := hle1.out
              obtain ⟨h60, h70, h00, hR9, hB, hne0, hne1, hrd⟩ := HH.out
              refine ⟨j, A3, c3, by omega, by omega, by go_num, ?_⟩
              refine ⟨blk_far (p := ⟨w1.heap.size + 1, 1, none⟩) (blk_far (p := ⟨w1.heap.size + 1, 0, none⟩) h00 hne0 _) hne0 _, blk_far (p := ⟨w1.heap.size + 1, 1, none⟩) (blk_far (p := ⟨w1.heap.size + 1, 0, none⟩) h60 hne1 _) hne1 _, ?_, Kd.R_set (Kd.R_set hrd h70 (by decide) 0 _) (blk_set h70 0 _) (by decide) 1 _, ?_, (hB.setCell (by show w.heap.size ≤ w1.heap.size + 1; omega) _).setCell (by show w.heap.size ≤ w1.heap.size + 1; omega) _⟩
              · rw [HLE.out]
                exact blk_set (blk_set h70 0 _) 1 _
              · rw [HLE.out]
                exact Kd.R_lower (Kd.R_set (Kd.R_set hR9 h70 (by decide) 0 _) (blk_set h70 0 _) (by decide) 1 _) HZ.out.below.size
          · skip
            have b9 : w3.heap[wr.heap.size]? = some (.cells #[.int .i64 0, .slice none 0 0] 27 (0, 0)) := b9
            have hb9 : ((w3.setCell ⟨wr.heap.size, 0, none⟩ (.int .i64 0)).setCell ⟨wr.heap.size, 1, none⟩ (.slice A3 Le c3)).heap[wr.heap.size]? = some (.cells #[.int .i64 0, .slice A3 Le c3] 27 (0, 0)) := blk_set (blk_set b9 0 _) 1 _
            have hB9 : Below wr.heap.size wr ((w3.setCell ⟨wr.heap.size, 0, none⟩ (.int .i64 0)).setCell ⟨wr.heap.size, 1, none⟩ (.slice A3 Le c3)) := (HBW.out.setCell (Nat.le_refl _) _).setCell (Nat.le_refl _) _
            have hR9 := Kd.R_set (Kd.R_set HR3.out b9 (by decide) 0 (.int .i64 0)) (blk_set b9 0 _) (by decide) 1 (.slice A3 Le c3)
            replace hR9 := Kd.R_lower hR9 (show wr.heap.size ≤ _ by simp)
            clear b9 c90 c91 f90 f91
            generalize ((w3.setCell ⟨wr.heap.size, 0, none⟩ (.int .i64 0)).setCell ⟨wr.heap.size, 1, none⟩ (.slice A3 Le c3)) = W9 at hb9 hB9 hR9 ⊢
            obtain ⟨g9, hg9⟩ : ∃ g9, g9 = wr.heap.size := ⟨_, rfl⟩
            have hne9 : ¬ (g9 = w1.heap.size + 1) := by have h1 := blk_lt HZ.out.b7; omega
            rw [← hg9] at hb9 ⊢
            clear hg9
            have h60 := blk_below HZ.out.b6 hB9
            have h70 := blk_below HZ.out.b7 hB9
            have h00 := blk_below HZ.out.b0 hB9
            have hne0 : ¬ (w.heap.size = w1.heap.size + 1) := by have := hle1.out; omega
            have hne1 : ¬ (w1.heap.size = w1.heap.size + 1) := by omega
            have c90 : W9.cell? ⟨g9, 0, none⟩ = some (.int .i64 0) := (blk_cell hb9 0).trans rfl
            have c91 : W9.cell? ⟨g9, 1, none⟩ = some (.slice A3 Le c3) := (blk_cell hb9 1).trans rfl
            have c70' : W9.cell? ⟨w1.heap.size + 1, 0, none⟩ = some (.int .i64 0) := (blk_cell h70 0).trans rfl
            have c71' : ∃ n, W9.cell? ⟨w1.heap.size + 1, 1, none⟩ = some (.slice B n d) := ⟨_, (blk_cell h70 1).trans rfl⟩
            have f70 := blk_frozen h70 0
            have f71 := blk_frozen h70 1
            obtain ⟨nn, c71'⟩ := c71'
            have HH := Aside0.mk (And.intro h60 (And.intro h70 (And.intro h00 (And.intro hR9 (And.intro (below_then HZ.out.below HZ.out.below.size hB9) (And.intro hne0 (And.intro hne1 (Kd.R_below HZ.out.rd hB9))))))))
            clear hb9 h60 h70 h00 hR9 hB9 hne0 hne1 HP SB c00 c01 c61z c70 c71 hxc HR3
            go_wp2
            go_roundg j
            case measure => omega
            case rel =>
              have hle := hle1.out
              obtain ⟨h60, h70, h00, hR9, hB, hne0, hne1, hrd⟩ := HH.out
              refine ⟨j, A3, c3, by omega, by omega, by go_num, ?_⟩
              refine ⟨blk_far (p := ⟨w1.heap.size + 1, 1, none⟩) (blk_far (p := ⟨w1.heap.size + 1, 0, none⟩) h00 hne0 _) hne0 _, blk_far (p := ⟨w1.heap.size + 1, 1, none⟩) (blk_far (p := ⟨w1.heap.size + 1, 0, none⟩) h60 hne1 _) hne1 _, ?_, Kd.R_set (Kd.R_set hrd h70 (by decide) 0 _) (blk_set h70 0 _) (by decide) 1 _, ?_, (hB.setCell (by show w.heap.size ≤ w1.heap.size + 1; omega) _).setCell (by show w.heap.size ≤ w1.heap.size + 1; omega) _⟩
              · rw [HLE.out]
                exact blk_set (blk_set h70 0 _) 1 _
              · rw [HLE.out]
                exact Kd.R_lower (Kd.R_set (Kd.R_set hR9 h70 (by decide) 0 _) (blk_set h70 0 _) (by decide) 1 _) HZ.out.below.size
        · obtain rfl : jj = 0 := by omega
          subst es
          have d1 : ((0 : Int) ≤ ((0 : Nat) : Int) - 1) = False := eq_false (by omega)
          clear hlt hg2 hjj c60 c61 hb7
          have c61 := (blk_cell HZ.out.b6 1).trans rfl
          go_wp2
          go_loopg [14] q.length (fun gg s14 wy => ∃ (ii : Nat), 1 ≤ ii ∧ q.length - ii ≤ gg ∧ s14 = .int .i64 ii ∧ Aside0 (RjW w wy w1.heap.size room Af Aq B fs.length cf cq d 0 q))
          case atStart => exact ⟨1, Nat.le_refl _, by omega, rfl, HZ⟩
          case round =>
            obtain ⟨ii, hi1, hg3, rfl, HY⟩ := hrel
            have c61 := (blk_cell HY.out.b6 1).trans rfl
            by_cases hlt : ii < q.length
            · obtain ⟨i, hi⟩ : ∃ i, ii = i + 1 := ⟨ii - 1, by omega⟩
              have d1 : ((ii : Int) < (q.length : Int)) = True := eq_true (by omega)
              obtain ⟨xb, xo, Bx, cx, eA, hxb, hxc, hxl, hX⟩ := queue_at (Kd.R_reads' HY.out.rd).2.2 ii hlt
              obtain ⟨yb, yo, By, cy, eB, hyb, hyc, hyl, hY⟩ := queue_at (Kd.R_reads' HY.out.rd).2.2 i (by omega)
              rw [eA] at eB
              cases eB
              subst eA
              have HN : Aside0 (∀ W, Below wr.heap.size wr W → Calls Try.prog 12 #[.slice Bx q[ii].length cx, .slice By q[i].length cy] W fun e w' => e = .returned (.bool false) ∧ Drawn0 W w') := ⟨fun W hb => (less_walk W Bx By cx cy q[ii] q[i] (Kd.C_below hX hb) (Kd.C_below hY hb)).mono (fun e w' ⟨h1, h2⟩ => ⟨by
                subst hi
                rw [h1, sorted_less HW.out.2 i hlt], h2⟩)⟩
              generalize q[ii] = x at hX hxc hxl HN
              generalize q[i] = y at hY hyc hyl HN
              have d2 : IntKind.i64.wrap ((ii : Int) - 1) = (i : Int) := by rw [IntKind.wrap_i64]; omega
              have d3 : ((i : Int) < (q.length : Int)) = True := eq_true (by omega)
              have HI := Aside0.mk hi
              have SB := Aside0.mk (fun (W : World) (hb : Below wr.heap.size wr W) => (⟨pw_cell_below hb c61, pw_cell_below hb hxc, pw_cell_below hb hyc⟩ : W.cell? ⟨w1.heap.size, 1, none⟩ = some (.slice (some ⟨xb, xo, none⟩) q.length cq) ∧ W.cell? ⟨xb, xo + ii, none⟩ = some (.slice Bx x.length cx) ∧ W.cell? ⟨xb, xo + i, none⟩ = some (.slice By y.length cy)))
              clear hX hY hxl hyl hi
              go_wp2
              go_region_held3 (fun W => W.cell? ⟨w1.heap.size, 1, none⟩ = some (.slice (some ⟨xb, xo, none⟩) q.length cq) ∧ W.cell? ⟨xb, xo + ii, none⟩ = some (.slice Bx x.length cx) ∧ W.cell? ⟨xb, xo + i, none⟩ = some (.slice By y.length cy))
                ((exact SB.out _ (by repeat (first | exact Below.refl _ _ | apply below_drew | apply pw_below_drewN))))
                ((first | (go_at_call 12; refine (HN.out _ (by repeat (first | exact Below.refl _ _ | apply below_drew | apply pw_below_drewN))).mono ?_; rintro e w3 ⟨rfl, ⟨nd, rfl⟩⟩)))
              go_wp2
              go_roundg (q.length - (ii + 1))
              case measure => omega
              case rel => exact ⟨ii + 1, by omega, by omega, by go_num, ⟨⟨blk_drewN HY.out.b0 _, blk_drewN HY.out.b6 _, blk_drewN HY.out.b7 _, Kd.R_drewN HY.out.rd _, Kd.R_drewN HY.out.rb _, pw_below_drewN HY.out.below _⟩⟩⟩
            · have d1 : ((ii : Int) < (q.length : Int)) = False := eq_false (by omega)
              clear hlt hg3
              have hRq := Kd.R_reads' HY.out.rd
              have hRb := Kd.R_reads' HY.out.rb
              have hb7 := HY.out.b7
              rw [List.drop_zero] at hRb hb7
              have hqm : ∀ y, y ∈ q → y.length ≤ 9223372036854775807 := fun y hy => by rw [(HW.out.2.fit y hy).1]; omega
              have HSC := Aside0.mk (spinneretref12_SameChan.calls _ 0 Aq cq q 0 B d q true wr hRq.2.2 hRq.2.1 hRb.2.2 hRb.2.1 (same_chan q 0 (by omega) hqm))
              have c60 : wr.cell? ⟨w1.heap.size, 0, none⟩ = some (.int .i64 0) := (blk_cell HY.out.b6 0).trans rfl
              have c61 : wr.cell? ⟨w1.heap.size, 1, none⟩ = some (.slice Aq q.length cq) := (blk_cell HY.out.b6 1).trans rfl
              have c70 : wr.cell? ⟨w1.heap.size + 1, 0, none⟩ = some (.int .i64 0) := (blk_cell hb7 0).trans rfl
              have c71 : wr.cell? ⟨w1.heap.size + 1, 1, none⟩ = some (.slice B q.length d) := (blk_cell hb7 1).trans rfl
              clear hRq hRb hb7 hqm
              go_wp2_with (first
                | (go_at_call 10; refine HSC.out.mono ?_; rintro e w4 ⟨rfl, hB4⟩; have HB4 := Aside0.mk hB4; clear hB4)
                | (go_at_call 16; refine (spinneretref11_Type.calls 8 false true _ rfl).mono ?_; rintro e w5 ⟨rfl, hB5⟩; have HB5 := Aside0.mk hB5; clear hB5))
              go_ret
              exact ⟨rfl, below_then (below_then HY.out.below HY.out.below.size HB4.out) (below_then HY.out.below HY.out.below.size HB4.out).size HB5.out⟩
end Go.Proofs.Ytieijoclahcipaa.Ch
