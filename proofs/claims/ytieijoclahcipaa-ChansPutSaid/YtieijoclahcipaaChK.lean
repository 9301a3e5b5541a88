/- What is put behind all comes out in its order: the walk of ChansQueue. Condition: at most 2^47/24 - 1 messages, each of at most 2^44 numbers. -/
import Derived.Test.YtieijoclahcipaaChL
import Derived.Deep.RegionHeld3
set_option linter.unusedSimpArgs false
set_option linter.unusedVariables false
namespace Go.Proofs.Ytieijoclahcipaa.Ch
open Go.RowKit Go.Proofs.YtieijoclahcipaaW.PrintWords Go.Proofs.YtieijoclahcipaaW.PrintLast Go.Proofs.YtieijoclahcipaaW.PrintMore Go.Proofs.Ytieijoclahcipaa.PChansPut Go.Proofs.Ytieijoclahcipaa.Vm

theorem queue_at {w : World} {A : Option Addr} {n : Nat} {q : List (List Int)} (h : kd2.C w A n q) (i : Nat) (hi : i < q.length) : ∃ (b o : Nat) (B : Option Addr) (c : Nat), A = some ⟨b, o, none⟩ ∧ b < w.heap.size ∧ w.cell? ⟨b, o + i, none⟩ = some (.slice B q[i].length c) ∧ q[i].length ≤ c ∧ kd1.C w B q[i].length q[i] := by
  obtain ⟨a, B, c, rfl, hc, hl, hC⟩ := queue_cell h i hi
  obtain ⟨b, o, s⟩ := a
  have hs : s = none := by
    obtain ⟨a', _, _, e, h0, _⟩ := queue_cell h 0 (by omega)
    cases e
    have := World.cell?_spot h0
    unfold Addr.add at this
    rwa [if_pos rfl] at this
  subst hs
  rw [Go.WideShapes.add_plain] at hc
  exact ⟨b, o, B, c, rfl, World.block_lt_of_cell? w _ hc, hc, hl, hC⟩

theorem cell_far {w : World} {p : Addr} {g o : Nat} {u : Value} (h : g ≠ p.block) : (w.setCell p u).cell? ⟨g, o, none⟩ = w.cell? ⟨g, o, none⟩ := World.cell?_setCell_far w p _ u (fun e => h e.symm)

theorem putQ_end {room : Int} {fs : List S47} {q : List (List Int)} {m : List Int} (h : putE room fs q m = 0) : putQ room fs q m false = q ++ [fitsL fs m] ∧ putS 0 room fs q m = 0 ∧ (q.length : Int) < room ∧ m.length = fs.length := by
  refine ⟨?_, ?_, ?_, ?_⟩
  · unfold putQ
    rw [if_pos h]
    unfold insL
    simp
  · unfold putS
    split <;> rfl
  · unfold putE at h
    repeat' split at h
    all_goals first | omega | (cases h; done) | skip
  · unfold putE at h
    split at h
    · cases h
    · omega

/-- The first loop's memory. -/
structure QuW (w wr : World) (g2 : Nat) (room : Int) (Af A Ain : Option Addr) (nf cf c cin : Nat) (q : List (List Int)) : Prop where
  b0 : wr.heap[w.heap.size]? = some (.cells #[.int .i64 room, .slice Af nf cf] 24 (0, 0))
  b6 : wr.heap[g2]? = some (.cells #[.int .i64 0, .slice A q.length c] 27 (0, 0))
  rd : kd2.R 29 wr w.heap.size (fun _ => True) (.slice A q.length c) q
  ins : kd2.R 29 wr w.heap.size (fun _ => True) (.slice Ain q.length cin) q
  len : ∀ y, y ∈ q → y.length = nf
  below : Below w.heap.size w wr

set_option maxHeartbeats 4000000 in
set_option maxRecDepth 100000 in
theorem queue_walk (w : World) (room : Int) (Af A : Option Addr) (cf c : Nat) (fs : List S47) (l : List (List Int)) (hf : k47.C w Af fs.length fs) (hl : kd2.C w A l.length l)
    (hll : l.length + 1 ≤ 5864062014805) (hlm : ∀ y, y ∈ l → y.length < 17592186044416) (hfl : fs.length < 17592186044416) :
    Calls Try.prog 4 #[.agg #[.int .i64 room, .slice Af fs.length cf], .slice A l.length c] w fun e w' => e = .returned (.bool true) ∧ Below w.heap.size w w' := by
  have HF := Aside0.mk hf
  have HL := Aside0.mk hl
  have HLM := Aside0.mk hlm
  clear hf hl hlm
  go_enter Try.func4, Try.ntmps4
  go_upto_region 2 with (go_at_call 6; refine (shown_walk _).mono ?_; rintro e w1 ⟨rfl, hB1⟩; have HB1 := Aside0.mk hB1; clear hB1)
  have hle1 := Aside0.mk (show w.heap.size ≤ w1.heap.size from Nat.le_trans (by simp) HB1.out.size)
  go_wp2
  go_loopg [7, 8] l.length (fun gg s7 s8 wr => ∃ (kk : Nat) (q : List (List Int)) (Aq Ain : Option Addr) (cq cin : Nat), kk ≤ l.length ∧ q.length ≤ kk ∧ l.length - kk ≤ gg ∧ s8 = .int .i64 kk ∧ s7 = .slice Ain q.length cin ∧ Aside0 (QuW w wr w1.heap.size room Af Aq Ain fs.length cf cq cin q))
  case atStart =>
    refine ⟨0, [], none, none, 0, 0, Nat.zero_le _, Nat.le_refl _, Nat.le_of_eq (Nat.sub_zero _), rfl, rfl, ⟨?_, ?_, Kd.R_nil _ _ _ _ _, Kd.R_nil _ _ _ _ _, by simp, ?_⟩⟩
    · exact blk_alloc (blk_below (blk_new _ _) HB1.out) _
    · exact blk_new _ _
    · exact below_alloc (below_then (below_alloc (Below.refl _ _) _) (by simp) HB1.out) _
  case round =>
    obtain ⟨kk, q, Aq, Ain, cq, cin, hkk, hqk, hg, rfl, rfl, HW⟩ := hrel
    by_cases hlt : kk < l.length
    · obtain ⟨ab, ao, Bl, ml, rfl, hab, hcell, hmc, hC⟩ := queue_at HL.out kk hlt
      have d0 : ((kk : Int) < (l.length : Int)) = True := eq_true (by omega)
      have hcw := pw_cell_below HW.out.below hcell
      have HP : Aside0 (∀ W, Below wr.heap.size wr W → Calls Try.prog 8 #[.agg #[.int .i64 room, .slice Af fs.length cf], .agg #[.int .i64 0, .slice Aq q.length cq], .slice Bl l[kk].length ml, .bool false] W fun e w' => ∃ v, e = .returned (.tuple #[.agg #[.int .i64 (putS 0 room fs q l[kk]), v], .int .i64 (putE room fs q l[kk])]) ∧ kd2.R 29 w' W.heap.size (fun _ => True) v (putQ room fs q l[kk] false) ∧ Below W.heap.size W w' ∧ Below wr.heap.size wr w') := ⟨fun W hb => (put_walk W room 0 Af Aq Bl cf cq ml fs q l[kk] false (Kd.C_below (Kd.C_below HF.out HW.out.below) hb) (Kd.C_below (Kd.R_reads' HW.out.rd).2.2 hb) (Kd.C_below (Kd.C_below hC HW.out.below) hb) (by omega) (fun y hy => by rw [HW.out.len y hy]; exact hfl) (HLM.out _ (List.getElem_mem hlt))).mono (fun e w' ⟨v, h1, h2, h3⟩ => ⟨v, h1, h2, h3, below_then hb hb.size h3⟩)⟩
      generalize l[kk] = m at hcell hmc hC hcw HP
      have c00 : wr.cell? ⟨w.heap.size, 0, none⟩ = some (.int .i64 room) := (blk_cell HW.out.b0 0).trans rfl
      have c01 : wr.cell? ⟨w.heap.size, 1, none⟩ = some (.slice Af fs.length cf) := (blk_cell HW.out.b0 1).trans rfl
      have c60 : wr.cell? ⟨w1.heap.size, 0, none⟩ = some (.int .i64 0) := (blk_cell HW.out.b6 0).trans rfl
      have c61 : wr.cell? ⟨w1.heap.size, 1, none⟩ = some (.slice Aq q.length cq) := (blk_cell HW.out.b6 1).trans rfl
      clear hcell hmc hC
      have SB := Aside0.mk (fun (W : World) (hb : Below wr.heap.size wr W) => (⟨pw_cell_below hb c00, pw_cell_below hb c01, pw_cell_below hb c60, pw_cell_below hb c61, pw_cell_below hb hcw⟩ : W.cell? ⟨w.heap.size, 0, none⟩ = some (.int .i64 room) ∧ W.cell? ⟨w.heap.size, 1, none⟩ = some (.slice Af fs.length cf) ∧ W.cell? ⟨w1.heap.size, 0, none⟩ = some (.int .i64 0) ∧ W.cell? ⟨w1.heap.size, 1, none⟩ = some (.slice Aq q.length cq) ∧ W.cell? ⟨ab, ao + kk, none⟩ = some (.slice Bl m.length ml)))
      go_wp2
      go_region_held3 (fun W => W.cell? ⟨w.heap.size, 0, none⟩ = some (.int .i64 room) ∧ W.cell? ⟨w.heap.size, 1, none⟩ = some (.slice Af fs.length cf) ∧ W.cell? ⟨w1.heap.size, 0, none⟩ = some (.int .i64 0) ∧ W.cell? ⟨w1.heap.size, 1, none⟩ = some (.slice Aq q.length cq) ∧ W.cell? ⟨ab, ao + kk, none⟩ = some (.slice Bl m.length ml))
        ((exact SB.out _ (by repeat (first | exact HBW.out | exact Below.refl _ _ | apply below_alloc | apply below_drew | refine Below.setCell ?_ (by first | exact Nat.le_refl _ | exact HBW.out.size) _))))
        ((first | (go_at_call 8; refine (HP.out _ (by repeat (first | exact Below.refl _ _ | apply below_alloc | apply below_drew))).mono ?_; rintro e w3 ⟨v3, rfl, hR3, hB3, hBW⟩; have HBW := Aside0.mk hBW; obtain ⟨A3, c3, rfl⟩ := Kd.R_slice hR3; (try (have b9 := blk_below (blk_new wr.drew (.cells #[.int .i64 0, .slice none 0 0] 27)) hB3; have c90 : w3.cell? ⟨wr.heap.size, 0, none⟩ = some (.int .i64 0) := (blk_cell b9 0).trans rfl; have c91 : w3.cell? ⟨wr.heap.size, 1, none⟩ = some (.slice none 0 0) := (blk_cell b9 1).trans rfl; have f90 : w3.frozen? ⟨wr.heap.size, 0, none⟩ = false := blk_frozen b9 0; have f91 : w3.frozen? ⟨wr.heap.size, 1, none⟩ = false := blk_frozen b9 1)); have HR3 := Aside0.mk hR3; clear hR3 hB3 hBW)))
      · have hs : putS 0 room fs q m = 0 := by unfold putS; split <;> rfl
        rw [hs]
        have hb9 := blk_new w3 (Obj.cells #[Value.int IntKind.i64 0, Value.slice A3 (putQ room fs q m false).length c3] 27)
        have hB9 : Below wr.heap.size wr (w3.alloc (Obj.cells #[Value.int IntKind.i64 0, Value.slice A3 (putQ room fs q m false).length c3] 27)) := below_alloc HBW.out _
        have hR9 := Kd.R_alloc HR3.out (Obj.cells #[Value.int IntKind.i64 0, Value.slice A3 (putQ room fs q m false).length c3] 27)
        replace hR9 := Kd.R_lower hR9 (show wr.heap.size ≤ _ from Nat.le_refl _)
        generalize (w3.alloc (Obj.cells #[Value.int IntKind.i64 0, Value.slice A3 (putQ room fs q m false).length c3] 27)) = W9 at hb9 hB9 hR9 ⊢
        have hne9 : ¬ (w3.heap.size = w1.heap.size) := by have h1 := blk_lt HW.out.b6; have h2 := HBW.out.size; omega
        generalize w3.heap.size = g9 at hb9 hne9 ⊢
        by_cases e0 : putE room fs q m = 0
        · obtain ⟨hQ, _, hroom, hml⟩ := putQ_end e0
          rw [hQ, List.length_append, List.length_singleton] at hb9
          rw [hQ, show (q ++ [fitsL fs m]).length = q.length + 1 by simp] at hR9
          rw [hQ, List.length_append, List.length_singleton, e0]
          obtain ⟨g3, c3', e3, _, hg3, _⟩ := Kd.R_form hR9 (by simp)
          injection e3 with e3 en ec
          clear en
          subst e3
          subst ec
          obtain ⟨cs, _, ⟨vm, rfl, hVM⟩, hcells, _⟩ := Kd.R_elem hR9 [] (q.length : Int) (by omega) (by simp; omega)
          obtain ⟨Am, cm, rfl⟩ := Kd.R_slice hVM
          rw [Int.toNat_natCast, show (q ++ [fitsL fs m]).getD q.length [] = fitsL fs m by simp] at hVM hcells
          generalize (fitsL fs m).length = Lx at hVM hcells
          have hcm : W9.cell? ⟨g3, q.length, none⟩ = some (.slice Am Lx cm) := by
            have := hcells 0 _ rfl
            simpa [Kd.slice] using this
          have hC9 := (Kd.R_reads' hR9).2.2
          have hRI := Kd.R_below HW.out.ins hB9
          have hlen : ∀ y, y ∈ q ++ [fitsL fs m] → y.length = fs.length := by
            intro y hy
            rcases List.mem_append.1 hy with h | h
            · exact HW.out.len y h
            · rw [List.mem_singleton.1 h]
              exact fits_len ⟨hml.symm, rfl⟩
          have HX := Aside0.mk (And.intro hR9 (And.intro hRI (And.intro (Kd.R_lower (Kd.R_mono hVM (fun _ _ => trivial : ∀ k, _ → True)) HW.out.below.size) hlen)))
          have h60 := blk_below HW.out.b6 hB9
          have h00 := blk_below HW.out.b0 hB9
          have hlen := Aside0.mk hlen
          have hne0 : ¬ (w.heap.size = w1.heap.size) := by
            intro e
            rw [e, h60] at h00
            injection h00 with h_
            injection h_ with _ h_
            exact absurd h_ (by decide)
          have HBB := Aside0.mk (And.intro hB9 (And.intro hb9 (And.intro h60 h00)))
          have c90 : W9.cell? ⟨g9, 0, none⟩ = some (.int .i64 0) := (blk_cell hb9 0).trans rfl
          have c91 : W9.cell? ⟨g9, 1, none⟩ = some (.slice (some ⟨g3, 0, none⟩) (q.length + 1) c3) := (blk_cell hb9 1).trans rfl
          have c60' : W9.cell? ⟨w1.heap.size, 0, none⟩ = some (.int .i64 0) := (blk_cell h60 0).trans rfl
          have c61' : W9.cell? ⟨w1.heap.size, 1, none⟩ = some (.slice Aq q.length cq) := (blk_cell h60 1).trans rfl
          have f60 := blk_frozen h60 0
          have f61 := blk_frozen h60 1
          have c00' : W9.cell? ⟨w.heap.size, 0, none⟩ = some (.int .i64 room) := (blk_cell h00 0).trans rfl
          have dr : (room < (q.length : Int) + 1) = False := eq_false (by omega)
          clear hC9 hRI hVM hb9 h60 h00 hB9 hR9 hcells hQ e0 hml HP SB c00 c01 c60 c61 hcw
          have hne9' : ¬ (w1.heap.size = g9) := fun e => hne9 e.symm
          go_upto_region 12 with fail
          refine wp_world (fun W => Aside0 (W.heap[w.heap.size]? = some (.cells #[.int .i64 room, .slice Af fs.length cf] 24 (0, 0)) ∧ W.heap[w1.heap.size]? = some (.cells #[.int .i64 0, .slice (some ⟨g3, 0, none⟩) (q.length + 1) c3] 27 (0, 0)) ∧ W.heap[g9]? = some (.cells #[.int .i64 0, .slice (some ⟨g3, 0, none⟩) (q.length + 1) c3] 27 (0, 0)) ∧ kd2.R 29 W wr.heap.size (fun _ => True) (.slice (some ⟨g3, 0, none⟩) (q.length + 1) c3) (q ++ [fitsL fs m]) ∧ kd2.R 29 W w.heap.size (fun _ => True) (.slice Ain q.length cin) q ∧ kd1.R 2 W w.heap.size (fun _ => True) (.slice Am Lx cm) (fitsL fs m) ∧ Below w.heap.size w W) ∧ W.cell? ⟨g3, q.length, none⟩ = some (.slice Am Lx cm)) ⟨⟨?_, ?_, ?_, ?_, ?_, ?_, ?_⟩, ?_⟩ (fun W10 hW10 => ?_)
          · exact blk_far (p := ⟨w1.heap.size, 1, none⟩) (blk_far (p := ⟨w1.heap.size, 0, none⟩) HBB.out.2.2.2 hne0 _) hne0 _
          · exact blk_set (blk_set HBB.out.2.2.1 0 _) 1 _
          · exact blk_far (p := ⟨w1.heap.size, 1, none⟩) (blk_far (p := ⟨w1.heap.size, 0, none⟩) HBB.out.2.1 hne9 _) hne9 _
          · exact Kd.R_set (Kd.R_set HX.out.1 HBB.out.2.2.1 (by decide) 0 _) (blk_set HBB.out.2.2.1 0 _) (by decide) 1 _
          · exact Kd.R_set (Kd.R_set HX.out.2.1 HBB.out.2.2.1 (by decide) 0 _) (blk_set HBB.out.2.2.1 0 _) (by decide) 1 _
          · exact Kd.R_set (Kd.R_set HX.out.2.2.1 HBB.out.2.2.1 (by decide) 0 _) (blk_set HBB.out.2.2.1 0 _) (by decide) 1 _
          · exact ((below_then HW.out.below HW.out.below.size HBB.out.1).setCell (by show w.heap.size ≤ w1.heap.size; exact hle1.out) _).setCell (by show w.heap.size ≤ w1.heap.size; exact hle1.out) _
          · have hg31 : g3 ≠ w1.heap.size := by
              obtain ⟨_, hk⟩ := Kd.R_typed HX.out.1 g3 (by simp [Value.ownBlock])
              intro e
              rw [e, HBB.out.2.2.1] at hk
              cases hk
            exact (cell_far (p := ⟨w1.heap.size, 1, none⟩) hg31).trans ((cell_far (p := ⟨w1.heap.size, 0, none⟩) hg31).trans hcm)
          obtain ⟨HW10, hcm10⟩ := hW10
          have c90 : W10.cell? ⟨g9, 0, none⟩ = some (.int .i64 0) := (blk_cell HW10.out.2.2.1 0).trans rfl
          have c91 : W10.cell? ⟨g9, 1, none⟩ = some (.slice (some ⟨g3, 0, none⟩) (q.length + 1) c3) := (blk_cell HW10.out.2.2.1 1).trans rfl
          have HV := Aside0.mk (Kd.R_apartR HW10.out.2.2.2.2.2.1 HW10.out.2.2.2.2.1 (by decide))
          clear c60' c61' f60 f61 c00' dr hcm HX HBB
          go_wp2_with (at_builtin; refine Kd.R_append kd2 (w0 := w) w.heap.size rfl (.tmp 56) (.tmp 65) 25 29 (.slice none 0 0) 24 rfl Try.underlying25 info29 rfl (by decide) (by decide) (.slice Ain q.length cin) q (fitsL fs m) [.slice Am Lx cm] (fun _ => True) (fun k => True ∧ some k ≠ (Value.slice Ain q.length cin).ownBlock) rfl rfl ⟨_, rfl, HV.out⟩ (fun k hk => hk) (fun _ _ => trivial) HW10.out.2.2.2.2.1 HW10.out.2.2.2.2.2.2 HW10.out.2.2.2.2.2.2.size (by omega) ?_; intro v1 w11 hR11 hB11 hG11 hat; obtain ⟨A11, c11, rfl⟩ := Kd.R_slice hR11; have HR11 := Aside0.mk (And.intro hR11 (And.intro hB11 hG11)); clear hR11 hB11 hG11 hat)
          go_roundg (l.length - (kk + 1))
          case measure => omega
          case rel =>
            have h_ := HR11.out.1
            have hg := HR11.out.2.2
            have ht1 := Kd.R_ne HW10.out.2.2.2.2.1 HW10.out.1 (by decide)
            have ht2 := Kd.R_ne HW10.out.2.2.2.2.1 HW10.out.2.1 (by decide)
            have hR3 := Kd.R_reads' HW10.out.2.2.2.1
            refine ⟨kk + 1, q ++ [fitsL fs m], some ⟨g3, 0, none⟩, A11, c3, c11, by omega, by simp; omega, by omega, by go_num, by simp, ⟨blk_grown HW10.out.1 hg ht1, ?_, ?_, h_, hlen.out, HR11.out.2.1⟩⟩
            · rw [List.length_append, List.length_singleton]
              exact blk_grown HW10.out.2.1 hg ht2
            · rw [List.length_append, List.length_singleton]
              exact Kd.R_lower (Kd.R_mono (Kd.R_grown (Kd.R_mono (Kd.R_bound HW10.out.2.2.2.1) (fun k hk => hk.2.1)) hg (fun k hk e => by have := Kd.R_lt HW.out.ins k e.symm; omega)) (fun _ _ => trivial)) HW.out.below.size
        · have de : ((putE room fs q m) != 0) = true := by simpa using e0
          have hWW : QuW w W9 w1.heap.size room Af Aq Ain fs.length cf cq cin q := ⟨blk_below HW.out.b0 hB9, blk_below HW.out.b6 hB9, Kd.R_below HW.out.rd hB9, Kd.R_below HW.out.ins hB9, HW.out.len, below_then HW.out.below HW.out.below.size hB9⟩
          have HWW := Aside0.mk hWW
          clear e0 hWW hb9 hB9 hR9 HP SB
          go_wp2
          go_roundg (l.length - (kk + 1))
          case measure => omega
          case rel => exact ⟨kk + 1, q, Aq, Ain, cq, cin, by omega, by omega, by omega, by go_num, rfl, HWW⟩
      · have hs : putS 0 room fs q m = 0 := by unfold putS; split <;> rfl
        rw [hs]
        have b9 : w3.heap[wr.heap.size]? = some (.cells #[.int .i64 0, .slice none 0 0] 27 (0, 0)) := b9
        have hb9 : ((w3.setCell ⟨wr.heap.size, 0, none⟩ (.int .i64 0)).setCell ⟨wr.heap.size, 1, none⟩ (.slice A3 (putQ room fs q m false).length c3)).heap[wr.heap.size]? = some (.cells #[.int .i64 0, .slice A3 (putQ room fs q m false).length c3] 27 (0, 0)) := blk_set (blk_set b9 0 _) 1 _
        have hB9 : Below wr.heap.size wr ((w3.setCell ⟨wr.heap.size, 0, none⟩ (.int .i64 0)).setCell ⟨wr.heap.size, 1, none⟩ (.slice A3 (putQ room fs q m false).length c3)) := (HBW.out.setCell (Nat.le_refl _) _).setCell (Nat.le_refl _) _
        have hR9 := Kd.R_set (Kd.R_set HR3.out b9 (by decide) 0 (.int .i64 0)) (blk_set b9 0 _) (by decide) 1 (.slice A3 (putQ room fs q m false).length c3)
        replace hR9 := Kd.R_lower hR9 (show wr.heap.size ≤ _ by simp)
        clear b9 c90 c91 f90 f91
        generalize ((w3.setCell ⟨wr.heap.size, 0, none⟩ (.int .i64 0)).setCell ⟨wr.heap.size, 1, none⟩ (.slice A3 (putQ room fs q m false).length c3)) = W9 at hb9 hB9 hR9 ⊢
        obtain ⟨g9, hg9⟩ : ∃ g9, g9 = wr.heap.size := ⟨_, rfl⟩
        have hne9 : ¬ (g9 = w1.heap.size) := by have h1 := blk_lt HW.out.b6; omega
        rw [← hg9] at hb9 ⊢
        clear hg9
        by_cases e0 : putE room fs q m = 0
        · obtain ⟨hQ, _, hroom, hml⟩ := putQ_end e0
          rw [hQ, List.length_append, List.length_singleton] at hb9
          rw [hQ, show (q ++ [fitsL fs m]).length = q.length + 1 by simp] at hR9
          rw [hQ, List.length_append, List.length_singleton, e0]
          obtain ⟨g3, c3', e3, _, hg3, _⟩ := Kd.R_form hR9 (by simp)
          injection e3 with e3 en ec
          clear en
          subst e3
          subst ec
          obtain ⟨cs, _, ⟨vm, rfl, hVM⟩, hcells, _⟩ := Kd.R_elem hR9 [] (q.length : Int) (by omega) (by simp; omega)
          obtain ⟨Am, cm, rfl⟩ := Kd.R_slice hVM
          rw [Int.toNat_natCast, show (q ++ [fitsL fs m]).getD q.length [] = fitsL fs m by simp] at hVM hcells
          generalize (fitsL fs m).length = Lx at hVM hcells
          have hcm : W9.cell? ⟨g3, q.length, none⟩ = some (.slice Am Lx cm) := by
            have := hcells 0 _ rfl
            simpa [Kd.slice] using this
          have hC9 := (Kd.R_reads' hR9).2.2
          have hRI := Kd.R_below HW.out.ins hB9
          have hlen : ∀ y, y ∈ q ++ [fitsL fs m] → y.length = fs.length := by
            intro y hy
            rcases List.mem_append.1 hy with h | h
            · exact HW.out.len y h
            · rw [List.mem_singleton.1 h]
              exact fits_len ⟨hml.symm, rfl⟩
          have HX := Aside0.mk (And.intro hR9 (And.intro hRI (And.intro (Kd.R_lower (Kd.R_mono hVM (fun _ _ => trivial : ∀ k, _ → True)) HW.out.below.size) hlen)))
          have h60 := blk_below HW.out.b6 hB9
          have h00 := blk_below HW.out.b0 hB9
          have hlen := Aside0.mk hlen
          have hne0 : ¬ (w.heap.size = w1.heap.size) := by
            intro e
            rw [e, h60] at h00
            injection h00 with h_
            injection h_ with _ h_
            exact absurd h_ (by decide)
          have HBB := Aside0.mk (And.intro hB9 (And.intro hb9 (And.intro h60 h00)))
          have c90 : W9.cell? ⟨g9, 0, none⟩ = some (.int .i64 0) := (blk_cell hb9 0).trans rfl
          have c91 : W9.cell? ⟨g9, 1, none⟩ = some (.slice (some ⟨g3, 0, none⟩) (q.length + 1) c3) := (blk_cell hb9 1).trans rfl
          have c60' : W9.cell? ⟨w1.heap.size, 0, none⟩ = some (.int .i64 0) := (blk_cell h60 0).trans rfl
          have c61' : W9.cell? ⟨w1.heap.size, 1, none⟩ = some (.slice Aq q.length cq) := (blk_cell h60 1).trans rfl
          have f60 := blk_frozen h60 0
          have f61 := blk_frozen h60 1
          have c00' : W9.cell? ⟨w.heap.size, 0, none⟩ = some (.int .i64 room) := (blk_cell h00 0).trans rfl
          have dr : (room < (q.length : Int) + 1) = False := eq_false (by omega)
          clear hC9 hRI hVM hb9 h60 h00 hB9 hR9 hcells hQ e0 hml HP SB c00 c01 c60 c61 hcw
          have hne9' : ¬ (w1.heap.size = g9) := fun e => hne9 e.symm
          go_upto_region 12 with fail
          refine wp_world (fun W => Aside0 (W.heap[w.heap.size]? = some (.cells #[.int .i64 room, .slice Af fs.length cf] 24 (0, 0)) ∧ W.heap[w1.heap.size]? = some (.cells #[.int .i64 0, .slice (some ⟨g3, 0, none⟩) (q.length + 1) c3] 27 (0, 0)) ∧ W.heap[g9]? = some (.cells #[.int .i64 0, .slice (some ⟨g3, 0, none⟩) (q.length + 1) c3] 27 (0, 0)) ∧ kd2.R 29 W wr.heap.size (fun _ => True) (.slice (some ⟨g3, 0, none⟩) (q.length + 1) c3) (q ++ [fitsL fs m]) ∧ kd2.R 29 W w.heap.size (fun _ => True) (.slice Ain q.length cin) q ∧ kd1.R 2 W w.heap.size (fun _ => True) (.slice Am Lx cm) (fitsL fs m) ∧ Below w.heap.size w W) ∧ W.cell? ⟨g3, q.length, none⟩ = some (.slice Am Lx cm)) ⟨⟨?_, ?_, ?_, ?_, ?_, ?_, ?_⟩, ?_⟩ (fun W10 hW10 => ?_)
          · exact blk_far (p := ⟨w1.heap.size, 1, none⟩) (blk_far (p := ⟨w1.heap.size, 0, none⟩) HBB.out.2.2.2 hne0 _) hne0 _
          · exact blk_set (blk_set HBB.out.2.2.1 0 _) 1 _
          · exact blk_far (p := ⟨w1.heap.size, 1, none⟩) (blk_far (p := ⟨w1.heap.size, 0, none⟩) HBB.out.2.1 hne9 _) hne9 _
          · exact Kd.R_set (Kd.R_set HX.out.1 HBB.out.2.2.1 (by decide) 0 _) (blk_set HBB.out.2.2.1 0 _) (by decide) 1 _
          · exact Kd.R_set (Kd.R_set HX.out.2.1 HBB.out.2.2.1 (by decide) 0 _) (blk_set HBB.out.2.2.1 0 _) (by decide) 1 _
          · exact Kd.R_set (Kd.R_set HX.out.2.2.1 HBB.out.2.2.1 (by decide) 0 _) (blk_set HBB.out.2.2.1 0 _) (by decide) 1 _
          · exact ((below_then HW.out.below HW.out.below.size HBB.out.1).setCell (by show w.heap.size ≤ w1.heap.size; exact hle1.out) _).setCell (by show w.heap.size ≤ w1.heap.size; exact hle1.out) _
          · have hg31 : g3 ≠ w1.heap.size := by
              obtain ⟨_, hk⟩ := Kd.R_typed HX.out.1 g3 (by simp [Value.ownBlock])
              intro e
              rw [e, HBB.out.2.2.1] at hk
              cases hk
            exact (cell_far (p := ⟨w1.heap.size, 1, none⟩) hg31).trans ((cell_far (p := ⟨w1.heap.size, 0, none⟩) hg31).trans hcm)
          obtain ⟨HW10, hcm10⟩ := hW10
          have c90 : W10.cell? ⟨g9, 0, none⟩ = some (.int .i64 0) := (blk_cell HW10.out.2.2.1 0).trans rfl
          have c91 : W10.cell? ⟨g9, 1, none⟩ = some (.slice (some ⟨g3, 0, none⟩) (q.length + 1) c3) := (blk_cell HW10.out.2.2.1 1).trans rfl
          have HV := Aside0.mk (Kd.R_apartR HW10.out.2.2.2.2.2.1 HW10.out.2.2.2.2.1 (by decide))
          clear c60' c61' f60 f61 c00' dr hcm HX HBB
          go_wp2_with (at_builtin; refine Kd.R_append kd2 (w0 := w) w.heap.size rfl (.tmp 56) (.tmp 65) 25 29 (.slice none 0 0) 24 rfl Try.underlying25 info29 rfl (by decide) (by decide) (.slice Ain q.length cin) q (fitsL fs m) [.slice Am Lx cm] (fun _ => True) (fun k => True ∧ some k ≠ (Value.slice Ain q.length cin).ownBlock) rfl rfl ⟨_, rfl, HV.out⟩ (fun k hk => hk) (fun _ _ => trivial) HW10.out.2.2.2.2.1 HW10.out.2.2.2.2.2.2 HW10.out.2.2.2.2.2.2.size (by omega) ?_; intro v1 w11 hR11 hB11 hG11 hat; obtain ⟨A11, c11, rfl⟩ := Kd.R_slice hR11; have HR11 := Aside0.mk (And.intro hR11 (And.intro hB11 hG11)); clear hR11 hB11 hG11 hat)
          go_roundg (l.length - (kk + 1))
          case measure => omega
          case rel =>
            have h_ := HR11.out.1
            have hg := HR11.out.2.2
            have ht1 := Kd.R_ne HW10.out.2.2.2.2.1 HW10.out.1 (by decide)
            have ht2 := Kd.R_ne HW10.out.2.2.2.2.1 HW10.out.2.1 (by decide)
            have hR3 := Kd.R_reads' HW10.out.2.2.2.1
            refine ⟨kk + 1, q ++ [fitsL fs m], some ⟨g3, 0, none⟩, A11, c3, c11, by omega, by simp; omega, by omega, by go_num, by simp, ⟨blk_grown HW10.out.1 hg ht1, ?_, ?_, h_, hlen.out, HR11.out.2.1⟩⟩
            · rw [List.length_append, List.length_singleton]
              exact blk_grown HW10.out.2.1 hg ht2
            · rw [List.length_append, List.length_singleton]
              exact Kd.R_lower (Kd.R_mono (Kd.R_grown (Kd.R_mono (Kd.R_bound HW10.out.2.2.2.1) (fun k hk => hk.2.1)) hg (fun k hk e => by have := Kd.R_lt HW.out.ins k e.symm; omega)) (fun _ _ => trivial)) HW.out.below.size
        · have de : ((putE room fs q m) != 0) = true := by simpa using e0
          have hWW : QuW w W9 w1.heap.size room Af Aq Ain fs.length cf cq cin q := ⟨blk_below HW.out.b0 hB9, blk_below HW.out.b6 hB9, Kd.R_below HW.out.rd hB9, Kd.R_below HW.out.ins hB9, HW.out.len, below_then HW.out.below HW.out.below.size hB9⟩
          have HWW := Aside0.mk hWW
          clear e0 hWW hb9 hB9 hR9 HP SB
          go_wp2
          go_roundg (l.length - (kk + 1))
          case measure => omega
          case rel => exact ⟨kk + 1, q, Aq, Ain, cq, cin, by omega, by omega, by omega, by go_num, rfl, HWW⟩
    · have hke : kk = l.length := by omega
      have d0 : ((kk : Int) < (l.length : Int)) = False := eq_false (by omega)
      have HQ2 := Aside0.mk (show ∀ y, y ∈ q → y.length < 17592186044416 from fun y hy => by rw [HW.out.len y hy]; exact hfl)
      have hql : q.length ≤ 5864062014805 := by omega
      clear hke
      go_wp2
      go_loopg [11] q.length (fun gg s11 wz => ∃ (ii : Nat) (Az : Option Addr) (cz : Nat), ii ≤ q.length ∧ q.length - ii ≤ gg ∧ s11 = .int .i64 ii ∧ Aside0 (wz.heap[w1.heap.size]? = some (.cells #[.int .i64 0, .slice Az (q.drop ii).length cz] 27 (0, 0)) ∧ kd2.R 29 wz w.heap.size (fun _ => True) (.slice Az (q.drop ii).length cz) (q.drop ii) ∧ kd2.R 29 wz w.heap.size (fun _ => True) (.slice Ain q.length cin) q ∧ Below w.heap.size w wz))
      case atStart => exact ⟨0, Aq, cq, Nat.zero_le _, Nat.le_of_eq (Nat.sub_zero _), rfl, ⟨HW.out.b6, HW.out.rd, HW.out.ins, HW.out.below⟩⟩
      case round =>
        obtain ⟨ii, Az, cz, hii, hg2, rfl, HZ⟩ := hrel
        obtain ⟨Ld, hLd⟩ : ∃ Ld, (q.drop ii).length = Ld := ⟨_, rfl⟩
        have HT0 := fun hlm => take_walk _ 0 Az cz (q.drop ii) 0 (Kd.R_reads' HZ.out.2.1).2.2 hlm (fun y hy => HQ2.out y (List.mem_of_mem_drop hy))
        rw [hLd] at HZ HT0
        have c60 := (blk_cell HZ.out.1 0).trans rfl
        have c61 := (blk_cell HZ.out.1 1).trans rfl
        have hLq : Ld = q.length - ii := by rw [← hLd]; simp
        by_cases hlt : ii < q.length
        · have d1 : ((ii : Int) < (q.length : Int)) = True := eq_true (by omega)
          obtain ⟨xb, xo, Bx, cx, rfl, hxb, hxc, hxl, hX⟩ := queue_at (Kd.R_reads' HZ.out.2.2.1).2.2 ii hlt
          have hgt : (0 : Int) ≤ 0 ∧ (0 : Int) < ((q.drop ii).length : Int) := by rw [hLd]; omega
          have HT := HT0 (by omega)
          rw [show takeE (q.drop ii) 0 = 0 from if_pos hgt, if_pos rfl, show takeQ (q.drop ii) 0 = q.drop (ii + 1) by unfold takeQ; rw [if_pos hgt]; simp [List.drop_drop, Nat.add_comm], show takeM (q.drop ii) 0 = q[ii] by unfold takeM; rw [if_pos hgt]; simp [List.getD_eq_getElem?_getD, hlt]] at HT
          have hLe : (q.drop (ii + 1)).length = Ld - 1 := by rw [List.length_drop]; omega
          have hmx : q[ii].length ≤ 9223372036854775807 := by have := HQ2.out _ (List.getElem_mem hlt); omega
          have HNN := Aside0.mk (numbers_same q[ii] (q[ii].length + 1) hmx (Nat.lt_succ_self _))
          have HT2 := Aside0.mk HT
          have HXC := Aside0.mk (And.intro hX (And.intro hxc hxl))
          generalize q[ii] = x at HT2 HXC HNN
          obtain ⟨Lx, hLx⟩ : ∃ Lx, x.length = Lx := ⟨_, rfl⟩
          rw [hLx] at HXC
          have HLX := Aside0.mk hLx
          have HLE := Aside0.mk hLe
          clear hgt HT HT0 hX hxc hxl hLe hmx hLx hLd hLq
          go_upto_region 17 with (go_at_call 14; refine HT2.out.mono ?_; rintro e w2 ⟨v2, vm2, rfl, hR2, hV2, hB2⟩; obtain ⟨A2, d2, e2⟩ := Kd.R_slice hR2; rw [HLE.out] at e2; subst e2; have hC2 := Kd.R_lower hR2 HZ.out.2.2.2.size; clear hR2; obtain ⟨Am, dm, em, hdm, hCm⟩ := Kd.R_reads hV2; rw [HLX.out] at em hdm hCm; subst em; have HB2 := Aside0.mk (And.intro hB2 (And.intro hC2 (And.intro hCm hdm))); clear hV2 hB2 hC2 hCm hdm)
          refine wp_world (fun W => Aside0 (W.heap[w1.heap.size]? = some (.cells #[.int .i64 0, .slice Az Ld cz] 27 (0, 0)) ∧ W.heap[w2.heap.size]? = some (.cells #[.int .i64 0, .slice A2 (Ld - 1) d2] 27 (0, 0)) ∧ kd2.R 29 W w.heap.size (fun _ => True) (.slice A2 (Ld - 1) d2) (q.drop (ii + 1)) ∧ kd2.R 29 W w.heap.size (fun _ => True) (.slice (some ⟨xb, xo, none⟩) q.length cin) q ∧ kd1.C W Am Lx x ∧ kd1.C W Bx Lx x ∧ Below w.heap.size w W) ∧ W.cell? ⟨xb, xo + ii, none⟩ = some (.slice Bx Lx cx)) ⟨⟨?_, blk_new _ _, Kd.R_alloc HB2.out.2.1 _, Kd.R_alloc (Kd.R_below HZ.out.2.2.1 HB2.out.1) _, Kd.C_alloc HB2.out.2.2.1 _, Kd.C_alloc (Kd.C_below HXC.out.1 HB2.out.1) _, ?_⟩, ?_⟩ (fun W3 hW3 => ?_)
          · exact blk_alloc (blk_below HZ.out.1 HB2.out.1) _
          · exact below_alloc (below_then HZ.out.2.2.2 HZ.out.2.2.2.size HB2.out.1) _
          · exact pw_cell_below (below_alloc (Below.refl _ _) _) (pw_cell_below HB2.out.1 HXC.out.2.1)
          obtain ⟨HW3, hx3⟩ := hW3
          have HN : Aside0 (Calls Try.prog 15 #[.slice Am Lx dm, .slice Bx Lx cx] W3 fun e w' => e = .returned (.bool true) ∧ Drawn0 W3 w') := ⟨by
            have e := HLX.out
            subst e
            exact spinneretref12_Numbers.calls (x.length + 1) Am dm x Bx cx x true W3 HW3.out.2.2.2.2.1 HB2.out.2.2.2 HW3.out.2.2.2.2.2.1 HXC.out.2.2 HNN.out⟩
          have c120 : W3.cell? ⟨w2.heap.size, 0, none⟩ = some (.int .i64 0) := (blk_cell HW3.out.2.1 0).trans rfl
          have c121 : W3.cell? ⟨w2.heap.size, 1, none⟩ = some (.slice A2 (Ld - 1) d2) := (blk_cell HW3.out.2.1 1).trans rfl
          have c160 : W3.cell? ⟨w1.heap.size, 0, none⟩ = some (.int .i64 0) := (blk_cell HW3.out.1 0).trans rfl
          have c161 : W3.cell? ⟨w1.heap.size, 1, none⟩ = some (.slice Az Ld cz) := (blk_cell HW3.out.1 1).trans rfl
          have f160 := blk_frozen HW3.out.1 0
          have f161 := blk_frozen HW3.out.1 1
          clear c60 c61 HT2
          go_wp2_with (go_at_call 15; refine HN.out.mono ?_; rintro e w4 ⟨rfl, ⟨nd, rfl⟩⟩)
          go_roundg (q.length - (ii + 1))
          case measure => omega
          case rel =>
            have hb6 := blk_drewN HW3.out.1 nd
            have hle : w.heap.size ≤ w1.heap.size := hle1.out
            refine ⟨ii + 1, A2, d2, by omega, by omega, by go_num, ⟨?_, ?_, ?_, ?_⟩⟩
            · rw [HLE.out]
              exact blk_set (blk_set hb6 0 _) 1 _
            · rw [HLE.out]
              exact Kd.R_set (Kd.R_set (Kd.R_drewN HW3.out.2.2.1 nd) hb6 (by decide) 0 _) (blk_set hb6 0 _) (by decide) 1 _
            · exact Kd.R_set (Kd.R_set (Kd.R_drewN HW3.out.2.2.2.1 nd) hb6 (by decide) 0 _) (blk_set hb6 0 _) (by decide) 1 _
            · exact ((pw_below_drewN HW3.out.2.2.2.2.2.2 nd).setCell hle _).setCell hle _
        · have d1 : ((ii : Int) < (q.length : Int)) = False := eq_false (by omega)
          have hgt : ¬ ((0 : Int) ≤ 0 ∧ (0 : Int) < ((q.drop ii).length : Int)) := by rw [hLd]; omega
          have HT := HT0 (by omega)
          rw [show takeE (q.drop ii) 0 = 46 from if_neg hgt, if_neg (by decide)] at HT
          have HT2 := Aside0.mk HT
          clear HT HT0 hgt hLd hLq
          go_wp2_with (go_at_call 14; refine HT2.out.mono ?_; rintro e w2 ⟨v2, vm2, rfl, hR2, hV2, hB2⟩; obtain ⟨A2, d2, rfl⟩ := Kd.R_slice hR2; obtain ⟨Am, dm, rfl⟩ := Kd.R_slice hV2; have HB2 := Aside0.mk hB2; clear hR2 hV2 hB2)
          go_ret
          exact ⟨rfl, below_alloc (below_then HZ.out.2.2.2 HZ.out.2.2.2.size HB2.out) _⟩
end Go.Proofs.Ytieijoclahcipaa.Ch
