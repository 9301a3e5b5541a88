/- A message is put where the document says, or refused: the walk of ChansPut. Condition: fewer than 2^47/24 messages, each of fewer than 2^44 numbers. -/
import Derived.Test.YtieijoclahcipaaChU
import Derived.Test.YtieijoclahcipaaChN
set_option linter.unusedSimpArgs false
set_option linter.unusedVariables false
namespace Go.Proofs.Ytieijoclahcipaa.Ch
open Go.RowKit Go.Proofs.YtieijoclahcipaaW.PrintWords Go.Proofs.YtieijoclahcipaaW.PrintLast Go.Proofs.YtieijoclahcipaaW.PrintMore Go.Proofs.Ytieijoclahcipaa.PChansPut Go.Proofs.Ytieijoclahcipaa.Vm

theorem putQ_small (room : Int) (fs : List S47) (q : List (List Int)) (m : List Int) (so : Bool) (hqm : ∀ y, y ∈ q → y.length < 17592186044416) (hml : m.length < 17592186044416) : (putQ room fs q m so).length ≤ q.length + 1 ∧ ∀ y, y ∈ putQ room fs q m so → y.length ≤ 9223372036854775807 := by
  unfold putQ
  split
  · rw [insL_len]
    refine ⟨Nat.le_refl _, fun y hy => ?_⟩
    rcases insL_mem hy with rfl | hy
    · unfold fitsL
      rw [List.length_zipWith]
      omega
    · have := hqm y hy
      omega
  · exact ⟨Nat.zero_le _, fun y hy => by cases hy⟩

/-- What stays through the law. -/
structure LpW (w wr : World) (g8 : Nat) (room sh : Int) (Af A Bw : Option Addr) (nf cf n c dw : Nat) (q : List (List Int)) : Prop where
  b3 : wr.heap[w.heap.size]? = some (.cells #[.int .i64 room, .slice Af nf cf] 24 (0, 0))
  b4 : wr.heap[w.heap.size + 1]? = some (.cells #[.int .i64 sh, .slice A n c] 27 (0, 0))
  b8 : wr.heap[g8]? = some (.cells #[.int .i64 sh, .slice Bw n dw] 27 (0, 0))
  was : kd2.C wr Bw n q
  below : Below w.heap.size w wr
theorem LpW.on {w wr w1 : World} {g8 : Nat} {room sh : Int} {Af A Bw : Option Addr} {nf cf n c dw : Nat} {q : List (List Int)} (h : LpW w wr g8 room sh Af A Bw nf cf n c dw q) (hb : Below wr.heap.size wr w1) : LpW w w1 g8 room sh Af A Bw nf cf n c dw q := ⟨blk_below h.b3 hb, blk_below h.b4 hb, blk_below h.b8 hb, Kd.C_below h.was hb, below_then h.below h.below.size hb⟩

set_option maxHeartbeats 1000000 in
set_option maxRecDepth 100000 in
theorem putlaw_walk (w : World) (room sh : Int) (Af A Am : Option Addr) (cf c cm : Nat) (fs : List S47) (q : List (List Int)) (m : List Int) (hf : k47.C w Af fs.length fs) (hq : kd2.C w A q.length q) (hm : kd1.C w Am m.length m) (hcq : q.length ≤ c) (hcm : m.length ≤ cm)
    (hql : q.length ≤ 5864062014804) (hqm : ∀ y, y ∈ q → y.length < 17592186044416) (hml : m.length < 17592186044416) :
    Calls Try.prog 3 #[.agg #[.int .i64 room, .slice Af fs.length cf], .agg #[.int .i64 sh, .slice A q.length c], .slice Am m.length cm] w fun e w' => e = .returned (.bool true) ∧ Below w.heap.size w w' := by
  have HF := Aside0.mk hf
  have HQ := Aside0.mk hq
  have HM := Aside0.mk hm
  have HQM := Aside0.mk hqm
  have HCC := Aside0.mk (And.intro hcq hcm)
  have HSM := Aside0.mk (fun so => putQ_small room fs q m so hqm hml)
  clear hf hq hm hqm hcq hcm
  go_enter Try.func3, Try.ntmps3
  go_upto_region 2 with (go_at_call 6; refine (shown_walk _).mono ?_; rintro e w1 ⟨rfl, hB1⟩; have HB1 := Aside0.mk hB1; clear hB1)
  obtain ⟨n, hn⟩ : ∃ n, n = q.length := ⟨_, rfl⟩
  rw [← hn]
  have HN := Aside0.mk hn
  have hb3 := blk_below (blk_alloc (blk_new w (.cells #[.int .i64 room, .slice Af fs.length cf] 24)) (.cells #[.int .i64 sh, .slice A n c] 27)) (by rw [hn]; exact HB1.out)
  have hb4 := blk_below (blk_new (w.alloc (.cells #[.int .i64 room, .slice Af fs.length cf] 24)) (.cells #[.int .i64 sh, .slice A n c] 27)) (by rw [hn]; exact HB1.out)
  have hbw : Below w.heap.size w w1 := below_then (below_alloc (below_alloc (Below.refl _ _) _) _) (by simp; omega) HB1.out
  have hb4' : w1.heap[w.heap.size + 1]? = some (.cells #[.int .i64 sh, .slice A n c] 27 (0, 0)) := by simpa using hb4
  have H1 := Aside0.mk (And.intro hb3 (And.intro hb4' hbw))
  have c40 : w1.cell? ⟨w.heap.size + 1, 0, none⟩ = some (.int .i64 sh) := (blk_cell hb4' 0).trans rfl
  have c41 : w1.cell? ⟨w.heap.size + 1, 1, none⟩ = some (.slice A n c) := (blk_cell hb4' 1).trans rfl
  have HCP := Aside0.mk (copied7_walk w1 sh A c q (Kd.C_below HQ.out hbw) HCC.out.1 hql HQM.out)
  rw [← hn] at HCP
  clear hb3 hb4 hb4' hbw
  clear hn
  go_upto_region 3 with (go_at_call 7; refine HCP.out.mono ?_; rintro e w2 ⟨Bw, dw, rfl, hd, hC, hB⟩; have HD := Aside0.mk (And.intro hd (And.intro hC hB)); clear hd hC hB)
  refine wp_world (fun W => Aside0 (LpW w W w2.heap.size room sh Af A Bw fs.length cf n c dw q)) ⟨⟨?_, ?_, blk_new _ _, Kd.C_alloc HD.out.2.1 _, ?_⟩⟩ (fun W HW => ?_)
  · exact blk_alloc (blk_below H1.out.1 HD.out.2.2) _
  · exact blk_alloc (blk_below H1.out.2.1 HD.out.2.2) _
  · exact below_alloc (below_then H1.out.2.2 H1.out.2.2.size HD.out.2.2) _
  generalize w2.heap.size = g8 at HW ⊢
  have hdw := HD.out.1
  have HDW := Aside0.mk hdw
  clear c40 c41 hdw HCP HD H1 HB1
  go_wp2
  go_loopg [9] 2 (fun gg s9 wz => ∃ (kk : Nat), kk ≤ 2 ∧ 2 - kk ≤ gg ∧ s9 = .int .i64 kk ∧ Aside0 (LpW w wz g8 room sh Af A Bw fs.length cf n c dw q))
  case atStart => exact ⟨0, by omega, by omega, rfl, HW⟩
  case round =>
    clear HW
    obtain ⟨kk, hkk, hg, rfl, HW⟩ := hrel
    have c30 : wr.cell? ⟨w.heap.size, 0, none⟩ = some (.int .i64 room) := (blk_cell HW.out.b3 0).trans rfl
    have c31 : wr.cell? ⟨w.heap.size, 1, none⟩ = some (.slice Af fs.length cf) := (blk_cell HW.out.b3 1).trans rfl
    have c40 : wr.cell? ⟨w.heap.size + 1, 0, none⟩ = some (.int .i64 sh) := (blk_cell HW.out.b4 0).trans rfl
    have c41 : wr.cell? ⟨w.heap.size + 1, 1, none⟩ = some (.slice A n c) := (blk_cell HW.out.b4 1).trans rfl
    by_cases hlt : kk < 2
    · have HP : ∀ so : Bool, Aside0 (Calls Try.prog 8 #[.agg #[.int .i64 room, .slice Af fs.length cf], .agg #[.int .i64 sh, .slice A n c], .slice Am m.length cm, .bool so] wr fun e w' => ∃ v, e = .returned (.tuple #[.agg #[.int .i64 (putS sh room fs q m), v], .int .i64 (putE room fs q m)]) ∧ kd2.R 29 w' wr.heap.size (fun _ => True) v (putQ room fs q m so) ∧ Below wr.heap.size wr w') := fun so => ⟨by
        have h := put_walk wr room sh Af A Am cf c cm fs q m so (Kd.C_below HF.out HW.out.below) (Kd.C_below HQ.out HW.out.below) (Kd.C_below HM.out HW.out.below) (by omega) HQM.out hml
        rw [← HN.out] at h
        exact h⟩
      have HRP : ∀ so : Bool, Aside0 (∀ W, Below wr.heap.size wr W → Calls Try.prog 9 #[.agg #[.int .i64 room, .slice Af fs.length cf], .agg #[.int .i64 sh, .slice A n c], .slice Am m.length cm, .bool so] W fun e w' => ∃ B d, e = .returned (.tuple #[.agg #[.int .i64 (putS sh room fs q m), .slice B (putQ room fs q m so).length d], .int .i64 (putE room fs q m)]) ∧ (putQ room fs q m so).length ≤ d ∧ kd2.C w' B (putQ room fs q m so).length (putQ room fs q m so) ∧ Below W.heap.size W w') := fun so => ⟨fun W hb => by
        have h := ref_put_walk W room sh Af A Am cf c cm fs q m so (Kd.C_below (Kd.C_below HF.out HW.out.below) hb) (Kd.C_below (Kd.C_below HQ.out HW.out.below) hb) (Kd.C_below (Kd.C_below HM.out HW.out.below) hb) (by omega) HQM.out hml
        rw [← HN.out] at h
        exact h⟩
      generalize putE room fs q m = pe at HP HRP
      generalize putS sh room fs q m = ps at HP HRP
      have hk01 : kk = 0 ∨ kk = 1 := by omega
      clear hlt hkk
      rcases hk01 with rfl | rfl
      · have HP1 := HP false
        have HRP1 := HRP false
        have HSM1 := Aside0.mk (HSM.out false)
        clear HP HRP
        generalize putQ room fs q m false = l at HP1 HRP1 HSM1
        obtain ⟨nl, hnl⟩ : ∃ nl, l.length = nl := ⟨_, rfl⟩
        rw [hnl] at HRP1
        have HNL := Aside0.mk hnl
        clear hnl
        go_upto_region 7 with (go_at_call 8; refine HP1.out.mono ?_; rintro e w3 ⟨v3, rfl, hR3, hB3⟩; obtain ⟨Aa, ca, e3⟩ := Kd.R_slice hR3; rw [HNL.out] at e3; subst e3; have HR3 := Aside0.mk (And.intro hR3 hB3); clear hR3 hB3)
        refine wp_world (fun W => Aside0 (Below wr.heap.size wr W ∧ W.heap[w3.heap.size]? = some (.cells #[.int .i64 ps, .slice Aa nl ca] 27 (0, 0)) ∧ kd2.R 29 W wr.heap.size (fun _ => True) (.slice Aa nl ca) l)) ⟨below_alloc HR3.out.2 _, blk_new _ _, Kd.R_alloc HR3.out.1 _⟩ (fun W4 H4 => ?_)
        generalize w3.heap.size = g10 at H4 ⊢
        clear HR3 c30 c31 c40 c41
        have HW4 := Aside0.mk (HW.out.on H4.out.1)
        have c30 : W4.cell? ⟨w.heap.size, 0, none⟩ = some (.int .i64 room) := (blk_cell HW4.out.b3 0).trans rfl
        have c31 : W4.cell? ⟨w.heap.size, 1, none⟩ = some (.slice Af fs.length cf) := (blk_cell HW4.out.b3 1).trans rfl
        have c40 : W4.cell? ⟨w.heap.size + 1, 0, none⟩ = some (.int .i64 sh) := (blk_cell HW4.out.b4 0).trans rfl
        have c41 : W4.cell? ⟨w.heap.size + 1, 1, none⟩ = some (.slice A n c) := (blk_cell HW4.out.b4 1).trans rfl
        go_upto_region 8 with (go_at_call 9; refine (HRP1.out _ H4.out.1).mono ?_; rintro e w5 ⟨Bb, db, rfl, hdb, hCb, hB5⟩; have HR5 := Aside0.mk (And.intro hdb (And.intro hCb hB5)); clear hdb hCb hB5)
        refine wp_world (fun W => Aside0 (Below W4.heap.size W4 W ∧ W.heap[w5.heap.size]? = some (.cells #[.int .i64 ps, .slice Bb nl db] 27 (0, 0)) ∧ kd2.C W Bb nl l)) ⟨below_alloc HR5.out.2.2 _, blk_new _ _, Kd.C_alloc HR5.out.2.1 _⟩ (fun W6 H6 => ?_)
        generalize w5.heap.size = g12 at H6 ⊢
        have HDB := Aside0.mk HR5.out.1
        have HB6 := Aside0.mk (below_then H4.out.1 H4.out.1.size H6.out.1)
        have HRA := Aside0.mk (Kd.R_below H4.out.2.2 H6.out.1)
        have hba := blk_below H4.out.2.1 H6.out.1
        have ca0 : W6.cell? ⟨g10, 0, none⟩ = some (.int .i64 ps) := (blk_cell hba 0).trans rfl
        have ca1 : W6.cell? ⟨g10, 1, none⟩ = some (.slice Aa nl ca) := (blk_cell hba 1).trans rfl
        have cb0 : W6.cell? ⟨g12, 0, none⟩ = some (.int .i64 ps) := (blk_cell H6.out.2.1 0).trans rfl
        have cb1 : W6.cell? ⟨g12, 1, none⟩ = some (.slice Bb nl db) := (blk_cell H6.out.2.1 1).trans rfl
        have HBA := Aside0.mk hba
        have HSC : Aside0 (Calls Try.prog 10 #[.agg #[.int .i64 ps, .slice Aa nl ca], .agg #[.int .i64 ps, .slice Bb nl db]] W6 fun e w' => e = .returned (.bool true) ∧ Below W6.heap.size W6 w') := ⟨by
          have ha := Kd.R_reads' HRA.out
          have h := spinneretref12_SameChan.calls _ ps Aa ca l ps Bb db l true W6 ha.2.2 (by have := ha.1; have := ha.2.1; omega) (by rw [HNL.out]; exact H6.out.2.2) (by rw [HNL.out]; exact HDB.out) (same_chan l ps (by have := HSM1.out.1; have := HN.out; omega) HSM1.out.2)
          rw [HNL.out] at h
          exact h⟩
        clear HR5 hba c30 c31 c40 c41
        go_upto_region 9 with (go_at_call 10; refine HSC.out.mono ?_; rintro e W7 ⟨rfl, hB7⟩; have HB7 := Aside0.mk hB7; clear hB7)
        have hba7 := blk_below HBA.out HB7.out
        have ca0' : W7.cell? ⟨g10, 0, none⟩ = some (.int .i64 ps) := (blk_cell hba7 0).trans rfl
        have ca1' : W7.cell? ⟨g10, 1, none⟩ = some (.slice Aa nl ca) := (blk_cell hba7 1).trans rfl
        have HBB7 := Aside0.mk (below_then HB6.out HB6.out.size HB7.out)
        have HSP := Aside0.mk (spoil_walk W7 wr.heap.size nl ca ps Aa (own_rows (Kd.R_below HRA.out HB7.out)) HBB7.out.size (by have := HSM1.out.1; have := HN.out; have := HNL.out; omega))
        clear hba7 ca0 ca1 cb0 cb1 HSC
        go_upto_region 12 with (go_at_call 11; refine HSP.out.mono ?_; rintro e W8 ⟨rfl, hB8⟩; have HB8 := Aside0.mk (HBB7.out.trans hB8); clear hB8)
        have HW8 := Aside0.mk (HW.out.on HB8.out)
        have c40 : W8.cell? ⟨w.heap.size + 1, 0, none⟩ = some (.int .i64 sh) := (blk_cell HW8.out.b4 0).trans rfl
        have c41 : W8.cell? ⟨w.heap.size + 1, 1, none⟩ = some (.slice A n c) := (blk_cell HW8.out.b4 1).trans rfl
        have c80 : W8.cell? ⟨g8, 0, none⟩ = some (.int .i64 sh) := (blk_cell HW8.out.b8 0).trans rfl
        have c81 : W8.cell? ⟨g8, 1, none⟩ = some (.slice Bw n dw) := (blk_cell HW8.out.b8 1).trans rfl
        have HSC : Aside0 (Calls Try.prog 10 #[.agg #[.int .i64 sh, .slice A n c], .agg #[.int .i64 sh, .slice Bw n dw]] W8 fun e w' => e = .returned (.bool true) ∧ Below W8.heap.size W8 w') := ⟨by
          have h := spinneretref12_SameChan.calls _ sh A c q sh Bw dw q true W8 (Kd.C_below HQ.out HW8.out.below) HCC.out.1 (by rw [← HN.out]; exact HW8.out.was) (by rw [← HN.out]; exact HDW.out) (same_chan q sh (by omega) (fun y hy => by have := HQM.out y hy; omega))
          rw [← HN.out] at h
          exact h⟩
        clear ca0' ca1' HSP
        go_wp2_with (go_at_call 10; refine HSC.out.mono ?_; rintro e W9 ⟨rfl, hB9⟩; have HB9 := Aside0.mk hB9; clear hB9)
        go_roundg (2 - (0 + 1))
        case measure => omega
        case rel => exact ⟨0 + 1, by omega, by omega, by go_num, ⟨HW8.out.on HB9.out⟩⟩
      · have HP1 := HP true
        have HRP1 := HRP true
        have HSM1 := Aside0.mk (HSM.out true)
        clear HP HRP
        generalize putQ room fs q m true = l at HP1 HRP1 HSM1
        obtain ⟨nl, hnl⟩ : ∃ nl, l.length = nl := ⟨_, rfl⟩
        rw [hnl] at HRP1
        have HNL := Aside0.mk hnl
        clear hnl
        go_upto_region 7 with (go_at_call 8; refine HP1.out.mono ?_; rintro e w3 ⟨v3, rfl, hR3, hB3⟩; obtain ⟨Aa, ca, e3⟩ := Kd.R_slice hR3; rw [HNL.out] at e3; subst e3; have HR3 := Aside0.mk (And.intro hR3 hB3); clear hR3 hB3)
        refine wp_world (fun W => Aside0 (Below wr.heap.size wr W ∧ W.heap[w3.heap.size]? = some (.cells #[.int .i64 ps, .slice Aa nl ca] 27 (0, 0)) ∧ kd2.R 29 W wr.heap.size (fun _ => True) (.slice Aa nl ca) l)) ⟨below_alloc HR3.out.2 _, blk_new _ _, Kd.R_alloc HR3.out.1 _⟩ (fun W4 H4 => ?_)
        generalize w3.heap.size = g10 at H4 ⊢
        clear HR3 c30 c31 c40 c41
        have HW4 := Aside0.mk (HW.out.on H4.out.1)
        have c30 : W4.cell? ⟨w.heap.size, 0, none⟩ = some (.int .i64 room) := (blk_cell HW4.out.b3 0).trans rfl
        have c31 : W4.cell? ⟨w.heap.size, 1, none⟩ = some (.slice Af fs.length cf) := (blk_cell HW4.out.b3 1).trans rfl
        have c40 : W4.cell? ⟨w.heap.size + 1, 0, none⟩ = some (.int .i64 sh) := (blk_cell HW4.out.b4 0).trans rfl
        have c41 : W4.cell? ⟨w.heap.size + 1, 1, none⟩ = some (.slice A n c) := (blk_cell HW4.out.b4 1).trans rfl
        go_upto_region 8 with (go_at_call 9; refine (HRP1.out _ H4.out.1).mono ?_; rintro e w5 ⟨Bb, db, rfl, hdb, hCb, hB5⟩; have HR5 := Aside0.mk (And.intro hdb (And.intro hCb hB5)); clear hdb hCb hB5)
        refine wp_world (fun W => Aside0 (Below W4.heap.size W4 W ∧ W.heap[w5.heap.size]? = some (.cells #[.int .i64 ps, .slice Bb nl db] 27 (0, 0)) ∧ kd2.C W Bb nl l)) ⟨below_alloc HR5.out.2.2 _, blk_new _ _, Kd.C_alloc HR5.out.2.1 _⟩ (fun W6 H6 => ?_)
        generalize w5.heap.size = g12 at H6 ⊢
        have HDB := Aside0.mk HR5.out.1
        have HB6 := Aside0.mk (below_then H4.out.1 H4.out.1.size H6.out.1)
        have HRA := Aside0.mk (Kd.R_below H4.out.2.2 H6.out.1)
        have hba := blk_below H4.out.2.1 H6.out.1
        have ca0 : W6.cell? ⟨g10, 0, none⟩ = some (.int .i64 ps) := (blk_cell hba 0).trans rfl
        have ca1 : W6.cell? ⟨g10, 1, none⟩ = some (.slice Aa nl ca) := (blk_cell hba 1).trans rfl
        have cb0 : W6.cell? ⟨g12, 0, none⟩ = some (.int .i64 ps) := (blk_cell H6.out.2.1 0).trans rfl
        have cb1 : W6.cell? ⟨g12, 1, none⟩ = some (.slice Bb nl db) := (blk_cell H6.out.2.1 1).trans rfl
        have HBA := Aside0.mk hba
        have HSC : Aside0 (Calls Try.prog 10 #[.agg #[.int .i64 ps, .slice Aa nl ca], .agg #[.int .i64 ps, .slice Bb nl db]] W6 fun e w' => e = .returned (.bool true) ∧ Below W6.heap.size W6 w') := ⟨by
          have ha := Kd.R_reads' HRA.out
          have h := spinneretref12_SameChan.calls _ ps Aa ca l ps Bb db l true W6 ha.2.2 (by have := ha.1; have := ha.2.1; omega) (by rw [HNL.out]; exact H6.out.2.2) (by rw [HNL.out]; exact HDB.out) (same_chan l ps (by have := HSM1.out.1; have := HN.out; omega) HSM1.out.2)
          rw [HNL.out] at h
          exact h⟩
        clear HR5 hba c30 c31 c40 c41
        go_upto_region 9 with (go_at_call 10; refine HSC.out.mono ?_; rintro e W7 ⟨rfl, hB7⟩; have HB7 := Aside0.mk hB7; clear hB7)
        have hba7 := blk_below HBA.out HB7.out
        have ca0' : W7.cell? ⟨g10, 0, none⟩ = some (.int .i64 ps) := (blk_cell hba7 0).trans rfl
        have ca1' : W7.cell? ⟨g10, 1, none⟩ = some (.slice Aa nl ca) := (blk_cell hba7 1).trans rfl
        have HBB7 := Aside0.mk (below_then HB6.out HB6.out.size HB7.out)
        have HSP := Aside0.mk (spoil_walk W7 wr.heap.size nl ca ps Aa (own_rows (Kd.R_below HRA.out HB7.out)) HBB7.out.size (by have := HSM1.out.1; have := HN.out; have := HNL.out; omega))
        clear hba7 ca0 ca1 cb0 cb1 HSC
        go_upto_region 12 with (go_at_call 11; refine HSP.out.mono ?_; rintro e W8 ⟨rfl, hB8⟩; have HB8 := Aside0.mk (HBB7.out.trans hB8); clear hB8)
        have HW8 := Aside0.mk (HW.out.on HB8.out)
        have c40 : W8.cell? ⟨w.heap.size + 1, 0, none⟩ = some (.int .i64 sh) := (blk_cell HW8.out.b4 0).trans rfl
        have c41 : W8.cell? ⟨w.heap.size + 1, 1, none⟩ = some (.slice A n c) := (blk_cell HW8.out.b4 1).trans rfl
        have c80 : W8.cell? ⟨g8, 0, none⟩ = some (.int .i64 sh) := (blk_cell HW8.out.b8 0).trans rfl
        have c81 : W8.cell? ⟨g8, 1, none⟩ = some (.slice Bw n dw) := (blk_cell HW8.out.b8 1).trans rfl
        have HSC : Aside0 (Calls Try.prog 10 #[.agg #[.int .i64 sh, .slice A n c], .agg #[.int .i64 sh, .slice Bw n dw]] W8 fun e w' => e = .returned (.bool true) ∧ Below W8.heap.size W8 w') := ⟨by
          have h := spinneretref12_SameChan.calls _ sh A c q sh Bw dw q true W8 (Kd.C_below HQ.out HW8.out.below) HCC.out.1 (by rw [← HN.out]; exact HW8.out.was) (by rw [← HN.out]; exact HDW.out) (same_chan q sh (by omega) (fun y hy => by have := HQM.out y hy; omega))
          rw [← HN.out] at h
          exact h⟩
        clear ca0' ca1' HSP
        go_wp2_with (go_at_call 10; refine HSC.out.mono ?_; rintro e W9 ⟨rfl, hB9⟩; have HB9 := Aside0.mk hB9; clear hB9)
        go_roundg (2 - (1 + 1))
        case measure => omega
        case rel => exact ⟨1 + 1, by omega, by omega, by go_num, ⟨HW8.out.on HB9.out⟩⟩
    · have hke : kk = 2 := by omega
      subst hke
      clear hkk hg hlt
      have hnb : n ≤ 5864062014804 := by have := HN.out; omega
      go_wp2
      go_loopg [16] n (fun gg s16 wz => ∃ (i : Nat), i ≤ n ∧ n - i ≤ gg ∧ s16 = .int .i64 i ∧ Aside0 (LpW w wz g8 room sh Af A Bw fs.length cf n c dw q))
      case atStart => exact ⟨0, Nat.zero_le _, Nat.le_of_eq (Nat.sub_zero _), rfl, HW⟩
      case round =>
        clear c30 c31 c40 c41
        obtain ⟨i, hi, hg, rfl, HY⟩ := hrel
        have c41 : wr.cell? ⟨w.heap.size + 1, 1, none⟩ = some (.slice A n c) := (blk_cell HY.out.b4 1).trans rfl
        by_cases hlt : i < n
        · have d0 : ((i : Int) < (n : Int)) = True := eq_true (by omega)
          obtain ⟨ab, ao, By, my, rfl, _, hcell, hmy, hC⟩ := queue_at HQ.out i (by have := HN.out; omega)
          have hcw := pw_cell_below HY.out.below hcell
          have hlen := HQM.out _ (List.getElem_mem (show i < q.length by have := HN.out; omega))
          have HL1 : Aside0 (∀ W, Below wr.heap.size wr W → Calls Try.prog 12 #[.slice By (q[i]'(by have := HN.out; omega)).length my, .slice Am m.length cm] W fun e w' => e = .returned (.bool (lessL (q[i]'(by have := HN.out; omega)) m)) ∧ Drawn0 W w') := ⟨fun W hb => less_walk W By Am my cm _ m (Kd.C_below (Kd.C_below hC HY.out.below) hb) (Kd.C_below (Kd.C_below HM.out HY.out.below) hb)⟩
          have HL2 : Aside0 (∀ W, Below wr.heap.size wr W → Calls Try.prog 13 #[.slice By (q[i]'(by have := HN.out; omega)).length my, .slice Am m.length cm] W fun e w' => e = .returned (.bool (lessL (q[i]'(by have := HN.out; omega)) m)) ∧ Drawn0 W w') := ⟨fun W hb => spinneretref13_Less.calls _ By my _ Am cm m _ W (Kd.C_below (Kd.C_below hC HY.out.below) hb) hmy (Kd.C_below (Kd.C_below HM.out HY.out.below) hb) HCC.out.2 (ref_less (q[i]'(by have := HN.out; omega)) m (Nat.le_trans (Nat.le_of_lt hlen) (by decide)))⟩
          generalize lessL (q[i]'(by have := HN.out; omega)) m = lb at HL1 HL2
          generalize (q[i]'(by have := HN.out; omega)).length = yl at hcell hmy hC hcw HL1 HL2
          have HCE := Aside0.mk hcell
          clear hC hmy hlen hcell
          go_upto_region 19 with (go_at_call 12; refine (HL1.out _ (Below.refl _ _)).mono ?_; rintro e w5 ⟨rfl, ⟨nd, rfl⟩⟩)
          have c41' : (wr.drewN nd).cell? ⟨w.heap.size + 1, 1, none⟩ = some (.slice (some ⟨ab, ao, none⟩) n c) := pw_cell_below (pw_below_drewN (Below.refl _ _) nd) c41
          have hcw' := pw_cell_below (pw_below_drewN (Below.refl _ _) nd) hcw
          go_wp2_with (go_at_call 13; refine (HL2.out _ (pw_below_drewN (Below.refl _ _) nd)).mono ?_; rintro e w6 ⟨rfl, ⟨nd2, rfl⟩⟩)
          go_roundg (n - (i + 1))
          case measure => omega
          case rel =>
            exact ⟨i + 1, by omega, by omega, by go_num, ⟨HY.out.on (pw_below_drewN (Below.refl _ _) (nd + nd2))⟩⟩
        · have d0 : ((i : Int) < (n : Int)) = False := eq_false (by omega)
          go_wp2
          go_ret
          exact ⟨rfl, HY.out.below⟩
end Go.Proofs.Ytieijoclahcipaa.Ch
