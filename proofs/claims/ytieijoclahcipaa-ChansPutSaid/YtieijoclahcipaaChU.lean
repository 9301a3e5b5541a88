/- How the document puts a message: the walk of spinneretref13.Put. Condition: fewer than 2^47/24 messages, each of fewer than 2^44 numbers. -/
import Derived.Test.YtieijoclahcipaaChT
import Derived.Deep.RegionHeld3
import Derived.Deep.RegionLaw
set_option linter.unusedSimpArgs false
set_option linter.unusedVariables false
namespace Go.Proofs.Ytieijoclahcipaa.Ch
open Go.RowKit Go.Proofs.YtieijoclahcipaaW.PrintWords Go.Proofs.YtieijoclahcipaaW.PrintLast Go.Proofs.YtieijoclahcipaaW.PrintMore Go.Proofs.Ytieijoclahcipaa.PChansPut Go.Proofs.Ytieijoclahcipaa.Vm

/-- What stays: the arguments' boxes and the result's. -/
structure RpW (w wr : World) (room sh : Int) (Af A : Option Addr) (nf cf n c : Nat) : Prop where
  b4 : wr.heap[w.heap.size]? = some (.cells #[.int .i64 room, .slice Af nf cf] 24 (0, 0))
  b5 : wr.heap[w.heap.size + 1]? = some (.cells #[.int .i64 sh, .slice A n c] 27 (0, 0))
  b8 : wr.heap[w.heap.size + 1 + 1]? = some (.cells #[.int .i64 0, .slice none 0 0] 27 (0, 0))
  below : Below w.heap.size w wr
theorem RpW.on {w wr w1 : World} {room sh : Int} {Af A : Option Addr} {nf cf n c : Nat} (h : RpW w wr room sh Af A nf cf n c) (hb : Below wr.heap.size wr w1) : RpW w w1 room sh Af A nf cf n c := ⟨blk_below h.b4 hb, blk_below h.b5 hb, blk_below h.b8 hb, below_then h.below h.below.size hb⟩
theorem RpW.grown {w wr w1 : World} {room sh : Int} {Af A : Option Addr} {nf cf n c : Nat} (h : RpW w wr room sh Af A nf cf n c) {α : Type} {d : Kd α} {e base : Nat} {ok : Nat → Prop} {v : Value} {xs : List α} (hR : d.R e wr base ok v xs) (h24 : e ≠ 24) (h27 : e ≠ 27) (hg : wr.grownBy w1 v.ownBlock) (hB : Below w.heap.size w w1) : RpW w w1 room sh Af A nf cf n c :=
  ⟨blk_grown h.b4 hg (Kd.R_ne hR h.b4 h24), blk_grown h.b5 hg (Kd.R_ne hR h.b5 h27), blk_grown h.b8 hg (Kd.R_ne hR h.b8 h27), hB⟩

theorem RpW.far {w wr : World} {room sh : Int} {Af A : Option Addr} {nf cf n c g i : Nat} (h : RpW w wr room sh Af A nf cf n c) (hg : w.heap.size + 1 + 1 < g) (u : Value) : RpW w (wr.setCell ⟨g, i, none⟩ u) room sh Af A nf cf n c :=
  ⟨blk_far (p := ⟨g, i, none⟩) h.b4 (by show w.heap.size ≠ g; omega) u, blk_far (p := ⟨g, i, none⟩) h.b5 (by show w.heap.size + 1 ≠ g; omega) u, blk_far (p := ⟨g, i, none⟩) h.b8 (by show w.heap.size + 1 + 1 ≠ g; omega) u, h.below.setCell (by show w.heap.size ≤ g; omega) u⟩

theorem mix_sz (w : World) : 0 < (Kd.mix 2 kd1 kd1 w).sz := by show 0 < 1; decide
theorem mix_away (w : World) : ∀ q, q ∈ 29 :: (Kd.mix 2 kd1 kd1 w).E → q ≠ 27 := by show ∀ q, q ∈ [29, 2] → q ≠ 27; decide

theorem mix_done {w w' : World} {base n c : Nat} {ok : Nat → Prop} {A : Option Addr} {l : List (List Int)} (h : (Kd.mix 2 kd1 kd1 w).R 29 w' base ok (.slice A n c) l) (hB : Below w.heap.size w w') : n = l.length ∧ l.length ≤ c ∧ kd2.C w' A l.length l := by
  obtain ⟨h1, h2, h3⟩ := Kd.R_reads' h
  exact ⟨h1, by omega, Kd.C_read (d := kd2) (dm := Kd.mix 2 kd1 kd1 w) rfl (fun x cs hk => Kd.mix_read rfl (fun _ _ h => h) hB hk) h3⟩

set_option maxHeartbeats 1000000 in
set_option maxRecDepth 100000 in
theorem ref_put_walk (w : World) (room sh : Int) (Af A Am : Option Addr) (cf c cm : Nat) (fs : List S47) (q : List (List Int)) (m : List Int) (sorted : Bool) (hf : k47.C w Af fs.length fs) (hq : kd2.C w A q.length q) (hm : kd1.C w Am m.length m)
    (hql : q.length + 1 ≤ 5864062014805) (hqm : ∀ y, y ∈ q → y.length < 17592186044416) (hml : m.length < 17592186044416) :
    Calls Try.prog 9 #[.agg #[.int .i64 room, .slice Af fs.length cf], .agg #[.int .i64 sh, .slice A q.length c], .slice Am m.length cm, .bool sorted] w fun e w' =>
      ∃ B d, e = .returned (.tuple #[.agg #[.int .i64 (putS sh room fs q m), .slice B (putQ room fs q m sorted).length d], .int .i64 (putE room fs q m)]) ∧ (putQ room fs q m sorted).length ≤ d ∧ kd2.C w' B (putQ room fs q m sorted).length (putQ room fs q m sorted) ∧ Below w.heap.size w w' := by
  have HF := Aside0.mk hf
  have HQ := Aside0.mk hq
  have HM := Aside0.mk hm
  have HQM := Aside0.mk hqm
  have hfm := Kd.C_max hf
  clear hf hq hm hqm
  by_cases hne : m.length = fs.length
  · obtain ⟨ml, hmm⟩ : ∃ ml, ml = m.length := ⟨_, rfl⟩
    rw [← hmm] at hne HM hml ⊢
    rw [← hne] at hfm HF ⊢
    have HN := Aside0.mk (And.intro hmm hne)
    clear hmm hne
    go_enter Try.func9, Try.ntmps9
    go_wp2
    go_loopg [10, 11] ml (fun gg s10 s11 wz => ∃ (kk : Nat) (Ax : Option Addr) (cx : Nat), kk ≤ ml ∧ ml - kk ≤ gg ∧ s11 = .int .i64 kk ∧ s10 = .slice Ax kk cx ∧ Aside0 (RpW w wz room sh Af A ml cf q.length c ∧ kd1.R 2 wz w.heap.size (fun _ => True) (.slice Ax kk cx) ((fitsL fs m).take kk) ∧ (∀ j (h : j < fs.length), j < kk → typeL fs[j].f0 fs[j].f1 = true)))
    case atStart =>
      refine ⟨0, none, 0, Nat.zero_le _, Nat.le_of_eq (Nat.sub_zero _), rfl, rfl, ⟨⟨?_, ?_, ?_, ?_⟩, ?_, fun j _ h => absurd h (Nat.not_lt_zero _)⟩⟩
      · exact blk_alloc (blk_alloc (blk_new _ _) _) _
      · simpa using blk_alloc (blk_new (w.alloc (.cells #[.int .i64 room, .slice Af ml cf] 24)) (.cells #[.int .i64 sh, .slice A q.length c] 27)) (.cells #[.int .i64 0, .slice none 0 0] 27)
      · simpa using blk_new ((w.alloc (.cells #[.int .i64 room, .slice Af ml cf] 24)).alloc (.cells #[.int .i64 sh, .slice A q.length c] 27)) (.cells #[.int .i64 0, .slice none 0 0] 27)
      · repeat (first | exact Below.refl _ _ | apply below_alloc)
      · rw [List.take_zero]
        exact Kd.R_nil _ _ _ _ _
    case round =>
      obtain ⟨kk, Ax, cx, hk, hg, rfl, rfl, HW⟩ := hrel
      have c40 := (blk_cell HW.out.1.b4 0).trans rfl
      have c41 : wr.cell? ⟨w.heap.size, 1, none⟩ = some (.slice Af ml cf) := (blk_cell HW.out.1.b4 1).trans rfl
      by_cases hlt : kk < ml
      · have h0 : kk < fs.length := by have := HN.out; omega
        have h1 : kk < m.length := by have := HN.out; omega
        obtain ⟨ad, rfl, hx0, hx1⟩ := at_T47 HF.out (kk : Int) (by omega) (by omega)
        obtain ⟨am, rfl, hxm⟩ := cell_of_row HM.out kk h1
        have hrd : rd_T47 fs (kk : Int) = fs[kk] := by unfold rd_T47; rw [Int.toNat_natCast, List.getD_eq_getElem?_getD, List.getElem?_eq_getElem h0]; rfl
        rw [hrd] at hx0 hx1
        rw [Int.toNat_natCast] at hx0 hx1
        have HXW := Aside0.mk (And.intro hx0 (And.intro hx1 hxm))
        replace hx0 := pw_cell_below HW.out.1.below hx0
        replace hx1 := pw_cell_below HW.out.1.below hx1
        replace hxm := pw_cell_below HW.out.1.below hxm
        obtain ⟨tb, htb⟩ : ∃ tb, typeL fs[kk].f0 fs[kk].f1 = tb := ⟨_, rfl⟩
        have HT := Aside0.mk htb
        have HG := Aside0.mk ((ref_type fs[kk].f0 fs[kk].f1).trans (congrArg some htb))
        have HV := Aside0.mk (ref_fit fs[kk].f0 fs[kk].f1 m[kk])
        have d0 : ((kk : Int) < (ml : Int)) = True := eq_true (by omega)
        have HBAD := Aside0.mk (show typeL fs[kk].f0 fs[kk].f1 = false → putE room fs q m = 42 from fun hf => by
          have := HN.out
          unfold putE
          rw [if_neg (by omega), if_pos ⟨fs[kk], List.getElem_mem h0, hf⟩])
        have HTK := Aside0.mk (show (fitsL fs m).take (kk + 1) = (fitsL fs m).take kk ++ [fitv fs[kk].f0 fs[kk].f1 m[kk]] by rw [List.take_add_one, fits_at kk h0 h1]; rfl)
        have HTY := Aside0.mk (show typeL fs[kk].f0 fs[kk].f1 = true → ∀ j (h : j < fs.length), j < kk + 1 → typeL fs[j].f0 fs[j].f1 = true from fun ht j hj hjk => by
          by_cases e : j = kk
          · subst e
            exact ht
          · exact HW.out.2.2 j hj (by omega))
        have HLT := Aside0.mk (show ((fitsL fs m).take kk).length = kk by rw [List.length_take, fits_len HN.out]; omega)
        clear htb hrd
        generalize fs[kk] = t at hx0 hx1 HT HG HV HBAD HTK HTY HXW
        generalize m[kk] = mv at hxm HV HTK HXW
        cases tb with
        | false =>
          go_wp2_with (first
            | (go_at_call 16; refine (spinneretref11_Type.calls _ _ _ _ HG.out).mono ?_; rintro e w1 ⟨rfl, hB1⟩; have HW1 := Aside0.mk (HW.out.1.on hB1); clear hB1; have c20 : w1.cell? ⟨w.heap.size + 1 + 1, 0, none⟩ = some (.int .i64 0) := (blk_cell HW1.out.b8 0).trans rfl; have c21 : w1.cell? ⟨w.heap.size + 1 + 1, 1, none⟩ = some (.slice none 0 0) := (blk_cell HW1.out.b8 1).trans rfl; have f20 := blk_frozen HW1.out.b8 0; have f21 := blk_frozen HW1.out.b8 1))
          rw [show putE room fs q m = 42 from HBAD.out HT.out, show putS sh room fs q m = 0 by unfold putS; rw [HBAD.out HT.out]; rfl, show putQ room fs q m sorted = [] by unfold putQ; rw [HBAD.out HT.out]; rfl]
          refine bodyPost_ret (v := .tuple #[.agg #[.int .i64 0, .slice none 0 0], .int .i64 42]) (by simp [results, Try.results9, go_sem, c20, c21]) rfl ⟨none, 0, rfl, Nat.le_refl _, Kd.C_nil _ _, ?_⟩
          exact (HW1.out.below.setCell (by show w.heap.size ≤ w.heap.size + 1 + 1; omega) _).setCell (by show w.heap.size ≤ w.heap.size + 1 + 1; omega) _
        | true =>
          go_wp2_with (first
            | (go_at_call 16; refine (spinneretref11_Type.calls _ _ _ _ HG.out).mono ?_; rintro e w1 ⟨rfl, hB1⟩; have HW1 := Aside0.mk (HW.out.1.on hB1); have HX1 := Aside0.mk (Kd.R_below HW.out.2.1 hB1); have x41 := pw_cell_below hB1 c41; have xt0 := pw_cell_below hB1 hx0; have xt1 := pw_cell_below hB1 hx1; have xm := pw_cell_below hB1 hxm; clear hB1))
          have SB := Aside0.mk (fun (W : World) (hb : Below w1.heap.size w1 W) => (⟨pw_cell_below hb x41, pw_cell_below hb xt0, pw_cell_below hb xt1, pw_cell_below hb xm⟩ : W.cell? ⟨w.heap.size, 1, none⟩ = some (.slice (some ad) ml cf) ∧ W.cell? (ad.add (kk * 2)) = some (.int .i64 t.f0) ∧ W.cell? ⟨(ad.add (kk * 2)).block, (ad.add (kk * 2)).off + 1, none⟩ = some (.bool t.f1) ∧ W.cell? (am.add kk) = some (.int .i64 mv)))
          go_region_held3 (fun W => W.cell? ⟨w.heap.size, 1, none⟩ = some (.slice (some ad) ml cf) ∧ W.cell? (ad.add (kk * 2)) = some (.int .i64 t.f0) ∧ W.cell? ⟨(ad.add (kk * 2)).block, (ad.add (kk * 2)).off + 1, none⟩ = some (.bool t.f1) ∧ W.cell? (am.add kk) = some (.int .i64 mv))
            ((first | exact HS3.out | exact SB.out _ (by repeat (first | exact HB2.out | exact Below.refl _ _ | apply below_alloc | apply below_drew))))
            ((first
              | (go_at_call 25; refine (spinneretref05_Fit.calls _ _ _ _ _ HV.out).mono ?_; rintro e w2 ⟨rfl, hB2⟩; have HB2 := Aside0.mk ((below_drew (Below.refl w1.heap.size w1)).trans hB2); clear hB2)
              | (refine Kd.R_append_step kd1 (w0 := w) (W := w2) w.heap.size rfl (.tmp 39) (.tmp 50) 29 2 (.int .i64 0) 8 rfl Try.underlying29 info2 rfl (by decide) (by decide) (.slice Ax kk cx) ((fitsL fs m).take kk) (fitv t.f0 t.f1 mv) [.int .i64 (fitv t.f0 t.f1 mv)] (fun _ => True) (fun k => some k ≠ (Value.slice Ax kk cx).ownBlock) (by simp [Act.eval, Act.put]) (by simp [Act.eval, Act.put]) rfl (fun k hk => ⟨trivial, hk⟩) (fun _ _ => trivial) (Kd.R_below HX1.out HB2.out) (below_then HW1.out.below HW1.out.below.size HB2.out) (Nat.le_trans HW1.out.below.size HB2.out.size) (by rw [HLT.out]; omega) ?_; intro v1 w3 hR3 hB3 hg3 hat3; have HR3 := Aside0.mk (And.intro hR3 (And.intro hB3 (RpW.grown (HW1.out.on HB2.out) (Kd.R_below HX1.out HB2.out) (by decide) (by decide) hg3 hB3))); have HS3 := Aside0.mk (show w3.cell? ⟨w.heap.size, 1, none⟩ = some (.slice (some ad) ml cf) ∧ w3.cell? (ad.add (kk * 2)) = some (.int .i64 t.f0) ∧ w3.cell? ⟨(ad.add (kk * 2)).block, (ad.add (kk * 2)).off + 1, none⟩ = some (.bool t.f1) ∧ w3.cell? (am.add kk) = some (.int .i64 mv) from ⟨(blk_cell HR3.out.2.2.b4 1).trans rfl, pw_cell_below hB3 HXW.out.1, pw_cell_below hB3 HXW.out.2.1, pw_cell_below hB3 HXW.out.2.2⟩); obtain ⟨A3, c3, e3⟩ := Kd.R_slice hR3; rw [List.length_append, HLT.out, List.length_singleton] at e3; subst e3; clear hR3 hB3 hg3 hat3)))
          go_wp2
          go_roundg (ml - (kk + 1))
          case measure => omega
          case rel =>
            refine ⟨kk + 1, A3, c3, by omega, by omega, by go_num, rfl, ⟨HR3.out.2.2, ?_, HTY.out HT.out⟩⟩
            rw [HTK.out]
            exact HR3.out.1
      · have hkm : kk = ml := by omega
        subst hkm
        have d0 : ((kk : Int) < (kk : Int)) = False := eq_false (by omega)
        have hX := HW.out.2.1
        rw [List.take_of_length_le (by rw [fits_len HN.out]; exact Nat.le_refl _)] at hX
        have HTY := Aside0.mk (show ¬ ∃ t, t ∈ fs ∧ typeL t.f0 t.f1 = false from fun ⟨t, ht, hf⟩ => by
          obtain ⟨j, hj, rfl⟩ := List.mem_iff_getElem.1 ht
          rw [HW.out.2.2 j hj (by have := HN.out; omega)] at hf
          cases hf)
        have c40 : wr.cell? ⟨w.heap.size, 0, none⟩ = some (.int .i64 room) := (blk_cell HW.out.1.b4 0).trans rfl
        have c50 : wr.cell? ⟨w.heap.size + 1, 0, none⟩ = some (.int .i64 sh) := (blk_cell HW.out.1.b5 0).trans rfl
        have c51 : wr.cell? ⟨w.heap.size + 1, 1, none⟩ = some (.slice A q.length c) := (blk_cell HW.out.1.b5 1).trans rfl
        by_cases hroom : room ≤ q.length
        · have dr : (room ≤ (q.length : Int)) = True := eq_true hroom
          have c20 : wr.cell? ⟨w.heap.size + 1 + 1, 0, none⟩ = some (.int .i64 0) := (blk_cell HW.out.1.b8 0).trans rfl
          have c21 : wr.cell? ⟨w.heap.size + 1 + 1, 1, none⟩ = some (.slice none 0 0) := (blk_cell HW.out.1.b8 1).trans rfl
          have f20 := blk_frozen HW.out.1.b8 0
          have f21 := blk_frozen HW.out.1.b8 1
          have hE : putE room fs q m = 45 := by
            unfold putE
            rw [if_neg (by have := HN.out; omega), if_neg HTY.out, if_pos hroom]
          have hS : putS sh room fs q m = 0 := by unfold putS; rw [hE]; rfl
          have hQ : putQ room fs q m sorted = [] := by unfold putQ; rw [hE]; rfl
          have HE := Aside0.mk (And.intro hE (And.intro hS hQ))
          clear hE hS hQ hroom hX
          go_wp2
          rw [HE.out.1, HE.out.2.1, HE.out.2.2]
          refine bodyPost_ret (v := .tuple #[.agg #[.int .i64 0, .slice none 0 0], .int .i64 45]) (by simp [results, Try.results9, go_sem, c20, c21]) rfl ⟨none, 0, rfl, Nat.le_refl _, Kd.C_nil _ _, ?_⟩
          exact (HW.out.1.below.setCell (by show w.heap.size ≤ w.heap.size + 1 + 1; omega) _).setCell (by show w.heap.size ≤ w.heap.size + 1 + 1; omega) _
        · have dr : (room ≤ (q.length : Int)) = False := eq_false hroom
          have hE : putE room fs q m = 0 := by
            unfold putE
            rw [if_neg (by have := HN.out; omega), if_neg HTY.out, if_neg hroom]
          have hS : putS sh room fs q m = sh := by unfold putS; rw [hE]; rfl
          have hQ : putQ room fs q m sorted = insL sorted (fitsL fs m) q := by unfold putQ; rw [hE]; rfl
          have HE := Aside0.mk (And.intro hE (And.intro hS hQ))
          have HFL := Aside0.mk (fits_len HN.out)
          have HX := Aside0.mk hX
          have HR := Aside0.mk HW.out.1
          generalize fitsL fs m = xs at HX HFL HE
          clear hE hS hQ hroom hX HTY HW hg hk hlt HN HM HF
          go_wp2
          have HG13 := Aside0.mk (blk_lt HR.out.b8)
          have hbn := Aside0.mk (blk_new wr (.cells #[.int .i64 sh, .slice none 0 0] 27))
          have HR1 := Aside0.mk (HR.out.on (below_alloc (Below.refl _ _) (.cells #[.int .i64 sh, .slice none 0 0] 27)))
          have HX1 := Aside0.mk (Kd.R_alloc HX.out (.cells #[.int .i64 sh, .slice none 0 0] 27))
          generalize wr.heap.size = g13 at HG13 hbn ⊢
          generalize wr.alloc (Obj.cells #[Value.int IntKind.i64 sh, Value.slice none 0 0] 27) = wa at hbn HR1 HX1 ⊢
          clear c40 c50 c51 HR HX
          go_loopg [14, 15] q.length (fun gg s14 s15 wz => ∃ (i no : Nat) (Ao : Option Addr) (co : Nat) (dn : Bool), i ≤ q.length ∧ q.length - i ≤ gg ∧ s15 = .int .i64 i ∧ s14 = .bool dn ∧ Aside0 (RpW w wz room sh Af A kk cf q.length c ∧ kd1.R 2 wz w.heap.size (fun _ => True) (.slice Ax kk cx) xs ∧ wz.heap[g13]? = some (.cells #[.int .i64 sh, .slice Ao no co] 27 (0, 0)) ∧ (Kd.mix 2 kd1 kd1 w).R 29 wz w.heap.size (fun _ => True) (.slice Ao no co) (putUpto sorted xs q i) ∧ no = (putUpto sorted xs q i).length ∧ putDone sorted xs q i = dn))
          case atStart =>
            refine ⟨0, 0, none, 0, false, Nat.zero_le _, Nat.le_of_eq (Nat.sub_zero _), rfl, rfl, ⟨HR1.out, HX1.out, hbn.out, ?_, ?_, putDone_zero _ _ _⟩⟩
            · rw [putUpto_zero]
              exact Kd.R_nil _ _ _ _ _
            · rw [putUpto_zero]
              rfl
          case round =>
            clear HR1 HX1 hbn
            obtain ⟨i, no, Ao, co, dn, hi, hg, rfl, rfl, HW⟩ := hrel
            have c51 : wr.cell? ⟨w.heap.size + 1, 1, none⟩ = some (.slice A q.length c) := (blk_cell HW.out.1.b5 1).trans rfl
            have cg0 : wr.cell? ⟨g13, 0, none⟩ = some (.int .i64 sh) := (blk_cell HW.out.2.2.1 0).trans rfl
            have cg1 : wr.cell? ⟨g13, 1, none⟩ = some (.slice Ao no co) := (blk_cell HW.out.2.2.1 1).trans rfl
            have fg0 := blk_frozen HW.out.2.2.1 0
            have fg1 := blk_frozen HW.out.2.2.1 1
            by_cases hlt : i < q.length
            · have d0 : ((i : Int) < (q.length : Int)) = True := eq_true (by omega)
              obtain ⟨ab, ao, By, my, rfl, _, hcell, hmy, hC⟩ := queue_at HQ.out i hlt
              have hcw := pw_cell_below HW.out.1.below hcell
              have hxr := Kd.R_reads' HW.out.2.1
              have HNO := Aside0.mk (show no ≤ i + 1 ∧ (dn = false → no ≤ i) from by rw [HW.out.2.2.2.2.1, putUpto_len _ _ _ _ (by omega), HW.out.2.2.2.2.2]; cases dn <;> simp)
              obtain ⟨lb, hlb⟩ : ∃ lb, lessL xs q[i] = lb := ⟨_, rfl⟩
              have HLS := Aside0.mk (fun (W : World) (hb : Below wr.heap.size wr W) => spinneretref13_Less.calls _ Ax cx xs By my q[i] lb W (Kd.C_below hxr.2.2 hb) (by have := hxr.1; have := hxr.2.1; omega) (Kd.C_below (Kd.C_below hC HW.out.1.below) hb) hmy ((ref_less xs q[i] (by have := HFL.out; omega)).trans (congrArg some hlb)))
              rw [HFL.out] at HLS
              have HY := Aside0.mk (And.intro hmy hC)
              have HHERE := Aside0.mk (show sorted = true → dn = false → lb = true → putUpto sorted xs q i ++ [xs] ++ [q[i]] = putUpto sorted xs q (i + 1) ∧ putDone sorted xs q (i + 1) = true from fun h1 h2 h3 => by
                subst h1
                exact put_step_here xs q i hlt (HW.out.2.2.2.2.2.trans h2) (hlb.trans h3))
              have HON := Aside0.mk (show sorted = false ∨ dn = true ∨ lb = false → putUpto sorted xs q i ++ [q[i]] = putUpto sorted xs q (i + 1) ∧ putDone sorted xs q (i + 1) = dn from fun h => by
                have := put_step_on sorted xs q i hlt (by rcases h with h | h | h; exact Or.inl h; exact Or.inr (Or.inl (HW.out.2.2.2.2.2.trans h)); exact Or.inr (Or.inr (hlb.trans h)))
                exact ⟨this.1, this.2.trans HW.out.2.2.2.2.2⟩)
              clear hlb hC hmy hxr
              generalize q[i] = y at hcell hcw HLS HY HHERE HON
              have HCE := Aside0.mk hcell
              clear hcell
              cases sorted with
              | false =>
                go_upto_region 22 with (first
                  | (go_at_call 13; refine (HLS.out _ (Below.refl _ _)).mono ?_; rintro e w5 ⟨rfl, ⟨nd, rfl⟩⟩))
                obtain ⟨Ao1, no1, co1, eo⟩ : ∃ Ao1 no1 co1, (Ao1, no1, co1) = (Ao, no, co) := ⟨_, _, _, rfl⟩
                injection eo with eo1 eo2
                injection eo2 with eo2 eo3
                subst eo1
                subst eo2
                subst eo3
                refine wp_world (fun W => Aside0 (RpW w W room sh Af (some ⟨ab, ao, none⟩) kk cf q.length c ∧ kd1.R 2 W w.heap.size (fun _ => True) (.slice Ax kk cx) xs ∧ W.heap[g13]? = some (.cells #[.int .i64 sh, .slice Ao1 no1 co1] 27 (0, 0)) ∧ (Kd.mix 2 kd1 kd1 w).R 29 W w.heap.size (fun _ => True) (.slice Ao1 no1 co1) (putUpto false xs q i) ∧ no1 = (putUpto false xs q i).length ∧ no1 ≤ i + 1)) ⟨HW.out.1.on (pw_below_drewN (Below.refl _ _) _), Kd.R_drewN HW.out.2.1 _, blk_drewN HW.out.2.2.1 _, Kd.R_drewN HW.out.2.2.2.1 _, HW.out.2.2.2.2.1, HNO.out.1⟩ (fun W6 HV => ?_)
                clear c51 cg0 cg1 fg0 fg1 hcw HLS
                have hcg := (blk_cell HV.out.2.2.1 1).trans rfl
                have fg1 := blk_frozen HV.out.2.2.1 1
                have hel := pw_cell_below HV.out.1.below HCE.out
                have c51' : W6.cell? ⟨w.heap.size + 1, 1, none⟩ = some (.slice (some ⟨ab, ao, none⟩) q.length c) := (blk_cell HV.out.1.b5 1).trans rfl
                have cga : (W6.alloc (Obj.cells #[Value.slice By y.length my] 29)).cell? ⟨g13, 1, none⟩ = some (.slice Ao1 no1 co1) := (blk_cell (blk_alloc HV.out.2.2.1 _) 1).trans rfl
                go_region_law (first
                  | (refine Kd.R_append_step (Kd.mix 2 kd1 kd1 w) (w0 := w) (W := W6.drew) w.heap.size rfl (.tmp 91) (.tmp 97) 25 29 (.slice none 0 0) 24 rfl Try.underlying25 info29 rfl (mix_sz w) (by decide) (.slice Ao1 no1 co1) (putUpto false xs q i) y [.slice By y.length my] (fun _ => True) (fun _ => False) (by simp [Act.eval, Act.put]) (by simp [Act.eval, Act.put]) (Kd.mix_came HY.out.1 HY.out.2) (fun k hk => hk.elim) (fun _ _ => trivial) (Kd.R_drew HV.out.2.2.2.1) HV.out.1.below.drew HV.out.1.below.size (by rw [← HV.out.2.2.2.2.1]; have := HV.out.2.2.2.2.2; omega) ?_; intro v7 w7 hR7 hB7 hg7 hat7; have hb7 := blk_grown (show W6.drew.heap[g13]? = _ from HV.out.2.2.1) hg7 (Kd.R_ne (Kd.R_drew HV.out.2.2.2.1) HV.out.2.2.1 (by decide)); have HR7 := Aside0.mk (And.intro hR7 (And.intro hb7 (And.intro (RpW.grown (HV.out.1.on (below_drew (Below.refl _ _))) (Kd.R_drew HV.out.2.2.2.1) (by decide) (by decide) hg7 hB7) (Kd.R_over (Kd.R_drew HV.out.2.1) (Kd.R_drew HV.out.2.2.2.1) (by decide) hg7)))); have cg7 : w7.cell? ⟨g13, 1, none⟩ = some (.slice Ao1 no1 co1) := (blk_cell hb7 1).trans rfl; have fg7 := blk_frozen hb7 1; obtain ⟨A7, c7, e7⟩ := Kd.R_slice hR7; rw [List.length_append, ← HV.out.2.2.2.2.1, List.length_singleton] at e7; subst e7; have HB7 := Aside0.mk hB7; clear hR7 hB7 hg7 hat7 hb7))
                all_goals (
                  go_wp2
                  go_roundg (q.length - (i + 1))
                  case measure => omega
                  case rel =>
                    have hstp : (putUpto false xs q i) ++ [y] = putUpto false xs q (i + 1) ∧ putDone false xs q (i + 1) = dn := by first | exact HON.out (by simp) | exact HON.out | exact HON.out (by simp) (by simp) (by simp)
                    obtain ⟨hst, hdn⟩ := hstp
                    have hset := Kd.R_set HR7.out.1 HR7.out.2.1 (mix_away w) 1 (.slice A7 (no1 + 1) c7)
                    refine ⟨i + 1, no1 + 1, A7, c7, _, by omega, by omega, by go_num, rfl, ⟨HR7.out.2.2.1.far HG13.out _, Kd.R_set HR7.out.2.2.2 HR7.out.2.1 (by decide) 1 _, blk_set HR7.out.2.1 1 _, ?_, ?_, ?_⟩⟩
                    · rw [← hst]
                      exact hset
                    · rw [← hst, List.length_append, ← HV.out.2.2.2.2.1, List.length_singleton]
                    · exact hdn)
              | true =>
                cases dn with
                | true =>
                  go_upto_region 22 with (first
                    | (go_at_call 13; refine (HLS.out _ (Below.refl _ _)).mono ?_; rintro e w5 ⟨rfl, ⟨nd, rfl⟩⟩))
                  obtain ⟨Ao1, no1, co1, eo⟩ : ∃ Ao1 no1 co1, (Ao1, no1, co1) = (Ao, no, co) := ⟨_, _, _, rfl⟩
                  injection eo with eo1 eo2
                  injection eo2 with eo2 eo3
                  subst eo1
                  subst eo2
                  subst eo3
                  refine wp_world (fun W => Aside0 (RpW w W room sh Af (some ⟨ab, ao, none⟩) kk cf q.length c ∧ kd1.R 2 W w.heap.size (fun _ => True) (.slice Ax kk cx) xs ∧ W.heap[g13]? = some (.cells #[.int .i64 sh, .slice Ao1 no1 co1] 27 (0, 0)) ∧ (Kd.mix 2 kd1 kd1 w).R 29 W w.heap.size (fun _ => True) (.slice Ao1 no1 co1) (putUpto true xs q i) ∧ no1 = (putUpto true xs q i).length ∧ no1 ≤ i + 1)) ⟨HW.out.1.on (pw_below_drewN (Below.refl _ _) _), Kd.R_drewN HW.out.2.1 _, blk_drewN HW.out.2.2.1 _, Kd.R_drewN HW.out.2.2.2.1 _, HW.out.2.2.2.2.1, HNO.out.1⟩ (fun W6 HV => ?_)
                  clear c51 cg0 cg1 fg0 fg1 hcw HLS
                  have hcg := (blk_cell HV.out.2.2.1 1).trans rfl
                  have fg1 := blk_frozen HV.out.2.2.1 1
                  have hel := pw_cell_below HV.out.1.below HCE.out
                  have c51' : W6.cell? ⟨w.heap.size + 1, 1, none⟩ = some (.slice (some ⟨ab, ao, none⟩) q.length c) := (blk_cell HV.out.1.b5 1).trans rfl
                  have cga : (W6.alloc (Obj.cells #[Value.slice By y.length my] 29)).cell? ⟨g13, 1, none⟩ = some (.slice Ao1 no1 co1) := (blk_cell (blk_alloc HV.out.2.2.1 _) 1).trans rfl
                  go_region_law (first
                    | (refine Kd.R_append_step (Kd.mix 2 kd1 kd1 w) (w0 := w) (W := W6.drew) w.heap.size rfl (.tmp 91) (.tmp 97) 25 29 (.slice none 0 0) 24 rfl Try.underlying25 info29 rfl (mix_sz w) (by decide) (.slice Ao1 no1 co1) (putUpto true xs q i) y [.slice By y.length my] (fun _ => True) (fun _ => False) (by simp [Act.eval, Act.put]) (by simp [Act.eval, Act.put]) (Kd.mix_came HY.out.1 HY.out.2) (fun k hk => hk.elim) (fun _ _ => trivial) (Kd.R_drew HV.out.2.2.2.1) HV.out.1.below.drew HV.out.1.below.size (by rw [← HV.out.2.2.2.2.1]; have := HV.out.2.2.2.2.2; omega) ?_; intro v7 w7 hR7 hB7 hg7 hat7; have hb7 := blk_grown (show W6.drew.heap[g13]? = _ from HV.out.2.2.1) hg7 (Kd.R_ne (Kd.R_drew HV.out.2.2.2.1) HV.out.2.2.1 (by decide)); have HR7 := Aside0.mk (And.intro hR7 (And.intro hb7 (And.intro (RpW.grown (HV.out.1.on (below_drew (Below.refl _ _))) (Kd.R_drew HV.out.2.2.2.1) (by decide) (by decide) hg7 hB7) (Kd.R_over (Kd.R_drew HV.out.2.1) (Kd.R_drew HV.out.2.2.2.1) (by decide) hg7)))); have cg7 : w7.cell? ⟨g13, 1, none⟩ = some (.slice Ao1 no1 co1) := (blk_cell hb7 1).trans rfl; have fg7 := blk_frozen hb7 1; obtain ⟨A7, c7, e7⟩ := Kd.R_slice hR7; rw [List.length_append, ← HV.out.2.2.2.2.1, List.length_singleton] at e7; subst e7; have HB7 := Aside0.mk hB7; clear hR7 hB7 hg7 hat7 hb7))
                  all_goals (
                    go_wp2
                    go_roundg (q.length - (i + 1))
                    case measure => omega
                    case rel =>
                      have hstp : (putUpto true xs q i) ++ [y] = putUpto true xs q (i + 1) ∧ putDone true xs q (i + 1) = true := by first | exact HON.out (by simp) | exact HON.out | exact HON.out (by simp) (by simp) (by simp)
                      obtain ⟨hst, hdn⟩ := hstp
                      have hset := Kd.R_set HR7.out.1 HR7.out.2.1 (mix_away w) 1 (.slice A7 (no1 + 1) c7)
                      refine ⟨i + 1, no1 + 1, A7, c7, _, by omega, by omega, by go_num, rfl, ⟨HR7.out.2.2.1.far HG13.out _, Kd.R_set HR7.out.2.2.2 HR7.out.2.1 (by decide) 1 _, blk_set HR7.out.2.1 1 _, ?_, ?_, ?_⟩⟩
                      · rw [← hst]
                        exact hset
                      · rw [← hst, List.length_append, ← HV.out.2.2.2.2.1, List.length_singleton]
                      · exact hdn)
                | false =>
                  cases lb with
                  | false =>
                    go_upto_region 22 with (first
                      | (go_at_call 13; refine (HLS.out _ (Below.refl _ _)).mono ?_; rintro e w5 ⟨rfl, ⟨nd, rfl⟩⟩))
                    obtain ⟨Ao1, no1, co1, eo⟩ : ∃ Ao1 no1 co1, (Ao1, no1, co1) = (Ao, no, co) := ⟨_, _, _, rfl⟩
                    injection eo with eo1 eo2
                    injection eo2 with eo2 eo3
                    subst eo1
                    subst eo2
                    subst eo3
                    refine wp_world (fun W => Aside0 (RpW w W room sh Af (some ⟨ab, ao, none⟩) kk cf q.length c ∧ kd1.R 2 W w.heap.size (fun _ => True) (.slice Ax kk cx) xs ∧ W.heap[g13]? = some (.cells #[.int .i64 sh, .slice Ao1 no1 co1] 27 (0, 0)) ∧ (Kd.mix 2 kd1 kd1 w).R 29 W w.heap.size (fun _ => True) (.slice Ao1 no1 co1) (putUpto true xs q i) ∧ no1 = (putUpto true xs q i).length ∧ no1 ≤ i + 1)) ⟨HW.out.1.on (pw_below_drewN (Below.refl _ _) _), Kd.R_drewN HW.out.2.1 _, blk_drewN HW.out.2.2.1 _, Kd.R_drewN HW.out.2.2.2.1 _, HW.out.2.2.2.2.1, HNO.out.1⟩ (fun W6 HV => ?_)
                    clear c51 cg0 cg1 fg0 fg1 hcw HLS
                    have hcg := (blk_cell HV.out.2.2.1 1).trans rfl
                    have fg1 := blk_frozen HV.out.2.2.1 1
                    have hel := pw_cell_below HV.out.1.below HCE.out
                    have c51' : W6.cell? ⟨w.heap.size + 1, 1, none⟩ = some (.slice (some ⟨ab, ao, none⟩) q.length c) := (blk_cell HV.out.1.b5 1).trans rfl
                    have cga : (W6.alloc (Obj.cells #[Value.slice By y.length my] 29)).cell? ⟨g13, 1, none⟩ = some (.slice Ao1 no1 co1) := (blk_cell (blk_alloc HV.out.2.2.1 _) 1).trans rfl
                    go_region_law (first
                      | (refine Kd.R_append_step (Kd.mix 2 kd1 kd1 w) (w0 := w) (W := W6.drew) w.heap.size rfl (.tmp 91) (.tmp 97) 25 29 (.slice none 0 0) 24 rfl Try.underlying25 info29 rfl (mix_sz w) (by decide) (.slice Ao1 no1 co1) (putUpto true xs q i) y [.slice By y.length my] (fun _ => True) (fun _ => False) (by simp [Act.eval, Act.put]) (by simp [Act.eval, Act.put]) (Kd.mix_came HY.out.1 HY.out.2) (fun k hk => hk.elim) (fun _ _ => trivial) (Kd.R_drew HV.out.2.2.2.1) HV.out.1.below.drew HV.out.1.below.size (by rw [← HV.out.2.2.2.2.1]; have := HV.out.2.2.2.2.2; omega) ?_; intro v7 w7 hR7 hB7 hg7 hat7; have hb7 := blk_grown (show W6.drew.heap[g13]? = _ from HV.out.2.2.1) hg7 (Kd.R_ne (Kd.R_drew HV.out.2.2.2.1) HV.out.2.2.1 (by decide)); have HR7 := Aside0.mk (And.intro hR7 (And.intro hb7 (And.intro (RpW.grown (HV.out.1.on (below_drew (Below.refl _ _))) (Kd.R_drew HV.out.2.2.2.1) (by decide) (by decide) hg7 hB7) (Kd.R_over (Kd.R_drew HV.out.2.1) (Kd.R_drew HV.out.2.2.2.1) (by decide) hg7)))); have cg7 : w7.cell? ⟨g13, 1, none⟩ = some (.slice Ao1 no1 co1) := (blk_cell hb7 1).trans rfl; have fg7 := blk_frozen hb7 1; obtain ⟨A7, c7, e7⟩ := Kd.R_slice hR7; rw [List.length_append, ← HV.out.2.2.2.2.1, List.length_singleton] at e7; subst e7; have HB7 := Aside0.mk hB7; clear hR7 hB7 hg7 hat7 hb7))
                    all_goals (
                      go_wp2
                      go_roundg (q.length - (i + 1))
                      case measure => omega
                      case rel =>
                        have hstp : (putUpto true xs q i) ++ [y] = putUpto true xs q (i + 1) ∧ putDone true xs q (i + 1) = false := by first | exact HON.out (by simp) | exact HON.out | exact HON.out (by simp) (by simp) (by simp)
                        obtain ⟨hst, hdn⟩ := hstp
                        have hset := Kd.R_set HR7.out.1 HR7.out.2.1 (mix_away w) 1 (.slice A7 (no1 + 1) c7)
                        refine ⟨i + 1, no1 + 1, A7, c7, _, by omega, by omega, by go_num, rfl, ⟨HR7.out.2.2.1.far HG13.out _, Kd.R_set HR7.out.2.2.2 HR7.out.2.1 (by decide) 1 _, blk_set HR7.out.2.1 1 _, ?_, ?_, ?_⟩⟩
                        · rw [← hst]
                          exact hset
                        · rw [← hst, List.length_append, ← HV.out.2.2.2.2.1, List.length_singleton]
                        · exact hdn)
                  | true =>
                    have HXA := Aside0.mk (fun nd => Kd.R_apartR (Kd.R_drewN HW.out.2.1 nd) (Kd.R_drewN HW.out.2.2.2.1 nd) (by decide))
                    go_upto_region 22 with (first
                      | (go_at_call 13; refine (HLS.out _ (Below.refl _ _)).mono ?_; rintro e w5 ⟨rfl, ⟨nd, rfl⟩⟩)
                      | (at_builtin; refine Kd.R_append (Kd.mix 2 kd1 kd1 w) (w0 := w) w.heap.size rfl (.tmp 85) (.tmp 87) 25 29 (.slice none 0 0) 24 rfl Try.underlying25 info29 rfl (mix_sz w) (by decide) (.slice Ao no co) (putUpto true xs q i) xs [.slice Ax kk cx] (fun _ => True) (fun k => True ∧ some k ≠ (Value.slice Ao no co).ownBlock) rfl rfl (Kd.mix_made (HXA.out nd)) (fun k hk => hk) (fun _ _ => trivial) (Kd.R_drewN HW.out.2.2.2.1 nd) (pw_below_drewN HW.out.1.below nd) HW.out.1.below.size (by rw [← HW.out.2.2.2.2.1]; have := HNO.out.1; omega) ?_; intro v6 w6 hR6 hB6 hG6 _; have hb6 := blk_grown (blk_drewN HW.out.2.2.1 nd) hG6 (Kd.R_ne (Kd.R_drewN HW.out.2.2.2.1 nd) (blk_drewN HW.out.2.2.1 nd) (by decide)); have HR6 := Aside0.mk (And.intro hR6 (And.intro hb6 (And.intro (RpW.grown (HW.out.1.on (pw_below_drewN (Below.refl _ _) nd)) (Kd.R_drewN HW.out.2.2.2.1 nd) (by decide) (by decide) hG6 hB6) (Kd.R_over (Kd.R_drewN HW.out.2.1 nd) (Kd.R_drewN HW.out.2.2.2.1 nd) (by decide) hG6)))); obtain ⟨Ao1, co1, e6⟩ := Kd.R_slice hR6; rw [List.length_append, ← HW.out.2.2.2.2.1, List.length_singleton] at e6; subst e6; have cg1' := (blk_cell hb6 1).trans rfl; have fg1' := blk_frozen hb6 1; clear hR6 hB6 hG6 hb6))
                    obtain ⟨no1, hno1⟩ : ∃ no1, no1 = no + 1 := ⟨_, rfl⟩
                    rw [← hno1]
                    refine wp_world (fun W => Aside0 (RpW w W room sh Af (some ⟨ab, ao, none⟩) kk cf q.length c ∧ kd1.R 2 W w.heap.size (fun _ => True) (.slice Ax kk cx) xs ∧ W.heap[g13]? = some (.cells #[.int .i64 sh, .slice Ao1 no1 co1] 27 (0, 0)) ∧ (Kd.mix 2 kd1 kd1 w).R 29 W w.heap.size (fun _ => True) (.slice Ao1 no1 co1) (putUpto true xs q i ++ [xs]) ∧ no1 = (putUpto true xs q i ++ [xs]).length ∧ no1 ≤ i + 1)) ⟨HR6.out.2.2.1.far HG13.out _, Kd.R_set HR6.out.2.2.2 HR6.out.2.1 (by decide) 1 _, blk_set HR6.out.2.1 1 _, ?_, ?_, ?_⟩ (fun W6 HV => ?_)
                    · have h_ := Kd.R_set HR6.out.1 HR6.out.2.1 (mix_away w) 1 (.slice Ao1 (no + 1) co1)
                      rw [← hno1] at h_
                      exact h_
                    · rw [hno1, List.length_append, ← HW.out.2.2.2.2.1, List.length_singleton]
                    · have := HNO.out.2 (by simp)
                      omega
                    clear c51 cg0 cg1 fg0 fg1 hcw HLS cg1' fg1' HXA hno1
                    have hcg := (blk_cell HV.out.2.2.1 1).trans rfl
                    have fg1 := blk_frozen HV.out.2.2.1 1
                    have hel := pw_cell_below HV.out.1.below HCE.out
                    have c51' : W6.cell? ⟨w.heap.size + 1, 1, none⟩ = some (.slice (some ⟨ab, ao, none⟩) q.length c) := (blk_cell HV.out.1.b5 1).trans rfl
                    have cga : (W6.alloc (Obj.cells #[Value.slice By y.length my] 29)).cell? ⟨g13, 1, none⟩ = some (.slice Ao1 no1 co1) := (blk_cell (blk_alloc HV.out.2.2.1 _) 1).trans rfl
                    go_region_law (first
                      | (refine Kd.R_append_step (Kd.mix 2 kd1 kd1 w) (w0 := w) (W := W6.drew) w.heap.size rfl (.tmp 91) (.tmp 97) 25 29 (.slice none 0 0) 24 rfl Try.underlying25 info29 rfl (mix_sz w) (by decide) (.slice Ao1 no1 co1) (putUpto true xs q i ++ [xs]) y [.slice By y.length my] (fun _ => True) (fun _ => False) (by simp [Act.eval, Act.put]) (by simp [Act.eval, Act.put]) (Kd.mix_came HY.out.1 HY.out.2) (fun k hk => hk.elim) (fun _ _ => trivial) (Kd.R_drew HV.out.2.2.2.1) HV.out.1.below.drew HV.out.1.below.size (by rw [← HV.out.2.2.2.2.1]; have := HV.out.2.2.2.2.2; omega) ?_; intro v7 w7 hR7 hB7 hg7 hat7; have hb7 := blk_grown (show W6.drew.heap[g13]? = _ from HV.out.2.2.1) hg7 (Kd.R_ne (Kd.R_drew HV.out.2.2.2.1) HV.out.2.2.1 (by decide)); have HR7 := Aside0.mk (And.intro hR7 (And.intro hb7 (And.intro (RpW.grown (HV.out.1.on (below_drew (Below.refl _ _))) (Kd.R_drew HV.out.2.2.2.1) (by decide) (by decide) hg7 hB7) (Kd.R_over (Kd.R_drew HV.out.2.1) (Kd.R_drew HV.out.2.2.2.1) (by decide) hg7)))); have cg7 : w7.cell? ⟨g13, 1, none⟩ = some (.slice Ao1 no1 co1) := (blk_cell hb7 1).trans rfl; have fg7 := blk_frozen hb7 1; obtain ⟨A7, c7, e7⟩ := Kd.R_slice hR7; rw [List.length_append, ← HV.out.2.2.2.2.1, List.length_singleton] at e7; subst e7; have HB7 := Aside0.mk hB7; clear hR7 hB7 hg7 hat7 hb7))
                    all_goals (
                      go_wp2
                      go_roundg (q.length - (i + 1))
                      case measure => omega
                      case rel =>
                        have hstp : (putUpto true xs q i ++ [xs]) ++ [y] = putUpto true xs q (i + 1) ∧ putDone true xs q (i + 1) = true := by first | exact HHERE.out (by simp) | exact HHERE.out | exact HHERE.out (by simp) (by simp) (by simp)
                        obtain ⟨hst, hdn⟩ := hstp
                        have hset := Kd.R_set HR7.out.1 HR7.out.2.1 (mix_away w) 1 (.slice A7 (no1 + 1) c7)
                        refine ⟨i + 1, no1 + 1, A7, c7, _, by omega, by omega, by go_num, rfl, ⟨HR7.out.2.2.1.far HG13.out _, Kd.R_set HR7.out.2.2.2 HR7.out.2.1 (by decide) 1 _, blk_set HR7.out.2.1 1 _, ?_, ?_, ?_⟩⟩
                        · rw [← hst]
                          exact hset
                        · rw [← hst, List.length_append, ← HV.out.2.2.2.2.1, List.length_singleton]
                        · exact hdn)
            · have d0 : ((i : Int) < (q.length : Int)) = False := eq_false (by omega)
              have hiq : i = q.length := by omega
              subst hiq
              have HPE := Aside0.mk (put_end sorted xs q)
              cases dn with
              | true =>
                have hL : putUpto sorted xs q q.length = insL sorted xs q := by rw [HPE.out, if_pos HW.out.2.2.2.2.2]
                have HV := Aside0.mk (And.intro HW.out.1 (And.intro HW.out.2.2.1 (And.intro (hL ▸ HW.out.2.2.2.1) True.intro)))
                clear hL hi hg hlt cg0 cg1 fg0 fg1
                have hc0 : wr.cell? ⟨g13, 0, none⟩ = some (.int .i64 sh) := (blk_cell HV.out.2.1 0).trans rfl
                have hc1 : wr.cell? ⟨g13, 1, none⟩ = some (.slice Ao no co) := (blk_cell HV.out.2.1 1).trans rfl
                have c20 : wr.cell? ⟨w.heap.size + 1 + 1, 0, none⟩ = some (.int .i64 0) := (blk_cell HV.out.1.b8 0).trans rfl
                have c21 : wr.cell? ⟨w.heap.size + 1 + 1, 1, none⟩ = some (.slice none 0 0) := (blk_cell HV.out.1.b8 1).trans rfl
                have f20 := blk_frozen HV.out.1.b8 0
                have f21 := blk_frozen HV.out.1.b8 1
                go_wp2
                rw [HE.out.1, HE.out.2.1, HE.out.2.2]
                have hfin := mix_done (Kd.R_set (Kd.R_set HV.out.2.2.1 HV.out.1.b8 (mix_away w) 0 (.int .i64 sh)) (blk_set HV.out.1.b8 0 _) (mix_away w) 1 (.slice Ao no co)) ((HV.out.1.below.setCell (by show w.heap.size ≤ w.heap.size + 1 + 1; omega) _).setCell (by show w.heap.size ≤ w.heap.size + 1 + 1; omega) _)
                refine bodyPost_ret (v := .tuple #[.agg #[.int .i64 sh, .slice Ao no co], .int .i64 0]) (by simp [results, Try.results9, go_sem, c20, c21]) rfl ⟨Ao, co, ?_, hfin.2.1, hfin.2.2, (HV.out.1.below.setCell (by show w.heap.size ≤ w.heap.size + 1 + 1; omega) _).setCell (by show w.heap.size ≤ w.heap.size + 1 + 1; omega) _⟩
                rw [← hfin.1]
              | false =>
                have hL : putUpto sorted xs q q.length ++ [xs] = insL sorted xs q := by rw [HPE.out, if_neg (by rw [HW.out.2.2.2.2.2]; decide)]
                have HNQ := Aside0.mk (show no ≤ q.length from by rw [HW.out.2.2.2.2.1, putUpto_len _ _ _ _ (Nat.le_refl _), HW.out.2.2.2.2.2]; simp)
                have HLL := Aside0.mk hL
                clear hL
                have HXA := Aside0.mk (Kd.R_apartR HW.out.2.1 HW.out.2.2.2.1 (by decide))
                clear hi hg hlt
                go_upto_region 25 with (first
                  | (at_builtin; refine Kd.R_append (Kd.mix 2 kd1 kd1 w) (w0 := w) w.heap.size rfl (.tmp 103) (.tmp 105) 25 29 (.slice none 0 0) 24 rfl Try.underlying25 info29 rfl (mix_sz w) (by decide) (.slice Ao no co) (putUpto sorted xs q q.length) xs [.slice Ax kk cx] (fun _ => True) (fun k => True ∧ some k ≠ (Value.slice Ao no co).ownBlock) rfl rfl (Kd.mix_made HXA.out) (fun k hk => hk) (fun _ _ => trivial) HW.out.2.2.2.1 HW.out.1.below HW.out.1.below.size (by rw [← HW.out.2.2.2.2.1]; have := HNQ.out; omega) ?_; intro v6 w6 hR6 hB6 hG6 _; have hb6 := blk_grown HW.out.2.2.1 hG6 (Kd.R_ne HW.out.2.2.2.1 HW.out.2.2.1 (by decide)); have HR6 := Aside0.mk (And.intro hR6 (And.intro hb6 (RpW.grown HW.out.1 HW.out.2.2.2.1 (by decide) (by decide) hG6 hB6))); obtain ⟨Ao1, co1, e6⟩ := Kd.R_slice hR6; rw [List.length_append, ← HW.out.2.2.2.2.1, List.length_singleton] at e6; subst e6; have cg1' := (blk_cell hb6 1).trans rfl; have fg1' := blk_frozen hb6 1; clear hR6 hB6 hG6 hb6))
                obtain ⟨no1, hno1⟩ : ∃ no1, no1 = no + 1 := ⟨_, rfl⟩
                rw [← hno1]
                refine wp_world (fun W => Aside0 (RpW w W room sh Af A kk cf q.length c ∧ W.heap[g13]? = some (.cells #[.int .i64 sh, .slice Ao1 no1 co1] 27 (0, 0)) ∧ (Kd.mix 2 kd1 kd1 w).R 29 W w.heap.size (fun _ => True) (.slice Ao1 no1 co1) (insL sorted xs q) ∧ True)) ⟨HR6.out.2.2.far HG13.out _, blk_set HR6.out.2.1 1 _, ?_, trivial⟩ (fun W6 HV => ?_)
                · have h_ := Kd.R_set HR6.out.1 HR6.out.2.1 (mix_away w) 1 (.slice Ao1 (no + 1) co1)
                  rw [← hno1, HLL.out] at h_
                  exact h_
                clear c51 cg0 cg1 fg0 fg1 cg1' fg1' HXA hno1
                have hc0 : W6.cell? ⟨g13, 0, none⟩ = some (.int .i64 sh) := (blk_cell HV.out.2.1 0).trans rfl
                have hc1 : W6.cell? ⟨g13, 1, none⟩ = some (.slice Ao1 no1 co1) := (blk_cell HV.out.2.1 1).trans rfl
                have c20 : W6.cell? ⟨w.heap.size + 1 + 1, 0, none⟩ = some (.int .i64 0) := (blk_cell HV.out.1.b8 0).trans rfl
                have c21 : W6.cell? ⟨w.heap.size + 1 + 1, 1, none⟩ = some (.slice none 0 0) := (blk_cell HV.out.1.b8 1).trans rfl
                have f20 := blk_frozen HV.out.1.b8 0
                have f21 := blk_frozen HV.out.1.b8 1
                go_wp2
                rw [HE.out.1, HE.out.2.1, HE.out.2.2]
                have hfin := mix_done (Kd.R_set (Kd.R_set HV.out.2.2.1 HV.out.1.b8 (mix_away w) 0 (.int .i64 sh)) (blk_set HV.out.1.b8 0 _) (mix_away w) 1 (.slice Ao1 no1 co1)) ((HV.out.1.below.setCell (by show w.heap.size ≤ w.heap.size + 1 + 1; omega) _).setCell (by show w.heap.size ≤ w.heap.size + 1 + 1; omega) _)
                refine bodyPost_ret (v := .tuple #[.agg #[.int .i64 sh, .slice Ao1 no1 co1], .int .i64 0]) (by simp [results, Try.results9, go_sem, c20, c21]) rfl ⟨Ao1, co1, ?_, hfin.2.1, hfin.2.2, (HV.out.1.below.setCell (by show w.heap.size ≤ w.heap.size + 1 + 1; omega) _).setCell (by show w.heap.size ≤ w.heap.size + 1 + 1; omega) _⟩
                rw [← hfin.1]
  · have d0 : (((m.length : Int)) = (fs.length : Int)) = False := eq_false (by omega)
    have hE : putE room fs q m = 42 := by unfold putE; rw [if_pos hne]
    have hS : putS sh room fs q m = 0 := by unfold putS; rw [hE]; rfl
    have hQ : putQ room fs q m sorted = [] := by unfold putQ; rw [hE]; rfl
    rw [hE, hS, hQ]
    clear hE hS hQ hne
    have dn : (((m.length : Int)) != (fs.length : Int)) = true := by
      have : ¬ ((m.length : Int)) = (fs.length : Int) := of_eq_false d0
      simpa using this
    go_enter Try.func9, Try.ntmps9
    go_wp2
    refine bodyPost_ret (v := .tuple #[.agg #[.int .i64 0, .slice none 0 0], .int .i64 42]) (by simp [results, Try.results9, go_sem]) rfl ⟨none, 0, rfl, Nat.le_refl _, Kd.C_nil _ _, ?_⟩
    repeat (first | exact Below.refl _ _ | apply below_alloc)
end Go.Proofs.Ytieijoclahcipaa.Ch
