/- How a message is put: the walk of chans.Put. Condition: at most 2^47/24 - 1 messages, each of at most 2^44 numbers. -/
import Derived.Test.YtieijoclahcipaaChF
import Derived.Test.YtieijoclahcipaaChG
import Derived.Deep.RegionWith
set_option linter.unusedSimpArgs false
set_option linter.unusedVariables false
namespace Go.Proofs.Ytieijoclahcipaa.Ch
open Go.RowKit Go.Proofs.YtieijoclahcipaaW.PrintWords Go.Proofs.YtieijoclahcipaaW.PrintLast Go.Proofs.YtieijoclahcipaaW.PrintMore Go.Proofs.Ytieijoclahcipaa.PChansPut Go.Proofs.Ytieijoclahcipaa.Vm

/-- A message, fitted to a channel's shape. -/
def fitsL (fs : List S47) (m : List Int) : List Int := List.zipWith (fun t v => fitv t.f0 t.f1 v) fs m
/-- A message is put into a queue. -/
def insL (sorted : Bool) (x : List Int) (q : List (List Int)) : List (List Int) :=
  q.take (if sorted = true then spot x q else q.length) ++ [x] ++ q.drop (if sorted = true then spot x q else q.length)
/-- What is told of a put. -/
def putE (room : Int) (fs : List S47) (q : List (List Int)) (m : List Int) : Int :=
  if m.length ≠ fs.length then 42 else if ∃ t, t ∈ fs ∧ typeL t.f0 t.f1 = false then 42 else if room ≤ q.length then 45 else 0
/-- The channel behind a put. -/
def putS (sh room : Int) (fs : List S47) (q : List (List Int)) (m : List Int) : Int := if putE room fs q m = 0 then sh else 0
def putQ (room : Int) (fs : List S47) (q : List (List Int)) (m : List Int) (sorted : Bool) : List (List Int) := if putE room fs q m = 0 then insL sorted (fitsL fs m) q else []

/-- What stays while the message is fitted. -/
structure PutW (w wr : World) (room sh : Int) (Af A : Option Addr) (nf cf n c ml kk : Nat) (fs : List S47) (m : List Int) (xs : List Int) : Prop where
  b0 : wr.heap[w.heap.size]? = some (.cells #[.int .i64 room, .slice Af nf cf] 24 (0, 0))
  b1 : wr.heap[w.heap.size + 1]? = some (.cells #[.int .i64 sh, .slice A n c] 27 (0, 0))
  b2 : wr.heap[w.heap.size + 1 + 1]? = some (.cells #[.int .i64 0, .slice none 0 0] 27 (0, 0))
  b4 : wr.heap[w.heap.size + 1 + 1 + 1 + 1]? = some (.cells #[.slice (some ⟨w.heap.size + 1 + 1 + 1, 0, none⟩) ml ml] 29 (0, 0))
  x : kd1.R 2 wr w.heap.size (fun _ => True) (.slice (some ⟨w.heap.size + 1 + 1 + 1, 0, none⟩) ml ml) xs
  len : xs.length = ml
  fit : ∀ j, j < kk → xs[j]? = (fitsL fs m)[j]?
  types : ∀ j (h : j < fs.length), j < kk → typeL fs[j].f0 fs[j].f1 = true
  below : Below w.heap.size w wr

theorem PutW.on {w wr w1 : World} {room sh : Int} {Af A : Option Addr} {nf cf n c ml kk : Nat} {fs : List S47} {m : List Int} {xs : List Int} (h : PutW w wr room sh Af A nf cf n c ml kk fs m xs) (hb : Below wr.heap.size wr w1) : PutW w w1 room sh Af A nf cf n c ml kk fs m xs :=
  ⟨blk_below h.b0 hb, blk_below h.b1 hb, blk_below h.b2 hb, blk_below h.b4 hb, Kd.R_below h.x hb, h.len, h.fit, h.types, below_then h.below h.below.size hb⟩

theorem fits_len {fs : List S47} {m : List Int} {ml : Nat} (h : ml = m.length ∧ ml = fs.length) : (fitsL fs m).length = ml := by
  unfold fitsL
  rw [List.length_zipWith]
  omega

theorem fits_at {fs : List S47} {m : List Int} (k : Nat) (h0 : k < fs.length) (h1 : k < m.length) : (fitsL fs m)[k]? = some (fitv fs[k].f0 fs[k].f1 m[k]) := by
  unfold fitsL
  rw [List.getElem?_zipWith, List.getElem?_eq_getElem h0, List.getElem?_eq_getElem h1]

/-- One number more is fitted. -/
theorem PutW.put {w wr : World} {room sh : Int} {Af A : Option Addr} {nf cf n c ml kk : Nat} {fs : List S47} {m : List Int} {xs : List Int} (h : PutW w wr room sh Af A nf cf n c ml kk fs m xs) (hn : ml = m.length ∧ ml = fs.length) (h0 : kk < fs.length) (h1 : kk < m.length) (ht : typeL fs[kk].f0 fs[kk].f1 = true) :
    PutW w (wr.setCell ⟨w.heap.size + 1 + 1 + 1, kk, none⟩ (.int .i64 (fitv fs[kk].f0 fs[kk].f1 m[kk]))) room sh Af A nf cf n c ml (kk + 1) fs m (xs.set kk (fitv fs[kk].f0 fs[kk].f1 m[kk])) := by
  have hx := Kd.R_putn h.x (kk : Int) (fitv fs[kk].f0 fs[kk].f1 m[kk])
  refine ⟨blk_far h.b0 (by show w.heap.size ≠ w.heap.size + 1 + 1 + 1; omega) _, blk_far h.b1 (by show w.heap.size + 1 ≠ w.heap.size + 1 + 1 + 1; omega) _, blk_far h.b2 (by show w.heap.size + 1 + 1 ≠ w.heap.size + 1 + 1 + 1; omega) _, blk_far h.b4 (by show w.heap.size + 1 + 1 + 1 + 1 ≠ w.heap.size + 1 + 1 + 1; omega) _, hx, ?_, fun j hj => ?_, fun j hl hj => ?_, h.below.setCell (by show w.heap.size ≤ w.heap.size + 1 + 1 + 1; omega) _⟩
  · rw [List.length_set]; exact h.len
  · by_cases e : j = kk
    · subst e
      rw [List.getElem?_set_self (by rw [h.len]; omega), fits_at j h0 h1]
    · rw [List.getElem?_set_ne (by omega)]
      exact h.fit j (by omega)
  · by_cases e : j = kk
    · subst e
      exact ht
    · exact h.types j hl (by omega)

set_option maxHeartbeats 4000000 in
set_option maxRecDepth 100000 in
theorem put_walk (w : World) (room sh : Int) (Af A Am : Option Addr) (cf c cm : Nat) (fs : List S47) (q : List (List Int)) (m : List Int) (sorted : Bool) (hf : k47.C w Af fs.length fs) (hq : kd2.C w A q.length q) (hm : kd1.C w Am m.length m)
    (hql : q.length + 1 ≤ 5864062014805) (hqm : ∀ y, y ∈ q → y.length < 17592186044416) (hml : m.length < 17592186044416) :
    Calls Try.prog 8 #[.agg #[.int .i64 room, .slice Af fs.length cf], .agg #[.int .i64 sh, .slice A q.length c], .slice Am m.length cm, .bool sorted] w fun e w' =>
      ∃ v, e = .returned (.tuple #[.agg #[.int .i64 (putS sh room fs q m), v], .int .i64 (putE room fs q m)]) ∧ kd2.R 29 w' w.heap.size (fun _ => True) v (putQ room fs q m sorted) ∧ Below w.heap.size w w' := by
  have HF := Aside0.mk hf
  have HQ := Aside0.mk hq
  have HM := Aside0.mk hm
  have HQM := Aside0.mk hqm
  have hfm := Kd.C_max hf
  clear hf hq hm hqm
  by_cases hne : m.length = fs.length
  · obtain ⟨ml, hmm⟩ : ∃ ml, ml = m.length := ⟨_, rfl⟩
    rw [← hmm] at hne HM hml ⊢
    rw [← hne] at hfm HF ⊢
    have HN := Aside0.mk (And.intro hmm hne)
    have hmk := print_make 29 2 .i64 8 Try.underlying29 info2 (by decide) ml (by omega)
    clear hmm hne
    go_enter Try.func8, Try.ntmps8
    go_wp2
    go_loopg [29] ml (fun gg s29 wr => ∃ (kk : Nat) (xs : List Int), kk ≤ ml ∧ ml - kk ≤ gg ∧ s29 = .int .i64 kk ∧ Aside0 (PutW w wr room sh Af A ml cf q.length c ml kk fs m xs))
    case atStart =>
      refine ⟨0, List.replicate ml 0, Nat.zero_le _, Nat.le_of_eq (Nat.sub_zero _), rfl, ⟨?_, ?_, ?_, ?_, ?_, by simp, fun j hj => absurd hj (Nat.not_lt_zero _), fun j _ hj => absurd hj (Nat.not_lt_zero _), ?_⟩⟩
      · exact blk_alloc (blk_alloc (blk_alloc (blk_alloc (blk_new _ _) _) _) _) _
      · have := blk_new (w.alloc (Obj.cells #[Value.int IntKind.i64 room, Value.slice Af ml cf] 24)) (Obj.cells #[Value.int IntKind.i64 sh, Value.slice A q.length c] 27)
        refine blk_alloc (blk_alloc (blk_alloc ?_ _) _) _
        simpa using this
      · have := blk_new ((w.alloc (Obj.cells #[Value.int IntKind.i64 room, Value.slice Af ml cf] 24)).alloc (Obj.cells #[Value.int IntKind.i64 sh, Value.slice A q.length c] 27)) (Obj.cells #[Value.int IntKind.i64 0, Value.slice none 0 0] 27)
        refine blk_alloc (blk_alloc ?_ _) _
        simpa using this
      · have := blk_new ((((w.alloc (Obj.cells #[Value.int IntKind.i64 room, Value.slice Af ml cf] 24)).alloc (Obj.cells #[Value.int IntKind.i64 sh, Value.slice A q.length c] 27)).alloc (Obj.cells #[Value.int IntKind.i64 0, Value.slice none 0 0] 27)).alloc (.cells (madeCells #[.int .i64 0] ml) 2)) (Obj.cells #[Value.slice (some ⟨w.heap.size + 1 + 1 + 1, 0, none⟩) ml ml] 29)
        simpa using this
      · refine Kd.R_alloc ?_ _
        have h_ := own_made (((w.alloc (Obj.cells #[Value.int IntKind.i64 room, Value.slice Af ml cf] 24)).alloc (Obj.cells #[Value.int IntKind.i64 sh, Value.slice A q.length c] 27)).alloc (Obj.cells #[Value.int IntKind.i64 0, Value.slice none 0 0] 27)) w.heap.size 2 .i64 ml (by simp; omega) (by omega)
        refine Kd.R_of_own (enc := Value.int .i64) ?_ (fun _ _ => trivial)
        rw [List.length_replicate]
        simp at h_ ⊢
        exact h_
      · repeat (first | exact Below.refl _ _ | apply below_alloc)
    case round =>
      obtain ⟨kk, xs, hk, hg, rfl, HW⟩ := hrel
      by_cases hlt : kk < ml
      · have h0 : kk < fs.length := by have := HN.out; omega
        have h1 : kk < m.length := by have := HN.out; omega
        obtain ⟨ad, rfl, hx0, hx1⟩ := at_T47 HF.out (kk : Int) (by omega) (by omega)
        obtain ⟨am, rfl, hxm⟩ := cell_of_row HM.out kk h1
        have hrd : rd_T47 fs (kk : Int) = fs[kk] := by unfold rd_T47; rw [Int.toNat_natCast, List.getD_eq_getElem?_getD, List.getElem?_eq_getElem h0]; rfl
        rw [hrd] at hx0 hx1
        rw [Int.toNat_natCast] at hx0 hx1
        replace hx0 := pw_cell_below HW.out.below hx0
        replace hx1 := pw_cell_below HW.out.below hx1
        replace hxm := pw_cell_below HW.out.below hxm
        have hput := fun (ht : typeL fs[kk].f0 fs[kk].f1 = true) (w1 : World) (hb : PutW w w1 room sh (some ad) A ml cf q.length c ml kk fs m xs) => PutW.put hb HN.out h0 h1 ht
        have HP := Aside0.mk hput
        have HX := Aside0.mk (fun (w1 : World) (hb : PutW w w1 room sh (some ad) A ml cf q.length c ml kk fs m xs) => Kd.R_celln (0 : Int) hb.x (kk : Int) (by omega) (by omega))
        obtain ⟨tb, htb⟩ : ∃ tb, typeL fs[kk].f0 fs[kk].f1 = tb := ⟨_, rfl⟩
        have HT := Aside0.mk htb
        have HG := Aside0.mk ((type_tells fs[kk].f0 fs[kk].f1).trans (congrArg some htb))
        have HV := Aside0.mk (fit_tells 0 fs[kk].f0 fs[kk].f1 m[kk])
        have d0 : ((kk : Int) < (ml : Int)) = True := eq_true (by omega)
        have HBAD := Aside0.mk (show typeL fs[kk].f0 fs[kk].f1 = false → putE room fs q m = 42 from fun hf => by
          have := HN.out
          unfold putE
          rw [if_neg (by omega), if_pos ⟨fs[kk], List.getElem_mem h0, hf⟩])
        clear htb hput hrd
        generalize fs[kk] = t at hx0 hx1 HP HT HG HV HBAD
        generalize m[kk] = mv at hxm HP HV
        cases tb with
        | false =>
          go_wp2_with (first
            | (go_at_call 19; refine (good_Type.calls _ _ _ _ HG.out).mono ?_; rintro e w1 ⟨rfl, hB1⟩; have HW1 := Aside0.mk ((HW.out.on (below_alloc (Below.refl _ _) _)).on hB1); clear hB1; have c20 : w1.cell? ⟨w.heap.size + 1 + 1, 0, none⟩ = some (.int .i64 0) := (blk_cell HW1.out.b2 0).trans rfl; have c21 : w1.cell? ⟨w.heap.size + 1 + 1, 1, none⟩ = some (.slice none 0 0) := (blk_cell HW1.out.b2 1).trans rfl; have f20 := blk_frozen HW1.out.b2 0; have f21 := blk_frozen HW1.out.b2 1))
          rw [show putE room fs q m = 42 from HBAD.out HT.out, show putS sh room fs q m = 0 by unfold putS; rw [HBAD.out HT.out]; rfl, show putQ room fs q m sorted = [] by unfold putQ; rw [HBAD.out HT.out]; rfl]
          refine bodyPost_ret (v := .tuple #[.agg #[.int .i64 0, .slice none 0 0], .int .i64 42]) (by simp [results, Try.results8, go_sem, c20, c21]) rfl ⟨_, rfl, Kd.R_nil _ _ _ _ _, ?_⟩
          exact (HW1.out.below.setCell (by show w.heap.size ≤ w.heap.size + 1 + 1; omega) _).setCell (by show w.heap.size ≤ w.heap.size + 1 + 1; omega) _
        | true =>
          have HC4 := Aside0.mk (fun (w1 : World) (hb : PutW w w1 room sh (some ad) A ml cf q.length c ml kk fs m xs) => (show w1.cell? ⟨w.heap.size + 1 + 1 + 1 + 1, 0, none⟩ = some (.slice (some ⟨w.heap.size + 1 + 1 + 1, 0, none⟩) ml ml) from (blk_cell hb.b4 0).trans rfl))
          go_wp2_with (first
            | (go_at_call 19; refine (good_Type.calls _ _ _ _ HG.out).mono ?_; rintro e w1 ⟨rfl, hB1⟩; have HW1 := Aside0.mk ((HW.out.on (below_alloc (Below.refl _ _) _)).on hB1); have hb47 := blk_below (blk_new wr _) hB1; have hb47 := Aside0.mk hb47; have c40 : w1.cell? ⟨wr.heap.size, 0, none⟩ = some (.int .i64 t.f0) := (blk_cell hb47.out 0).trans rfl; have c41 : w1.cell? ⟨wr.heap.size, 1, none⟩ = some (.bool t.f1) := (blk_cell hb47.out 1).trans rfl; have c4 := HC4.out w1 HW1.out; have cmv := pw_cell_below hB1 (pw_cell_below (below_alloc (Below.refl _ _) (Obj.cells #[Value.int IntKind.i64 t.f0, Value.bool t.f1] 47)) hxm); clear hB1))
          go_region_with ((go_at_call 20; refine (value_Fit.calls 1 _ _ _ _ _ HV.out).mono ?_; rintro e w2 ⟨rfl, hB2⟩; have HW2 := Aside0.mk (HW1.out.on ((below_drew (Below.refl w1.heap.size w1)).trans hB2)); clear hB2; have c4' := HC4.out w2 HW2.out; have hx2 := HX.out w2 HW2.out; rw [Int.toNat_natCast] at hx2; obtain ⟨cx, fx⟩ := hx2))
          all_goals (
            go_wp2
            go_roundg (ml - (kk + 1))
            case measure => omega
            case rel => exact ⟨kk + 1, _, by omega, by omega, by go_num, ⟨HP.out HT.out w2 HW2.out⟩⟩)
      · have hkm : kk = ml := by omega
        subst hkm
        have hxs : xs = fitsL fs m := by
          refine List.ext_getElem? fun j => ?_
          by_cases hj : j < kk
          · exact HW.out.fit j hj
          · rw [List.getElem?_eq_none (by rw [HW.out.len]; omega), List.getElem?_eq_none (by rw [fits_len HN.out]; omega)]
        have HXS := Aside0.mk hxs
        have HTY := Aside0.mk (show ¬ ∃ t, t ∈ fs ∧ typeL t.f0 t.f1 = false from fun ⟨t, ht, hf⟩ => by
          obtain ⟨j, hj, rfl⟩ := List.mem_iff_getElem.1 ht
          rw [HW.out.types j hj (by have := HN.out; omega)] at hf
          cases hf)
        clear hxs
        have d0 : ((kk : Int) < (kk : Int)) = False := eq_false (by omega)
        have c00 : wr.cell? ⟨w.heap.size, 0, none⟩ = some (.int .i64 room) := (blk_cell HW.out.b0 0).trans rfl
        have c10 : wr.cell? ⟨w.heap.size + 1, 0, none⟩ = some (.int .i64 sh) := (blk_cell HW.out.b1 0).trans rfl
        have c11 : wr.cell? ⟨w.heap.size + 1, 1, none⟩ = some (.slice A q.length c) := (blk_cell HW.out.b1 1).trans rfl
        by_cases hroom : room ≤ q.length
        · have dr : (room ≤ (q.length : Int)) = True := eq_true hroom
          have hE : putE room fs q m = 45 := by unfold putE; rw [if_neg (by have := HN.out; omega), if_neg HTY.out, if_pos hroom]
          have HE := Aside0.mk hE
          have c20 : wr.cell? ⟨w.heap.size + 1 + 1, 0, none⟩ = some (.int .i64 0) := (blk_cell HW.out.b2 0).trans rfl
          have c21 : wr.cell? ⟨w.heap.size + 1 + 1, 1, none⟩ = some (.slice none 0 0) := (blk_cell HW.out.b2 1).trans rfl
          have f20 := blk_frozen HW.out.b2 0
          have f21 := blk_frozen HW.out.b2 1
          clear hE hroom
          go_wp2
          rw [HE.out, show putS sh room fs q m = 0 by unfold putS; rw [HE.out]; rfl, show putQ room fs q m sorted = [] by unfold putQ; rw [HE.out]; rfl]
          refine bodyPost_ret (v := .tuple #[.agg #[.int .i64 0, .slice none 0 0], .int .i64 45]) (by simp [results, Try.results8, go_sem, c20, c21]) rfl ⟨_, rfl, Kd.R_nil _ _ _ _ _, ?_⟩
          exact (HW.out.below.setCell (by show w.heap.size ≤ w.heap.size + 1 + 1; omega) _).setCell (by show w.heap.size ≤ w.heap.size + 1 + 1; omega) _
        · have dr : (room ≤ (q.length : Int)) = False := eq_false hroom
          have hE : putE room fs q m = 0 := by unfold putE; rw [if_neg (by have := HN.out; omega), if_neg HTY.out, if_neg hroom]
          have HE := Aside0.mk (show putE room fs q m = 0 ∧ putS sh room fs q m = sh ∧ putQ room fs q m sorted = insL sorted xs q from ⟨hE, by unfold putS; rw [hE]; rfl, by unfold putQ; rw [hE, ← HXS.out]; rfl⟩)
          clear hE hroom
          go_upto_region 14 with (go_at_call 21; refine (copied_walk _ _ _ _ q (Kd.C_below HQ.out HW.out.below) (by omega) HQM.out).mono ?_; rintro e w1 ⟨vq, rfl, hR1, hB1⟩; obtain ⟨A1, c1, rfl⟩ := Kd.R_slice hR1; have HW1 := Aside0.mk (HW.out.on hB1); have HR1 := Aside0.mk hR1; have HB1 := Aside0.mk hB1; clear hR1 hB1)
          obtain ⟨W2, hW2⟩ : ∃ W2, W2 = w1.alloc (.cells #[.int .i64 sh, .slice A1 q.length c1] 27) := ⟨_, rfl⟩
          have hb5 : W2.heap[w1.heap.size]? = some (.cells #[.int .i64 sh, .slice A1 q.length c1] 27 (0, 0)) := by rw [hW2]; exact blk_new _ _
          have HW2 : Aside0 (PutW w W2 room sh Af A kk cf q.length c kk kk fs m xs) := ⟨by rw [hW2]; exact HW1.out.on (below_alloc (Below.refl _ _) _)⟩
          have HR2 : Aside0 (kd2.R 29 W2 wr.heap.size (fun _ => True) (.slice A1 q.length c1) q) := ⟨by rw [hW2]; exact Kd.R_alloc HR1.out _⟩
          have HIX : Aside0 (Calls Try.prog 22 #[.slice A1 q.length c1, .func (.func 23) #[] #[.pointer (some ⟨w.heap.size + 1 + 1 + 1 + 1, 0, none⟩)]] W2 fun e w' => e = .returned (.int .i64 (if spot xs q < q.length then (spot xs q : Int) else -1)) ∧ Drawn0 W2 w') := ⟨by
            have hx := (Kd.R_reads' HW2.out.x)
            have hl := HW2.out.len
            refine index_walk W2 _ (some ⟨w.heap.size + 1 + 1 + 1, 0, none⟩) A1 kk c1 xs q ?_ hx.2.2 (Kd.R_reads' HR2.out).2.2
            rw [hl]
            exact (blk_cell HW2.out.b4 0).trans rfl⟩
          have HINS : Aside0 (∀ (W : World) (i : Nat), Below W2.heap.size W2 W → i ≤ q.length → Calls Try.prog 24 #[.slice A1 q.length c1, .int .i64 i, .slice (some ⟨W.heap.size, 0, none⟩) 1 1] (W.alloc (.cells #[.slice (some ⟨w.heap.size + 1 + 1 + 1, 0, none⟩) kk kk] 29)) fun e w' =>
              ∃ v, e = .returned v ∧ kd2.R 29 w' w.heap.size (fun _ => True) v (q.take i ++ [xs] ++ q.drop i) ∧ w'.heap[w1.heap.size]? = some (.cells #[.int .i64 sh, .slice A1 q.length c1] 27 (0, 0)) ∧ w'.heap[w.heap.size + 1 + 1]? = some (.cells #[.int .i64 0, .slice none 0 0] 27 (0, 0)) ∧ Below w.heap.size w w') := ⟨by
            intro W i hb hi
            have HWW := HW2.out.on hb
            have HRR := Kd.R_below HR2.out hb
            have h4 := blk_lt HW.out.b4
            refine (insert_walk W w.heap.size _ _ q xs i (fun k => some k = (Value.slice (some ⟨w.heap.size + 1 + 1 + 1, 0, none⟩) kk kk).ownBlock) hi (Kd.R_lower HRR HW.out.below.size) (Kd.R_tight rfl HWW.x) ?_ HWW.below.size hql).mono ?_
            · intro k hk e
              have hk1 : k = w.heap.size + 1 + 1 + 1 := by simpa [Value.ownBlock] using hk
              have hk2 := Kd.R_base HRR k e.symm
              omega
            · rintro e w' ⟨v, rfl, hR, hB, hG⟩
              have h5 := blk_below hb5 hb
              exact ⟨v, rfl, hR, blk_grown h5 hG (Kd.R_ne HRR h5 (by decide)), blk_grown HWW.b2 hG (Kd.R_ne HRR HWW.b2 (by decide)), HWW.below.trans hB⟩⟩
          have c40 : W2.cell? ⟨w.heap.size + 1 + 1 + 1 + 1, 0, none⟩ = some (.slice (some ⟨w.heap.size + 1 + 1 + 1, 0, none⟩) kk kk) := (blk_cell HW2.out.b4 0).trans rfl
          have c50 : W2.cell? ⟨w1.heap.size, 0, none⟩ = some (.int .i64 sh) := (blk_cell hb5 0).trans rfl
          have c51 : W2.cell? ⟨w1.heap.size, 1, none⟩ = some (.slice A1 q.length c1) := (blk_cell hb5 1).trans rfl
          rw [← hW2]
          clear hW2 hb5
          have hne : ¬ (w1.heap.size = w.heap.size + 1 + 1) := by
            have h2 := blk_lt HW.out.b2
            have h3 := HB1.out.size
            omega
          have hne' : ¬ (w.heap.size + 1 + 1 = w1.heap.size) := fun e => hne e.symm
          cases sorted with
          | false =>
            go_wp2_with (go_at_call 24; refine (HINS.out W2 q.length (Below.refl _ _) (Nat.le_refl _)).mono ?_; rintro e w3 ⟨v3, rfl, hR3, h53, h23, hB3⟩; obtain ⟨A3, c3, e3⟩ := Kd.R_slice hR3; generalize List.length _ = L at e3; subst e3; have HR3 := Aside0.mk hR3; have HB3 := Aside0.mk hB3; have H53 := Aside0.mk h53; have H23 := Aside0.mk h23; have c530 : w3.cell? ⟨w1.heap.size, 0, none⟩ = some (.int .i64 sh) := (blk_cell h53 0).trans rfl; have c531 : w3.cell? ⟨w1.heap.size, 1, none⟩ = some (.slice A1 q.length c1) := (blk_cell h53 1).trans rfl; have f531 := blk_frozen h53 1; have c20 : w3.cell? ⟨w.heap.size + 1 + 1, 0, none⟩ = some (.int .i64 0) := (blk_cell h23 0).trans rfl; have c21 : w3.cell? ⟨w.heap.size + 1 + 1, 1, none⟩ = some (.slice none 0 0) := (blk_cell h23 1).trans rfl; have f20 := blk_frozen h23 0; have f21 := blk_frozen h23 1; clear hR3 h53 h23 hB3)
            refine bodyPost_ret (v := .tuple #[.agg #[.int .i64 sh, .slice A3 L c3], .int .i64 0]) (by simp [results, Try.results8, go_sem, c20, c21, hne, hne']) rfl ⟨.slice A3 L c3, ?_, ?_, ?_⟩
            · rw [HE.out.1, HE.out.2.1]
            · rw [HE.out.2.2]
              unfold insL
              rw [if_neg (by decide)]
              exact Kd.R_set (Kd.R_set (Kd.R_set HR3.out H53.out (by decide) 1 _) (blk_far H23.out (p := ⟨w1.heap.size, 1, none⟩) hne' _) (by decide) 0 _) (blk_set (blk_far H23.out (p := ⟨w1.heap.size, 1, none⟩) hne' _) 0 _) (by decide) 1 _
            · exact ((HB3.out.setCell (by show w.heap.size ≤ w1.heap.size; exact HW1.out.below.size) _).setCell (by show w.heap.size ≤ w.heap.size + 1 + 1; omega) _).setCell (by show w.heap.size ≤ w.heap.size + 1 + 1; omega) _
          | true =>
            by_cases hs : spot xs q < q.length
            · have HS := Aside0.mk hs
              rw [if_pos hs] at HIX
              clear hs
              generalize hsp : spot xs q = sp at HIX HS
              have HSP := Aside0.mk hsp
              clear hsp
              go_wp2_with (first
                | (go_at_call 22; refine HIX.out.mono ?_; rintro e w4 ⟨rfl, ⟨nd, rfl⟩⟩)
                | (go_at_call 24; refine (HINS.out (W2.drewN nd) sp (pw_below_drewN (Below.refl _ _) _) (Nat.le_of_lt HS.out)).mono ?_; rintro e w3 ⟨v3, rfl, hR3, h53, h23, hB3⟩; obtain ⟨A3, c3, e3⟩ := Kd.R_slice hR3; generalize List.length _ = L at e3; subst e3; have HR3 := Aside0.mk hR3; have HB3 := Aside0.mk hB3; have H53 := Aside0.mk h53; have H23 := Aside0.mk h23; have c530 : w3.cell? ⟨w1.heap.size, 0, none⟩ = some (.int .i64 sh) := (blk_cell h53 0).trans rfl; have c531 : w3.cell? ⟨w1.heap.size, 1, none⟩ = some (.slice A1 q.length c1) := (blk_cell h53 1).trans rfl; have f531 := blk_frozen h53 1; have c20 : w3.cell? ⟨w.heap.size + 1 + 1, 0, none⟩ = some (.int .i64 0) := (blk_cell h23 0).trans rfl; have c21 : w3.cell? ⟨w.heap.size + 1 + 1, 1, none⟩ = some (.slice none 0 0) := (blk_cell h23 1).trans rfl; have f20 := blk_frozen h23 0; have f21 := blk_frozen h23 1; clear hR3 h53 h23 hB3))
              refine bodyPost_ret (v := .tuple #[.agg #[.int .i64 sh, .slice A3 L c3], .int .i64 0]) (by simp [results, Try.results8, go_sem, c20, c21, hne, hne']) rfl ⟨.slice A3 L c3, ?_, ?_, ?_⟩
              · rw [HE.out.1, HE.out.2.1]
              · rw [HE.out.2.2]
                unfold insL
                rw [if_pos rfl, HSP.out]
                exact Kd.R_set (Kd.R_set (Kd.R_set HR3.out H53.out (by decide) 1 _) (blk_far H23.out (p := ⟨w1.heap.size, 1, none⟩) hne' _) (by decide) 0 _) (blk_set (blk_far H23.out (p := ⟨w1.heap.size, 1, none⟩) hne' _) 0 _) (by decide) 1 _
              · exact ((HB3.out.setCell (by show w.heap.size ≤ w1.heap.size; exact HW1.out.below.size) _).setCell (by show w.heap.size ≤ w.heap.size + 1 + 1; omega) _).setCell (by show w.heap.size ≤ w.heap.size + 1 + 1; omega) _
            · have HS := Aside0.mk hs
              rw [if_neg hs] at HIX
              clear hs
              go_wp2_with (first
                | (go_at_call 22; refine HIX.out.mono ?_; rintro e w4 ⟨rfl, ⟨nd, rfl⟩⟩)
                | (go_at_call 24; refine (HINS.out (W2.drewN nd) q.length (pw_below_drewN (Below.refl _ _) _) (Nat.le_refl _)).mono ?_; rintro e w3 ⟨v3, rfl, hR3, h53, h23, hB3⟩; obtain ⟨A3, c3, e3⟩ := Kd.R_slice hR3; generalize List.length _ = L at e3; subst e3; have HR3 := Aside0.mk hR3; have HB3 := Aside0.mk hB3; have H53 := Aside0.mk h53; have H23 := Aside0.mk h23; have c530 : w3.cell? ⟨w1.heap.size, 0, none⟩ = some (.int .i64 sh) := (blk_cell h53 0).trans rfl; have c531 : w3.cell? ⟨w1.heap.size, 1, none⟩ = some (.slice A1 q.length c1) := (blk_cell h53 1).trans rfl; have f531 := blk_frozen h53 1; have c20 : w3.cell? ⟨w.heap.size + 1 + 1, 0, none⟩ = some (.int .i64 0) := (blk_cell h23 0).trans rfl; have c21 : w3.cell? ⟨w.heap.size + 1 + 1, 1, none⟩ = some (.slice none 0 0) := (blk_cell h23 1).trans rfl; have f20 := blk_frozen h23 0; have f21 := blk_frozen h23 1; clear hR3 h53 h23 hB3))
              refine bodyPost_ret (v := .tuple #[.agg #[.int .i64 sh, .slice A3 L c3], .int .i64 0]) (by simp [results, Try.results8, go_sem, c20, c21, hne, hne']) rfl ⟨.slice A3 L c3, ?_, ?_, ?_⟩
              · rw [HE.out.1, HE.out.2.1]
              · rw [HE.out.2.2]
                unfold insL
                rw [if_pos rfl, show spot xs q = q.length from Nat.le_antisymm (List.findIdx_le_length) (Nat.le_of_not_lt HS.out)]
                exact Kd.R_set (Kd.R_set (Kd.R_set HR3.out H53.out (by decide) 1 _) (blk_far H23.out (p := ⟨w1.heap.size, 1, none⟩) hne' _) (by decide) 0 _) (blk_set (blk_far H23.out (p := ⟨w1.heap.size, 1, none⟩) hne' _) 0 _) (by decide) 1 _
              · exact ((HB3.out.setCell (by show w.heap.size ≤ w1.heap.size; exact HW1.out.below.size) _).setCell (by show w.heap.size ≤ w.heap.size + 1 + 1; omega) _).setCell (by show w.heap.size ≤ w.heap.size + 1 + 1; omega) _
  · have d0 : (((m.length : Int)) = (fs.length : Int)) = False := eq_false (by omega)
    have hE : putE room fs q m = 42 := by unfold putE; rw [if_pos hne]
    have hS : putS sh room fs q m = 0 := by unfold putS; rw [hE]; rfl
    have hQ : putQ room fs q m sorted = [] := by unfold putQ; rw [hE]; rfl
    rw [hE, hS, hQ]
    clear hE hS hQ hne
    have dn : (((m.length : Int)) != (fs.length : Int)) = true := by
      have : ¬ ((m.length : Int)) = (fs.length : Int) := of_eq_false d0
      simpa using this
    go_enter Try.func8, Try.ntmps8
    go_wp2
    refine bodyPost_ret (v := .tuple #[.agg #[.int .i64 0, .slice none 0 0], .int .i64 42]) (by simp [results, Try.results8, go_sem]) rfl ⟨_, rfl, Kd.R_nil _ _ _ _ _, ?_⟩
    repeat (first | exact Below.refl _ _ | apply below_alloc)
end Go.Proofs.Ytieijoclahcipaa.Ch
