/- The document's examples of channels: the walk of shown. No condition. -/
import Derived.Test.YtieijoclahcipaaChH
import Derived.Test.YtieijoclahcipaaChI
set_option linter.unusedSimpArgs false
set_option linter.unusedVariables false
namespace Go.Proofs.Ytieijoclahcipaa.Ch
open Go.RowKit Go.Proofs.YtieijoclahcipaaW.PrintWords Go.Proofs.YtieijoclahcipaaW.PrintLast Go.Proofs.YtieijoclahcipaaW.PrintMore Go.Proofs.Ytieijoclahcipaa.PChansPut Go.Proofs.Ytieijoclahcipaa.Vm

theorem wp_world {P : Program} {c : Code} {Q : Exit → Act → World → Prop} {a : Act} {w : World} (R : World → Prop) (h : R w) (k : ∀ w', R w' → c.wp P Q a w') : c.wp P Q a w := k w h

/-- A literal message, as it is read. -/
theorem lit_in {W : World} {b t : Nat} {cs : Array Value} (l : List Int) (h : W.heap[b]? = some (.cells cs t (0, 0))) (hc : cs = (nums .i64 l).toArray) (hl : l.length ≤ 9223372036854775807) : kd1.C W (some ⟨b, 0, none⟩) l.length l := by
  subst hc
  refine ⟨rfl, hl, fun _ => ⟨_, rfl, fun j p hj => ⟨[.int .i64 p], rfl, rfl, fun i u hu => ?_⟩⟩⟩
  cases i with
  | succ i => simp at hu
  | zero =>
    simp at hu
    subst hu
    rw [Go.WideShapes.add_plain, blk_cell h]
    simp [Kd.int, Kd.scalar, nums, hj]

/-- A literal of one type. -/
theorem type_in {W : World} {b : Nat} (h : W.heap[b]? = some (.cells #[.int .i64 8, .bool false] 47 (0, 0))) : k47.C W (some ⟨b, 0, none⟩) 1 [⟨8, false⟩] := by
  refine ⟨rfl, by decide, fun _ => ⟨_, rfl, fun j p hj => ⟨[.int .i64 8, .bool false], rfl, ?_, fun i u hu => ?_⟩⟩⟩
  · cases j with
    | succ j => simp at hj
    | zero =>
      simp at hj
      subst hj
      exact k47_mk _ _
  · cases j with
    | succ j => simp at hj
    | zero =>
      rw [Go.WideShapes.add_plain, blk_cell h]
      match i, hu with
      | 0, hu => simpa using hu
      | 1, hu => simpa using hu

theorem ex_E1 : putE 2 [⟨8, false⟩] [] [300] = 0 := by decide
theorem ex_Q1 : putQ 2 [⟨8, false⟩] [] [300] false = [[44]] := by decide
theorem ex_S1 : putS 0 2 [⟨8, false⟩] [] [300] = 0 := by decide
theorem ex_E2 : putE 2 [⟨8, false⟩] [[44]] [7] = 0 := by decide
theorem ex_Q2 : putQ 2 [⟨8, false⟩] [[44]] [7] true = [[7], [44]] := by decide
theorem ex_S2 : putS 0 2 [⟨8, false⟩] [[44]] [7] = 0 := by decide
theorem ex_E3 : putE 2 [⟨8, false⟩] [[7], [44]] [7] = 45 := by decide
theorem ex_Q3 : putQ 2 [⟨8, false⟩] [[7], [44]] [7] true = [] := by decide
theorem ex_S3 : putS 0 2 [⟨8, false⟩] [[7], [44]] [7] = 0 := by decide
theorem ex_F1 : chans_Find.f 9 0 [[7], [44]] [44] [1] false = some (-1) := by decide
theorem ex_F2 : chans_Find.f 9 0 [[7], [44]] [44] [1] true = some 1 := by decide +kernel

/-- What stays through the examples. -/
structure ShW (w W : World) : Prop where
  f : W.heap[w.heap.size]? = some (.cells #[.int .i64 8, .bool false] 47 (0, 0))
  s : W.heap[w.heap.size + 1]? = some (.cells #[.int .i64 2, .slice (some ⟨w.heap.size, 0, none⟩) 1 1] 24 (0, 0))
  below : Below w.heap.size w W
theorem ShW.on {w W W' : World} (h : ShW w W) (hb : Below W.heap.size W W') : ShW w W' := ⟨blk_below h.f hb, blk_below h.s hb, below_then h.below h.below.size hb⟩
theorem drawn_on {w w' : World} (h : Drawn0 w w') : Below w.heap.size w w' := h.below

theorem less_ex (W : World) (x y u v : Int) : Calls Try.prog 12 #[.slice (some ⟨W.heap.size, 0, none⟩) 2 2, .slice (some ⟨W.heap.size + 1, 0, none⟩) 2 2] ((W.alloc (.cells #[.int .i64 x, .int .i64 y] 2)).alloc (.cells #[.int .i64 u, .int .i64 v] 2)) fun e w' => e = .returned (.bool (lessL [x, y] [u, v])) ∧ Below W.heap.size W w' := by
  have h1 : ((W.alloc (.cells #[.int .i64 x, .int .i64 y] 2)).alloc (.cells #[.int .i64 u, .int .i64 v] 2)).heap[W.heap.size]? = some (.cells #[.int .i64 x, .int .i64 y] 2 (0, 0)) := blk_alloc (blk_new _ _) _
  have h2 : ((W.alloc (.cells #[.int .i64 x, .int .i64 y] 2)).alloc (.cells #[.int .i64 u, .int .i64 v] 2)).heap[W.heap.size + 1]? = some (.cells #[.int .i64 u, .int .i64 v] 2 (0, 0)) := by
    have := blk_new (W.alloc (.cells #[.int .i64 x, .int .i64 y] 2)) (.cells #[.int .i64 u, .int .i64 v] 2)
    simpa using this
  refine (less_walk _ _ _ 2 2 [x, y] [u, v] (lit_in [x, y] h1 rfl (by simp)) (lit_in [u, v] h2 rfl (by simp))).mono ?_
  rintro e w' ⟨rfl, hD⟩
  exact ⟨rfl, below_then (below_alloc (below_alloc (Below.refl _ _) _) _) (by simp; omega) hD.below⟩

theorem put_ex (w W : World) (HW : ShW w W) (A : Option Addr) (c : Nat) (q : List (List Int)) (x : Int) (sorted : Bool) (hq : kd2.C W A q.length q) (hl : q.length ≤ 2) (hm : ∀ y, y ∈ q → y.length = 1) :
    Calls Try.prog 8 #[.agg #[.int .i64 2, .slice (some ⟨w.heap.size, 0, none⟩) 1 1], .agg #[.int .i64 0, .slice A q.length c], .slice (some ⟨W.heap.size, 0, none⟩) 1 1, .bool sorted] (W.alloc (.cells #[.int .i64 x] 2)) fun e w' =>
      ∃ B d, e = .returned (.tuple #[.agg #[.int .i64 0, .slice B (putQ 2 [⟨8, false⟩] q [x] sorted).length d], .int .i64 (putE 2 [⟨8, false⟩] q [x])]) ∧ kd2.C w' B (putQ 2 [⟨8, false⟩] q [x] sorted).length (putQ 2 [⟨8, false⟩] q [x] sorted) ∧ (putQ 2 [⟨8, false⟩] q [x] sorted).length ≤ d ∧ Below W.heap.size W w' := by
  have hb : Below W.heap.size W (W.alloc (.cells #[.int .i64 x] 2)) := below_alloc (Below.refl _ _) _
  have h1 : (W.alloc (.cells #[.int .i64 x] 2)).heap[W.heap.size]? = some (.cells #[.int .i64 x] 2 (0, 0)) := blk_new _ _
  refine (put_walk (W.alloc (.cells #[.int .i64 x] 2)) 2 0 (some ⟨w.heap.size, 0, none⟩) A (some ⟨W.heap.size, 0, none⟩) 1 c 1 [⟨8, false⟩] q [x] sorted (type_in (HW.on hb).f) (Kd.C_below hq hb) (lit_in [x] h1 rfl (by simp)) (by omega) (fun y hy => by rw [hm y hy]; decide) (by simp)).mono ?_
  rintro e w' ⟨v, rfl, hR, hB⟩
  obtain ⟨B, d, rfl, hd, hC⟩ := Kd.R_reads hR
  refine ⟨B, d, ?_, hC, hd, below_then hb (by simp) hB⟩
  have e0 : putS 0 2 [⟨8, false⟩] q [x] = 0 := by unfold putS; split <;> rfl
  rw [e0]

theorem find_ex (W : World) (A : Option Addr) (c : Nat) (hq : kd2.C W A 2 [[7], [44]]) (hc : 2 ≤ c) (any : Bool) (r : Int) (h : chans_Find.f 9 0 [[7], [44]] [44] [1] any = some r) :
    Calls Try.prog 17 #[.agg #[.int .i64 0, .slice A 2 c], .slice (some ⟨W.heap.size, 0, none⟩) 1 1, .slice (some ⟨W.heap.size + 1, 0, none⟩) 1 1, .bool any] ((W.alloc (.cells #[.int .i64 44] 2)).alloc (.cells #[.int .i64 1] 3)) fun e w' => e = .returned (.int .i64 r) ∧ Below W.heap.size W w' := by
  have hb : Below W.heap.size W ((W.alloc (.cells #[.int .i64 44] 2)).alloc (.cells #[.int .i64 1] 3)) := below_alloc (below_alloc (Below.refl _ _) _) _
  have h1 : ((W.alloc (.cells #[.int .i64 44] 2)).alloc (.cells #[.int .i64 1] 3)).heap[W.heap.size]? = some (.cells #[.int .i64 44] 2 (0, 0)) := blk_alloc (blk_new _ _) _
  have h2 : ((W.alloc (.cells #[.int .i64 44] 2)).alloc (.cells #[.int .i64 1] 3)).heap[W.heap.size + 1]? = some (.cells #[.int .i64 1] 3 (0, 0)) := by
    have := blk_new (W.alloc (.cells #[.int .i64 44] 2)) (.cells #[.int .i64 1] 3)
    simpa using this
  refine (chans_Find.calls 9 0 A c [[7], [44]] (some ⟨W.heap.size, 0, none⟩) 1 [44] (some ⟨W.heap.size + 1, 0, none⟩) 1 [1] any r _ (Kd.C_below hq hb) hc (lit_in [44] h1 rfl (by simp)) (by simp) (lit_in [1] h2 rfl (by simp)) (by simp) h).mono ?_
  rintro e w' ⟨rfl, hB⟩
  exact ⟨rfl, below_then hb (by simp; omega) hB⟩

theorem take_ex (W : World) (A : Option Addr) (c : Nat) (hq : kd2.C W A 2 [[7], [44]]) (i : Int) :
    Calls Try.prog 14 #[.agg #[.int .i64 0, .slice A 2 c], .int .i64 i] W fun e w' => ∃ B d Bm dm, e = .returned (.tuple #[.agg #[.int .i64 0, .slice B (takeQ [[7], [44]] i).length d], .slice Bm (takeM [[7], [44]] i).length dm, .int .i64 (takeE [[7], [44]] i)]) ∧ kd1.C w' Bm (takeM [[7], [44]] i).length (takeM [[7], [44]] i) ∧ Below W.heap.size W w' := by
  refine (take_walk W 0 A c [[7], [44]] i hq (by simp) (by simp)).mono ?_
  rintro e w' ⟨v, vm, rfl, hR, hV, hB⟩
  obtain ⟨B, d, rfl⟩ := Kd.R_slice hR
  obtain ⟨Bm, dm, rfl, _, hC⟩ := Kd.R_reads hV
  refine ⟨B, d, Bm, dm, ?_, hC, hB⟩
  simp

theorem ex_T1 : takeM [[7], [44]] 1 = [44] ∧ takeE [[7], [44]] 1 = 0 ∧ takeQ [[7], [44]] 1 = [[7]] := by decide
theorem ex_T2 : takeM [[7], [44]] 2 = [] ∧ takeE [[7], [44]] 2 = 46 ∧ takeQ [[7], [44]] 2 = [] := by decide

set_option maxHeartbeats 400000 in
set_option maxRecDepth 100000 in
theorem shown_walk (w : World) : Calls Try.prog 6 #[] w fun e w' => e = .returned (.bool true) ∧ Below w.heap.size w w' := by
  go_enter Try.func6, Try.ntmps6
  go_upto_region 2 with fail
  refine wp_world (fun W => Aside0 (ShW w W)) ⟨⟨?_, ?_, ?_⟩⟩ (fun W HW => ?_)
  · exact blk_alloc (blk_new _ _) _
  · have := blk_new (w.alloc (Obj.cells #[Value.int IntKind.i64 8, Value.bool false] 47)) (Obj.cells #[.int .i64 2, .slice (some ⟨w.heap.size, 0, none⟩) 1 1] 24)
    simpa using this
  · repeat (first | exact Below.refl _ _ | apply below_alloc)
  have L1 : lessL [1, 5] [2, 0] = true := by decide
  have L2 : lessL [1, 5] [1, 5] = false := by decide
  have HL1 := Aside0.mk (less_ex W 1 5 2 0)
  rw [L1] at HL1
  go_upto_region 3 with (go_at_call 12; refine HL1.out.mono ?_; rintro e w1 ⟨rfl, hB1⟩; have HW1 := Aside0.mk (HW.out.on hB1); clear hB1)
  have HL2 := Aside0.mk (less_ex w1 1 5 1 5)
  rw [L2] at HL2
  go_upto_region 4 with (go_at_call 12; refine HL2.out.mono ?_; rintro e w2 ⟨rfl, hB2⟩; have HW2 := Aside0.mk (HW1.out.on hB2); clear hB2)
  have cs0 : w2.cell? ⟨w.heap.size + 1, 0, none⟩ = some (.int .i64 2) := (blk_cell HW2.out.s 0).trans rfl
  have cs1 : w2.cell? ⟨w.heap.size + 1, 1, none⟩ = some (.slice (some ⟨w.heap.size, 0, none⟩) 1 1) := (blk_cell HW2.out.s 1).trans rfl
  have HP1 := Aside0.mk (put_ex w w2 HW2.out none 0 [] 300 false (Kd.C_nil _ _) (by simp) (by simp))
  rw [ex_E1, ex_Q1] at HP1
  go_upto_region 5 with (go_at_call 8; refine HP1.out.mono ?_; rintro e w3 ⟨B3, d3, rfl, hC3, _, hB3⟩; have HW3 := Aside0.mk (HW2.out.on hB3); have HC3 := Aside0.mk hC3; clear hB3 hC3)
  refine wp_world (fun W4 => Aside0 (ShW w W4 ∧ kd2.C W4 B3 1 [[44]]) ∧ W4.heap[w3.heap.size]? = some (.cells #[.int .i64 0, .slice B3 1 d3] 27 (0, 0))) ⟨⟨HW3.out.on (below_alloc (Below.refl _ _) _), Kd.C_alloc HC3.out _⟩, blk_new _ _⟩ (fun W4 hW4 => ?_)
  obtain ⟨HW4, hb4⟩ := hW4
  have c40 : W4.cell? ⟨w3.heap.size, 0, none⟩ = some (.int .i64 0) := (blk_cell hb4 0).trans rfl
  have c41 : W4.cell? ⟨w3.heap.size, 1, none⟩ = some (.slice B3 1 d3) := (blk_cell hb4 1).trans rfl
  have cs40 : W4.cell? ⟨w.heap.size + 1, 0, none⟩ = some (.int .i64 2) := (blk_cell HW4.out.1.s 0).trans rfl
  have cs41 : W4.cell? ⟨w.heap.size + 1, 1, none⟩ = some (.slice (some ⟨w.heap.size, 0, none⟩) 1 1) := (blk_cell HW4.out.1.s 1).trans rfl
  have HP2 := Aside0.mk (put_ex w W4 HW4.out.1 B3 d3 [[44]] 7 true HW4.out.2 (by simp) (by simp))
  rw [ex_E2, ex_Q2] at HP2
  clear HP1 HL1 HL2 cs0 cs1 hb4
  go_upto_region 6 with (go_at_call 8; refine HP2.out.mono ?_; rintro e w5 ⟨B5, d5, rfl, hC5, hd5, hB5⟩; have HW5 := Aside0.mk (HW4.out.1.on hB5); have HC5 := Aside0.mk hC5; have HD5 := Aside0.mk hd5; clear hB5 hC5 hd5)
  refine wp_world (fun W6 => Aside0 (ShW w W6 ∧ kd2.C W6 B5 2 [[7], [44]]) ∧ W6.heap[w5.heap.size]? = some (.cells #[.int .i64 0, .slice B5 2 d5] 27 (0, 0))) ⟨⟨HW5.out.on (below_alloc (Below.refl _ _) _), Kd.C_alloc HC5.out _⟩, blk_new _ _⟩ (fun W6 hW6 => ?_)
  obtain ⟨HW6, hb6⟩ := hW6
  have c60 : W6.cell? ⟨w5.heap.size, 0, none⟩ = some (.int .i64 0) := (blk_cell hb6 0).trans rfl
  have c61 : W6.cell? ⟨w5.heap.size, 1, none⟩ = some (.slice B5 2 d5) := (blk_cell hb6 1).trans rfl
  have cs60 : W6.cell? ⟨w.heap.size + 1, 0, none⟩ = some (.int .i64 2) := (blk_cell HW6.out.1.s 0).trans rfl
  have cs61 : W6.cell? ⟨w.heap.size + 1, 1, none⟩ = some (.slice (some ⟨w.heap.size, 0, none⟩) 1 1) := (blk_cell HW6.out.1.s 1).trans rfl
  have HP3 := Aside0.mk (put_ex w W6 HW6.out.1 B5 d5 [[7], [44]] 7 true HW6.out.2 (by simp) (by simp))
  rw [ex_E3, ex_Q3] at HP3
  have HB6 := Aside0.mk hb6
  clear HP2 c40 c41 cs40 cs41 hb6
  go_upto_region 7 with (go_at_call 8; refine HP3.out.mono ?_; rintro e w7 ⟨B7, d7, rfl, _, _, hB7⟩; have HW7 := Aside0.mk (HW6.out.1.on hB7); have HC7 := Aside0.mk (Kd.C_below HW6.out.2 hB7); have HB7 := Aside0.mk (blk_below HB6.out hB7); clear hB7)
  refine wp_world (fun W8 => Aside0 (ShW w W8 ∧ kd2.C W8 B5 2 [[7], [44]] ∧ W8.heap[w5.heap.size]? = some (.cells #[.int .i64 0, .slice B5 2 d5] 27 (0, 0)))) ⟨HW7.out.on (below_alloc (Below.refl _ _) _), Kd.C_alloc HC7.out _, blk_alloc HB7.out _⟩ (fun W8 HW8 => ?_)
  clear c60 c61 cs60 cs61 HP3
  have c80 : W8.cell? ⟨w5.heap.size, 0, none⟩ = some (.int .i64 0) := (blk_cell HW8.out.2.2 0).trans rfl
  have c81 : W8.cell? ⟨w5.heap.size, 1, none⟩ = some (.slice B5 2 d5) := (blk_cell HW8.out.2.2 1).trans rfl
  have HF1 := Aside0.mk (find_ex W8 B5 d5 HW8.out.2.1 HD5.out false (-1) ex_F1)
  go_upto_region 8 with (go_at_call 17; refine HF1.out.mono ?_; rintro e w9 ⟨rfl, hB9⟩; have HW9 := Aside0.mk (And.intro (HW8.out.1.on hB9) (And.intro (Kd.C_below HW8.out.2.1 hB9) (blk_below HW8.out.2.2 hB9))); clear hB9)
  clear c80 c81 HF1
  have c90 : w9.cell? ⟨w5.heap.size, 0, none⟩ = some (.int .i64 0) := (blk_cell HW9.out.2.2 0).trans rfl
  have c91 : w9.cell? ⟨w5.heap.size, 1, none⟩ = some (.slice B5 2 d5) := (blk_cell HW9.out.2.2 1).trans rfl
  have HF2 := Aside0.mk (find_ex w9 B5 d5 HW9.out.2.1 HD5.out true 1 ex_F2)
  go_upto_region 9 with (go_at_call 17; refine HF2.out.mono ?_; rintro e w10 ⟨rfl, hB10⟩; have HW10 := Aside0.mk (And.intro (HW9.out.1.on hB10) (And.intro (Kd.C_below HW9.out.2.1 hB10) (blk_below HW9.out.2.2 hB10))); clear hB10)
  clear c90 c91 HF2
  have c100 : w10.cell? ⟨w5.heap.size, 0, none⟩ = some (.int .i64 0) := (blk_cell HW10.out.2.2 0).trans rfl
  have c101 : w10.cell? ⟨w5.heap.size, 1, none⟩ = some (.slice B5 2 d5) := (blk_cell HW10.out.2.2 1).trans rfl
  have HT1 := Aside0.mk (take_ex w10 B5 d5 HW10.out.2.1 1)
  rw [ex_T1.1, ex_T1.2.1, ex_T1.2.2] at HT1
  go_upto_region 10 with (go_at_call 14; refine HT1.out.mono ?_; rintro e w11 ⟨B11, d11, Bm, dm, rfl, hC11, hB11⟩; have HW11 := Aside0.mk (And.intro (HW10.out.1.on hB11) (And.intro (Kd.C_below HW10.out.2.1 hB11) (blk_below HW10.out.2.2 hB11))); have HC11 := Aside0.mk hC11; clear hB11 hC11)
  clear c100 c101 HT1
  refine wp_world (fun W12 => Aside0 ((ShW w W12 ∧ kd2.C W12 B5 2 [[7], [44]] ∧ W12.heap[w5.heap.size]? = some (.cells #[.int .i64 0, .slice B5 2 d5] 27 (0, 0))) ∧ kd1.C W12 Bm 1 [44])) ⟨⟨HW11.out.1.on (below_alloc (Below.refl _ _) _), Kd.C_alloc HW11.out.2.1 _, blk_alloc HW11.out.2.2 _⟩, Kd.C_alloc HC11.out _⟩ (fun W12 HW12 => ?_)
  have c120 : W12.cell? ⟨w5.heap.size, 0, none⟩ = some (.int .i64 0) := (blk_cell HW12.out.1.2.2 0).trans rfl
  have c121 : W12.cell? ⟨w5.heap.size, 1, none⟩ = some (.slice B5 2 d5) := (blk_cell HW12.out.1.2.2 1).trans rfl
  have HT2 := Aside0.mk (take_ex W12 B5 d5 HW12.out.1.2.1 2)
  rw [ex_T2.1, ex_T2.2.1, ex_T2.2.2] at HT2
  go_upto_region 11 with (go_at_call 14; refine HT2.out.mono ?_; rintro e w13 ⟨B13, d13, Bm', dm', rfl, _, hB13⟩; have HW13 := Aside0.mk (And.intro (HW12.out.1.1.on hB13) (Kd.C_below HW12.out.2 hB13)); clear hB13)
  clear c120 c121 HT2
  refine wp_world (fun W14 => Aside0 (ShW w W14 ∧ kd1.C W14 Bm 1 [44])) ⟨HW13.out.1.on (below_alloc (Below.refl _ _) _), Kd.C_alloc HW13.out.2 _⟩ (fun W14 HW14 => ?_)
  obtain ⟨am, rfl, ham⟩ := cell_of_row HW14.out.2 0 (by decide)
  have ham' : W14.cell? am = some (.int .i64 44) := by
    have e : am.add 0 = am := by unfold Addr.add; rw [if_pos rfl]
    rw [e] at ham
    exact ham
  clear ham
  go_wp2
  all_goals (go_ret; exact ⟨rfl, HW14.out.1.below⟩)
end Go.Proofs.Ytieijoclahcipaa.Ch
