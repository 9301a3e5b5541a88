/- What the law on numbering does, where both walks answer alike. Condition: rows within the form's reach. -/
import Derived.Test.YtgnpmcnmcbgdcaaAwP
set_option linter.unusedSimpArgs false
set_option linter.unusedVariables false
namespace Go.Proofs.Ytgnpmcnmcbgdcaa.Aw
open Go.RowKit Go.Proofs.YtgnpmcnmcbgdcaaW.PrintWords Go.Proofs.YtgnpmcnmcbgdcaaW.PrintLast Go.Proofs.YtgnpmcnmcbgdcaaW.PrintMore Go.Proofs.Ytgnpmcnmcbgdcaa.PAutoWalk

theorem k40m_C {w W : World} (hb : Below w.heap.size w W) {A : Option Addr} {n : Nat} {l : List S40} (h : (k40m w).C W A n l) : k40.C W A n l := ReadsRow.imp_ h (Below.refl _ _) (fun p c hp => k40m_K w W p c hb hp)
theorem k36m_C {w W : World} (hb : Below w.heap.size w W) {A : Option Addr} {n : Nat} {l : List S36} (h : (k36m w).C W A n l) : k36.C W A n l := ReadsRow.imp_ h (Below.refl _ _) (fun p c hp => by
  obtain ⟨c1, c2, e, ⟨A, ca, e1, l1, h1⟩, ⟨c3, c4, e2, ⟨B, cb, e3, l3, h3⟩, h4⟩⟩ := hp
  exact ⟨c1, c2, e, ⟨A, ca, e1, l1, k40m_C hb h1⟩, ⟨c3, c4, e2, ⟨B, cb, e3, l3, ReadsRow.imp_ h3 (Below.refl _ _) (fun r cr hr => by
    obtain ⟨A, ca, e1, l1, h1⟩ := hr
    exact ⟨A, ca, e1, l1, k40m_C hb h1⟩)⟩, h4⟩⟩)

/-- The ways' row of a place that was made. -/
theorem out_at {w W : World} {base : Nat} {pb : Nat} {m' c' : Nat} {xs : List S36} (h : (k36m w).R 36 W base (fun _ => True) (.slice (some ⟨pb, 0, none⟩) m' c') xs) (i : Nat) (hi : i < xs.length) :
    ∃ A0 c0, W.cell? ⟨pb, i * 7, none⟩ = some (.slice A0 xs[i].f0.length c0) ∧ (0 < xs[i].f0.length → ∃ eb cells, A0 = some ⟨eb, 0, none⟩ ∧ base ≤ eb ∧ W.heap[eb]? = some (.cells cells 40 (0, 0)) ∧ ∀ k, k < xs[i].f0.length → k * 9 + 7 < cells.size) := by
  obtain ⟨hm, _, _⟩ := Kd.R_reads' h
  obtain ⟨c, hcl, hM, hcc⟩ := Kd.R_getA h z36 (i : Int) (by omega) (by omega)
  rw [Int.toNat_natCast, List.getD_eq_getElem?_getD, List.getElem?_eq_getElem hi] at hM
  obtain ⟨c1, c2, e, ⟨v, e1, hR⟩, _⟩ := hM
  subst e e1
  obtain ⟨A0, c0, rfl⟩ := Kd.R_slice hR
  have h0 : W.cell? (Addr.add ⟨pb, 0, none⟩ ((i : Int).toNat * 7 + 0)) = _ := hcc 0 _ rfl
  rw [Int.toNat_natCast, add_at, Nat.zero_add, Nat.add_zero] at h0
  refine ⟨A0, c0, h0, fun hp => ?_⟩
  obtain ⟨eb, cap, e, hb, _, cells, hc⟩ := Kd.R_form hR hp
  injection e with e1 e2 e3
  refine ⟨eb, cells, e1, hb, hc, fun k hk => ?_⟩
  obtain ⟨_, _, hC⟩ := Kd.R_reads' hR
  obtain ⟨b, o, hw⟩ := row_at hC (by show 0 < 9; decide)
  obtain ⟨hA, cs, hl, _, hcell⟩ := hw k hk
  rw [e1] at hA
  cases hA
  have h7 : W.cell? ⟨eb, 0 + k * 9 + 7, none⟩ = _ := hcell 7 (cs[7]'(by rw [hl]; show 7 < 9; decide)) (List.getElem?_eq_getElem _)
  rw [blk_cell hc] at h7
  have := (Array.getElem?_eq_some_iff.1 h7).1
  omega

/-- Blocks of ways keep their sizes. -/
def Same40 (W W' : World) : Prop := ∀ (b : Nat) (cells : Array Value), W.heap[b]? = some (.cells cells 40 (0, 0)) → ∃ cells', W'.heap[b]? = some (.cells cells' 40 (0, 0)) ∧ cells'.size = cells.size
theorem Same40.refl (W : World) : Same40 W W := fun b cells h => ⟨cells, h, rfl⟩
theorem Same40.set {W W' : World} (h : Same40 W W') (g i : Nat) (v : Value) : Same40 W (W'.setCell ⟨g, i, none⟩ v) := fun b cells hb => by
  obtain ⟨cells', h1, h2⟩ := h b cells hb
  by_cases e : b = g
  · subst e
    exact ⟨_, blk_set h1 i v, by simpa using h2⟩
  · exact ⟨_, blk_far (p := ⟨g, i, none⟩) h1 e v, h2⟩

/-- What a walk of a proctype answers. -/
def WalkPost (P : Option Addr → Nat → Array Value) (xs : List S36) (nums : List Int) (er : Int) (w : World) (e : Ending) (w' : World) : Prop :=
  ∃ (A' : Option Addr) (c' : Nat) (B : Option Addr) (b : Nat), e = .returned (.tuple #[.agg (P A' c'), .slice B nums.length b, .int .i64 er]) ∧
    (k36m w).R 36 w' w.heap.size (fun _ => True) (.slice A' xs.length c') xs ∧ k1.R 3 w' w.heap.size (fun _ => True) (.slice B nums.length b) nums ∧ Below w.heap.size w w'

set_option maxHeartbeats 4000000 in
set_option maxRecDepth 100000 in
theorem law_walk (w : World) (nm : ByteArray) (par st fi ac pr pv : Int) (Af Ai A Am : Option Addr) (nf cf ni ci n c m cm : Nat)
    (nm' : ByteArray) (par' st' fi' ac' pr' pv' : Int) (Af' Ai' : Option Addr) (nf' cf' ni' ci' : Nat) (fr : List S62) (ini : List Int) (xs : List S36) (nums : List Int) (er : Int)
    (H4 : ∀ W, Below w.heap.size w W → Calls Try.prog 4 #[.agg (prV nm par st fi ac pr pv Af Ai A nf cf ni ci n c), .slice Am m cm] W (WalkPost (fun A' c' => prV nm' par' st' fi' ac' pr' pv' Af' Ai' A' nf' cf' ni' ci' xs.length c') xs nums er W))
    (H5 : ∀ W, Below w.heap.size w W → Calls Try.prog 5 #[.agg (prV nm par st fi ac pr pv Af Ai A nf cf ni ci n c), .slice Am m cm] W (WalkPost (fun A' c' => prV nm' par' st' fi' ac' pr' pv' Af' Ai' A' nf' cf' ni' ci' xs.length c') xs nums er W))
    (hnf : nf' = fr.length) (hF : k62.C w Af' fr.length fr) (hcf : fr.length ≤ cf') (hlf : fr.length ≤ 9223372036854775807)
    (hni : ni' = ini.length) (hI : k1.C w Ai' ini.length ini) (hci : ini.length ≤ ci') (hli : ini.length ≤ 9223372036854775807)
    (hl : xs.length ≤ 9223372036854775806) (hf : ∀ x, x ∈ xs → FewL x) (hnl : nums.length ≤ 9223372036854775807) (her : 0 ≤ er ∧ er ≤ 100) :
    Calls Try.prog 3 #[.agg (prV nm par st fi ac pr pv Af Ai A nf cf ni ci n c), .slice Am m cm] w fun e w' => e = .returned (.bool true) ∧ Below w.heap.size w w' := by
  have HSP : Aside0 (∀ W, Below w.heap.size w W → ∀ (A B : Option Addr) (c d : Nat), k36.C W A xs.length xs → k36.C W B xs.length xs → Calls Try.prog 6 #[.agg (prV nm' par' st' fi' ac' pr' pv' Af' Ai' A nf' cf' ni' ci' xs.length c), .agg (prV nm' par' st' fi' ac' pr' pv' Af' Ai' B nf' cf' ni' ci' xs.length d)] W fun e w' => e = .returned (.bool true) ∧ Below W.heap.size W w') := ⟨fun W hb A B c d hA hB => sameProc_walk W nm' par' st' fi' ac' pr' pv' Af' Ai' A B nf' cf' ni' ci' xs.length c d fr ini xs hnf (Kd.C_below hF hb) hcf hlf hni (Kd.C_below hI hb) hci hli rfl hA hB hl hf⟩
  have HH4 := Aside0.mk H4
  have HH5 := Aside0.mk H5
  have HNL := Aside0.mk hnl
  have HFW := Aside0.mk hf
  clear H4 H5 hnf hF hcf hlf hni hI hci hli hf hnl
  obtain ⟨q, hq⟩ : ∃ q, q = nums.length := ⟨_, rfl⟩
  obtain ⟨m', hm'⟩ : ∃ m', m' = xs.length := ⟨_, rfl⟩
  have HQ := Aside0.mk hq
  have HM := Aside0.mk hm'
  unfold WalkPost at HH4 HH5
  rw [← hq, ← hm'] at HH4 HH5
  rw [← hm'] at HSP hl
  clear hq hm'
  unfold prV at HH4 HH5 HSP ⊢
  go_enter Try.func3, Try.ntmps3
  go_upto_region 1 with fail
  obtain ⟨g2, hg2⟩ : ∃ g2, g2 = w.heap.size := ⟨_, rfl⟩
  rw [← hg2]
  refine wp_world (fun W => Aside0 (Below w.heap.size w W ∧ W.heap[g2]? = some (.cells (prV nm par st fi ac pr pv Af Ai A nf cf ni ci n c) 26 (0, 0)))) ⟨below_alloc (Below.refl _ _) _, by rw [hg2]; exact blk_new _ _⟩ (fun W1 H1 => ?_)
  clear hg2
  obtain ⟨z0, z1, z2, z3, z4, z5, z6, z7, z8, z9⟩ := cells10 H1.out.2
  go_upto_region 2 with (go_at_call 4; refine (HH4.out _ H1.out.1).mono ?_; rintro e w2 ⟨A2, c2, B2, b2, rfl, hR2, hN2, hB2⟩; have H2 := Aside0.mk (And.intro hR2 (And.intro hN2 hB2)); clear hR2 hN2 hB2)
  clear z0 z1 z2 z3 z4 z5 z6 z7 z8 z9
  obtain ⟨g5, hg5⟩ : ∃ g5, g5 = w2.heap.size := ⟨_, rfl⟩
  rw [← hg5]
  have HG5 := Aside0.mk (show w.heap.size ≤ g5 ∧ g2 < g5 from ⟨by rw [hg5]; exact Nat.le_trans H1.out.1.size H2.out.2.2.size, by rw [hg5]; exact Nat.lt_of_lt_of_le (blk_lt H1.out.2) H2.out.2.2.size⟩)
  have HC1 := Aside0.mk H1.out.1
  refine wp_world (fun W => Aside0 (Below w.heap.size w W ∧ Below W1.heap.size W1 W ∧ W.heap[g2]? = some (.cells (prV nm par st fi ac pr pv Af Ai A nf cf ni ci n c) 26 (0, 0)) ∧ W.heap[g5]? = some (.cells (prV nm' par' st' fi' ac' pr' pv' Af' Ai' A2 nf' cf' ni' ci' m' c2) 26 (0, 0)) ∧ (k36m W1).R 36 W W1.heap.size (fun _ => True) (.slice A2 m' c2) xs ∧ k1.R 3 W W1.heap.size (fun _ => True) (.slice B2 q b2) nums)) ⟨below_then H1.out.1 H1.out.1.size (below_alloc H2.out.2.2 _), below_alloc H2.out.2.2 _, blk_alloc (blk_below H1.out.2 H2.out.2.2) _, by rw [hg5]; exact blk_new _ _, Kd.R_below H2.out.1 (below_alloc (Below.refl _ _) _), Kd.R_below H2.out.2.1 (below_alloc (Below.refl _ _) _)⟩ (fun W3 H3 => ?_)
  clear hg5 H1 H2
  obtain ⟨z0, z1, z2, z3, z4, z5, z6, z7, z8, z9⟩ := cells10 H3.out.2.2.1
  go_upto_region 3 with (go_at_call 5; refine (HH5.out _ H3.out.1).mono ?_; rintro e w4 ⟨A4, c4, B4, b4, rfl, hR2, hN2, hB2⟩; have H4 := Aside0.mk (And.intro hR2 (And.intro hN2 hB2)); clear hR2 hN2 hB2)
  clear z0 z1 z2 z3 z4 z5 z6 z7 z8 z9
  obtain ⟨g8, hg8⟩ : ∃ g8, g8 = w4.heap.size := ⟨_, rfl⟩
  rw [← hg8]
  have HC3 := Aside0.mk H3.out.1
  refine wp_world (fun W => Aside0 (Below w.heap.size w W ∧ Below W3.heap.size W3 W ∧ W.heap[g2]? = some (.cells (prV nm par st fi ac pr pv Af Ai A nf cf ni ci n c) 26 (0, 0)) ∧ W.heap[g5]? = some (.cells (prV nm' par' st' fi' ac' pr' pv' Af' Ai' A2 nf' cf' ni' ci' m' c2) 26 (0, 0)) ∧ ((k36m W1).R 36 W W1.heap.size (fun _ => True) (.slice A2 m' c2) xs ∧ k1.R 3 W W1.heap.size (fun _ => True) (.slice B2 q b2) nums) ∧ W.heap[g8]? = some (.cells (prV nm' par' st' fi' ac' pr' pv' Af' Ai' A4 nf' cf' ni' ci' m' c4) 26 (0, 0)) ∧ ((k36m W3).R 36 W W3.heap.size (fun _ => True) (.slice A4 m' c4) xs ∧ k1.R 3 W W3.heap.size (fun _ => True) (.slice B4 q b4) nums) ∧ Below W1.heap.size W1 W)) ⟨below_then H3.out.1 H3.out.1.size (below_alloc H4.out.2.2 _), below_alloc H4.out.2.2 _, blk_alloc (blk_below H3.out.2.2.1 H4.out.2.2) _, blk_alloc (blk_below H3.out.2.2.2.1 H4.out.2.2) _, ⟨Kd.R_below H3.out.2.2.2.2.1 (below_alloc H4.out.2.2 _), Kd.R_below H3.out.2.2.2.2.2 (below_alloc H4.out.2.2 _)⟩, by rw [hg8]; exact blk_new _ _, ⟨Kd.R_below H4.out.1 (below_alloc (Below.refl _ _) _), Kd.R_below H4.out.2.1 (below_alloc (Below.refl _ _) _)⟩, below_then H3.out.2.1 H3.out.2.1.size (below_alloc H4.out.2.2 _)⟩ (fun W5 H5 => ?_)
  clear hg8 H3 H4
  obtain ⟨z0, z1, z2, z3, z4, z5, z6, z7, z8, z9⟩ := cells10 H5.out.2.2.2.1
  obtain ⟨y0, y1, y2, y3, y4, y5, y6, y7, y8, y9⟩ := cells10 H5.out.2.2.2.2.2.1
  have HCA := Aside0.mk (show k36.C W5 A2 m' xs from by rw [HM.out]; exact k36m_C H5.out.2.2.2.2.2.2.2 (Kd.R_reads' H5.out.2.2.2.2.1.1).2.2)
  have HCB := Aside0.mk (show k36.C W5 A4 m' xs from by rw [HM.out]; exact k36m_C H5.out.2.1 (Kd.R_reads' H5.out.2.2.2.2.2.2.1.1).2.2)
  go_upto_region 4 with (go_at_call 6; refine (HSP.out _ H5.out.1 _ _ _ _ HCA.out HCB.out).mono ?_; rintro e w6 ⟨rfl, hB⟩; have HB6 := Aside0.mk hB; clear hB)
  clear z0 z1 z2 z3 z4 z5 z6 z7 z8 z9 y0 y1 y2 y3 y4 y5 y6 y7 y8 y9 HCA HCB
  have H6 : Aside0 (Below w.heap.size w w6 ∧ w6.heap[g2]? = some (.cells (prV nm par st fi ac pr pv Af Ai A nf cf ni ci n c) 26 (0, 0)) ∧ w6.heap[g5]? = some (.cells (prV nm' par' st' fi' ac' pr' pv' Af' Ai' A2 nf' cf' ni' ci' m' c2) 26 (0, 0)) ∧ (k36m W1).R 36 w6 W1.heap.size (fun _ => True) (.slice A2 m' c2) xs ∧ k1.R 3 w6 W1.heap.size (fun _ => True) (.slice B2 q b2) nums ∧ k1.R 3 w6 W3.heap.size (fun _ => True) (.slice B4 q b4) nums) := ⟨below_then H5.out.1 H5.out.1.size HB6.out, blk_below H5.out.2.2.1 HB6.out, blk_below H5.out.2.2.2.1 HB6.out, Kd.R_below H5.out.2.2.2.2.1.1 HB6.out, Kd.R_below H5.out.2.2.2.2.1.2 HB6.out, Kd.R_below H5.out.2.2.2.2.2.2.1.2 HB6.out⟩
  clear H5 HB6
  have HINT : Aside0 (∀ (W : World) (A B : Option Addr) (ca cb : Nat), nums.length ≤ ca → nums.length ≤ cb → k1.C W A nums.length nums → k1.C W B nums.length nums → Calls Try.prog 7 #[.slice A q ca, .slice B q cb] W fun e w' => e = .returned (.bool true) ∧ Drawn0 W w') := ⟨fun W A B ca cb h1 h2 hA hB => ints_walk W A B q ca cb nums HQ.out hA hB h1 h2 HNL.out W (Below.refl _ _)⟩
  have HI1 := Aside0.mk (HINT.out w6 B2 B4 b2 b4 (by have h := Kd.R_reads' H6.out.2.2.2.2.1; rw [← h.1]; exact h.2.1) (by have h := Kd.R_reads' H6.out.2.2.2.2.2; rw [← h.1]; exact h.2.1) (Kd.R_reads' H6.out.2.2.2.2.1).2.2 (Kd.R_reads' H6.out.2.2.2.2.2).2.2)
  go_upto_region 5 with (go_at_call 7; refine HI1.out.mono ?_; rintro e w7 ⟨rfl, hD⟩; have HD7 := Aside0.mk hD.below; clear hD)
  have H7 : Aside0 (Below w.heap.size w w7 ∧ w7.heap[g2]? = some (.cells (prV nm par st fi ac pr pv Af Ai A nf cf ni ci n c) 26 (0, 0)) ∧ w7.heap[g5]? = some (.cells (prV nm' par' st' fi' ac' pr' pv' Af' Ai' A2 nf' cf' ni' ci' m' c2) 26 (0, 0)) ∧ (k36m W1).R 36 w7 W1.heap.size (fun _ => True) (.slice A2 m' c2) xs ∧ k1.R 3 w7 W3.heap.size (fun _ => True) (.slice B4 q b4) nums) := ⟨below_then H6.out.1 H6.out.1.size HD7.out, blk_below H6.out.2.1 HD7.out, blk_below H6.out.2.2.1 HD7.out, Kd.R_below H6.out.2.2.2.1 HD7.out, Kd.R_below H6.out.2.2.2.2.2 HD7.out⟩
  clear H6 HD7 HI1
  go_wp2
  go_loopg [13] m' (fun gg s13 wz => ∃ i : Nat, i ≤ m' ∧ m' - i ≤ gg ∧ s13 = .int .i64 i ∧ Aside0 (KeepT [40] w7 wz ∧ Below w.heap.size w wz ∧ Same40 w7 wz))
  case atStart => exact ⟨0, Nat.zero_le _, Nat.le_of_eq (Nat.sub_zero _), rfl, ⟨KeepT.refl _ _, H7.out.1, Same40.refl _⟩⟩
  case round =>
    obtain ⟨i, hi, hg, rfl, HW⟩ := hrel
    have c54 : wr.cell? ⟨g5, 4, none⟩ = some (.slice A2 m' c2) := (blk_cell (HW.out.1.block _ _ _ (by decide) H7.out.2.2.1) 4).trans rfl
    by_cases hlt : i < m'
    · have d0 : ((i : Int) < (m' : Int)) = True := eq_true (by omega)
      have hix : i < xs.length := by have := HM.out; omega
      obtain ⟨pb, cap, e, _, _, pcs, hpb⟩ := Kd.R_form (by have h := H7.out.2.2.2.1; rw [HM.out] at h; exact h) (Nat.lt_of_le_of_lt (Nat.zero_le _) hix)
      injection e with e1 e2 e3
      subst e1
      clear e2 e3
      obtain ⟨A0, c0, q0, hout⟩ := out_at H7.out.2.2.2.1 i hix
      have HPB := Aside0.mk hpb
      have HQ0 := Aside0.mk q0
      have HOUT := Aside0.mk hout
      have hn0 := (HFW.out _ (List.getElem_mem hix)).out.len
      have p0 : wr.cell? ⟨pb, i * 7, none⟩ = some (.slice A0 xs[i].f0.length c0) := by rw [blk_cell (HW.out.1.block _ _ _ (by decide) hpb), ← blk_cell hpb]; exact q0
      generalize xs[i].f0.length = n0 at p0 HQ0 HOUT hn0
      clear hpb q0 hout hix
      go_wp2
      obtain ⟨wo, hwo⟩ : ∃ wo, wo = wr := ⟨_, rfl⟩
      subst hwo
      go_loopg [14] n0 (fun gg s14 wz => ∃ k : Nat, k ≤ n0 ∧ n0 - k ≤ gg ∧ s14 = .int .i64 k ∧ Aside0 (KeepT [40] w7 wz ∧ Below w.heap.size w wz ∧ Same40 w7 wz))
      case atStart => exact ⟨0, Nat.zero_le _, Nat.le_of_eq (Nat.sub_zero _), rfl, HW⟩
      case round =>
        clear p0 c54
        obtain ⟨k, hk, hg2, rfl, HZ⟩ := hrel
        have c54 : wr.cell? ⟨g5, 4, none⟩ = some (.slice (some ⟨pb, 0, none⟩) m' c2) := (blk_cell (HZ.out.1.block _ _ _ (by decide) H7.out.2.2.1) 4).trans rfl
        have p0 : wr.cell? ⟨pb, i * 7, none⟩ = some (.slice A0 n0 c0) := by rw [blk_cell (HZ.out.1.block _ _ _ (by decide) HPB.out), ← blk_cell HPB.out]; exact HQ0.out
        by_cases hkn : k < n0
        · have d1 : ((k : Int) < (n0 : Int)) = True := eq_true (by omega)
          obtain ⟨eb, cells, rfl, hbe, hce, hsz⟩ := HOUT.out (by omega)
          obtain ⟨cells', hce', hs'⟩ := HZ.out.2.2 eb cells hce
          have hlt7 : k * 9 + 7 < cells'.size := by rw [hs']; exact hsz k hkn
          have u0 : wr.cell? ⟨eb, k * 9 + 7, none⟩ = some cells'[k * 9 + 7] := by rw [blk_cell hce']; exact Array.getElem?_eq_getElem hlt7
          have f0 := blk_frozen hce' (k * 9 + 7)
          have HE := Aside0.mk (And.intro hbe hce')
          generalize cells'[k * 9 + 7] = uv at u0
          clear hbe hce hsz hce' hs' hlt7
          go_wp2
          go_roundg (n0 - (k + 1))
          case measure => omega
          case rel =>
            refine ⟨k + 1, by omega, by omega, by go_num, ⟨HZ.out.1.set HE.out.2 (by decide) _ _, HZ.out.2.1.setCell (by show w.heap.size ≤ eb; have := HE.out.1; have := HC1.out.size; omega) _, HZ.out.2.2.set _ _ _⟩⟩
        · have d1 : ((k : Int) < (n0 : Int)) = False := eq_false (by omega)
          clear hg2
          go_wp2
          go_roundg (m' - (i + 1))
          case measure => omega
          case rel => exact ⟨i + 1, by omega, by omega, by go_num, HZ⟩
    · have d0 : ((i : Int) < (m' : Int)) = False := eq_false (by omega)
      have HW8 : Aside0 (Below w.heap.size w wr ∧ wr.heap[g2]? = some (.cells (prV nm par st fi ac pr pv Af Ai A nf cf ni ci n c) 26 (0, 0)) ∧ k1.R 3 wr W3.heap.size (fun _ => True) (.slice B4 q b4) nums) := ⟨HW.out.2.1, HW.out.1.block _ _ _ (by decide) H7.out.2.1, R_keepT H7.out.2.2.2.2 HW.out.1 (by show ∀ q, q ∈ [3] → q ∉ [40]; decide)⟩
      clear H7 HW hg hi hlt
      obtain ⟨z0, z1, z2, z3, z4, z5, z6, z7, z8, z9⟩ := cells10 HW8.out.2.1
      go_upto_region 13 with (go_at_call 4; refine (HH4.out _ HW8.out.1).mono ?_; rintro e w9 ⟨A9, c9, B9, b9, rfl, hR2, hN2, hB2⟩; have H9 := Aside0.mk (And.intro hR2 (And.intro hN2 hB2)); clear hR2 hN2 hB2)
      clear z0 z1 z2 z3 z4 z5 z6 z7 z8 z9 c54
      have HI9 := Aside0.mk (And.intro (Kd.R_reads' (Kd.R_below H9.out.2.1 (below_alloc (Below.refl _ _) (.cells #[.string nm', .int .i64 par', .slice Af' nf' cf', .slice Ai' ni' ci', .slice A9 m' c9, .int .i64 st', .int .i64 fi', .int .i64 ac', .int .i64 pr', .int .i64 pv'] 26)))) (Kd.R_reads' (Kd.R_below HW8.out.2.2 (below_alloc H9.out.2.2 (.cells #[.string nm', .int .i64 par', .slice Af' nf' cf', .slice Ai' ni' ci', .slice A9 m' c9, .int .i64 st', .int .i64 fi', .int .i64 ac', .int .i64 pr', .int .i64 pv'] 26)))))
      have HI2 := Aside0.mk (HINT.out _ B9 B4 b9 b4 (by rw [← HI9.out.1.1]; exact HI9.out.1.2.1) (by rw [← HI9.out.1.1]; exact HI9.out.2.2.1) HI9.out.1.2.2 HI9.out.2.2.2)
      have HB9 := Aside0.mk (below_then HW8.out.1 HW8.out.1.size (below_alloc H9.out.2.2 (.cells #[.string nm', .int .i64 par', .slice Af' nf' cf', .slice Ai' ni' ci', .slice A9 m' c9, .int .i64 st', .int .i64 fi', .int .i64 ac', .int .i64 pr', .int .i64 pv'] 26)))
      clear H9 HI9
      go_upto_region 14 with (go_at_call 7; refine HI2.out.mono ?_; rintro e w10 ⟨rfl, hD⟩; have HB10 := Aside0.mk (below_then HB9.out HB9.out.size hD.below); clear hD)
      clear HI2
      go_wp2
      go_ret
      exact ⟨rfl, HB10.out⟩
end Go.Proofs.Ytgnpmcnmcbgdcaa.Aw
