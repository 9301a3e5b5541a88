/- Like places are like, by the reference's words. Condition: fewer than 2^63 entries. -/
import Derived.Test.YtgnpmcnmcbgdcaaAwL
import Derived.StillTailTactics
set_option linter.unusedSimpArgs false
set_option linter.unusedVariables false
namespace Go.Proofs.Ytgnpmcnmcbgdcaa.Aw
open Go.RowKit Go.Proofs.YtgnpmcnmcbgdcaaW.PrintWords Go.Proofs.YtgnpmcnmcbgdcaaW.PrintLast Go.Proofs.YtgnpmcnmcbgdcaaW.PrintMore Go.Proofs.Ytgnpmcnmcbgdcaa.PAutoWalk

/-- Ways that are not too many. -/
structure FewW (r : List S40) : Prop where
  len : r.length ≤ 9223372036854775806
  stm : ∀ x, x ∈ r → x.f0.f4.length ≤ 9223372036854775807 ∧ x.f0.f5.length ≤ 9223372036854775807
/-- A place whose ways are not too many. -/
structure FewL (x : S36) : Prop where
  out : FewW x.f0
  len : x.f1.length ≤ 9223372036854775806
  esc : ∀ r, r ∈ x.f1 → FewW r

theorem ways_same (W : World) (A B : Option Addr) (n ca cb : Nat) (l : List S40) (hn : n = l.length) (hA : k40.C W A l.length l) (hB : k40.C W B l.length l) (hf : FewW l) :
    ∀ W', Below W.heap.size W W' → Calls Try.prog 25 #[.slice A n ca, .slice B n cb] W' fun e w' => e = .returned (.bool true) ∧ Below W'.heap.size W' w' := by
  intro W' hb
  subst hn
  exact sameWays_walk W' A B ca cb l (Kd.C_below hA hb) (Kd.C_below hB hb) hf.len hf.stm

theorem below_drew_l {W w' : World} (h : Below W.drew.heap.size W.drew w') : Below W.heap.size W w' := (below_drew (Below.refl W.heap.size W)).trans h

set_option maxHeartbeats 2000000 in
set_option maxRecDepth 100000 in
theorem sameLocs_walk (W : World) (A B : Option Addr) (ca cb : Nat) (l : List S36) (hA : k36.C W A l.length l) (hB : k36.C W B l.length l) (hl : l.length ≤ 9223372036854775806) (hf : ∀ x, x ∈ l → FewL x) :
    Calls Try.prog 22 #[.slice A l.length ca, .slice B l.length cb] W fun e w' => e = .returned (.bool true) ∧ Below W.heap.size W w' := by
  obtain ⟨pa, oa, HPA⟩ := place_at hA
  obtain ⟨pb, ob, HPB⟩ := place_at hB
  have HPA := Aside0.mk HPA
  have HPB := Aside0.mk HPB
  obtain ⟨q, hq⟩ : ∃ q, q = l.length := ⟨_, rfl⟩
  have HQ := Aside0.mk hq
  have HS := Aside0.mk hf
  rw [← hq] at hl ⊢
  clear hA hB hq hf
  go_enter Try.func22, Try.ntmps22
  go_wp2
  go_loopg [5] q (fun gg s5 wz => ∃ (k : Nat), k ≤ q ∧ q - k ≤ gg ∧ s5 = .int .i64 k ∧ Aside0 (Below W.heap.size W wz))
  case atStart => exact ⟨0, Nat.zero_le _, Nat.le_of_eq (Nat.sub_zero _), rfl, ⟨Below.refl _ _⟩⟩
  case round =>
    obtain ⟨k, hk, hg, rfl, HW⟩ := hrel
    by_cases hlt : k < q
    · have d0 : ((k : Int) < (q : Int)) = True := eq_true (by omega)
      have hkl : k < l.length := by have := HQ.out; omega
      obtain ⟨rfl, A0, c0, A1, c1, hlc0, hC0, hlc1, hC1, q0, q1, q2, q3, q4, q5, q6⟩ := HPA.out k hkl
      obtain ⟨rfl, B0, d0', B1, d1', hld0, hD0, hld1, hD1, r0, r1, r2, r3, r4, r5, r6⟩ := HPB.out k hkl
      have hs := HS.out _ (List.getElem_mem hkl)
      generalize l[k] = x at *
      obtain ⟨b0, o0, b1, o1, E, ec, eb, eo, hPX⟩ := place_of hC0 hC1
      obtain ⟨b0', o0', b1', o1', E', ec', eb', eo', hPY⟩ := place_of hD0 hD1
      have HX := Aside0.mk hPX
      have HY := Aside0.mk hPY
      obtain ⟨n0, hn0⟩ : ∃ n0, n0 = x.f0.length := ⟨_, rfl⟩
      obtain ⟨n1, hn1⟩ : ∃ n1, n1 = x.f1.length := ⟨_, rfl⟩
      have HS0 := Aside0.mk (ways_same W A0 B0 n0 c0 d0' x.f0 hn0 hC0 hD0 hs.out)
      have HN1 := Aside0.mk hn1
      have hl1 := hs.len
      have HSE := Aside0.mk hs.esc
      rw [← hn0] at q0 r0
      rw [← hn1] at q1 r1 hl1
      have p0 := pw_cell_below HW.out q0
      have p1 := pw_cell_below HW.out q1
      have p2 := pw_cell_below HW.out q2
      have p3 := pw_cell_below HW.out q3
      have p4 := pw_cell_below HW.out q4
      have p5 := pw_cell_below HW.out q5
      have p6 := pw_cell_below HW.out q6
      have u0 := pw_cell_below HW.out r0
      have u1 := pw_cell_below HW.out r1
      have u2 := pw_cell_below HW.out r2
      have u3 := pw_cell_below HW.out r3
      have u4 := pw_cell_below HW.out r4
      have u5 := pw_cell_below HW.out r5
      have u6 := pw_cell_below HW.out r6
      clear q0 q1 q2 q3 q4 q5 q6 r0 r1 r2 r3 r4 r5 r6 hn0 hn1 hC0 hC1 hD0 hD1 hlc0 hlc1 hld0 hld1 hs hkl hPX hPY
      generalize x.f2 = x2 at *
      generalize x.f3 = x3 at *
      generalize x.f4 = x4 at *
      generalize x.f5 = x5 at *
      generalize x.f6 = x6 at *
      obtain ⟨g6, hg6⟩ : ∃ g6, g6 = wr.heap.size := ⟨_, rfl⟩
      go_upto_region 7 with fail
      rw [← hg6]
      refine wp_world (fun W7 => Aside0 (Below wr.heap.size wr W7 ∧ W7.heap[g6]? = some (.cells #[.slice A0 n0 c0, .slice A1 n1 c1, .bool x2, .bool x3, .bool x4, .bool x5, .bool x6] 36 (0, 0)))) ⟨below_alloc (Below.refl _ _) _, by rw [hg6]; exact blk_new _ _⟩ (fun W7 H7 => ?_)
      clear hg6 p0 p1 p2 p3 p4 p5 p6
      have y0 := pw_cell_below H7.out.1 u0
      have y1 := pw_cell_below H7.out.1 u1
      have y2 := pw_cell_below H7.out.1 u2
      have y3 := pw_cell_below H7.out.1 u3
      have y4 := pw_cell_below H7.out.1 u4
      have y5 := pw_cell_below H7.out.1 u5
      have y6 := pw_cell_below H7.out.1 u6
      clear u0 u1 u2 u3 u4 u5 u6
      obtain ⟨g7, hg7⟩ : ∃ g7, g7 = W7.heap.size := ⟨_, rfl⟩
      go_upto_region 8 with fail
      rw [← hg7]
      refine wp_world (fun W8 => Aside0 (Below wr.heap.size wr W8 ∧ W8.heap[g6]? = some (.cells #[.slice A0 n0 c0, .slice A1 n1 c1, .bool x2, .bool x3, .bool x4, .bool x5, .bool x6] 36 (0, 0)) ∧ W8.heap[g7]? = some (.cells #[.slice B0 n0 d0', .slice B1 n1 d1', .bool x2, .bool x3, .bool x4, .bool x5, .bool x6] 36 (0, 0)))) ⟨below_then H7.out.1 H7.out.1.size (below_alloc (Below.refl _ _) _), blk_below H7.out.2 (below_alloc (Below.refl _ _) _), by rw [hg7]; exact blk_new _ _⟩ (fun W8 H8 => ?_)
      clear hg7 y0 y1 y2 y3 y4 y5 y6 H7
      have y0 : W8.cell? ⟨g6, 0, none⟩ = some (.slice A0 n0 c0) := (blk_cell H8.out.2.1 0).trans rfl
      have u0 : W8.cell? ⟨g7, 0, none⟩ = some (.slice B0 n0 d0') := (blk_cell H8.out.2.2 0).trans rfl
      have HB8 := Aside0.mk (below_then HW.out HW.out.size H8.out.1)
      go_upto_region 9 with (go_at_call 25; refine (HS0.out _ HB8.out).mono ?_; rintro e w9 ⟨rfl, hD⟩; have HD9 := Aside0.mk hD; clear hD)
      clear y0 u0
      have H9 := Aside0.mk (And.intro (below_then H8.out.1 H8.out.1.size HD9.out) (And.intro (blk_below H8.out.2.1 HD9.out) (blk_below H8.out.2.2 HD9.out)))
      clear H8 HD9 HB8
      have y1 : w9.cell? ⟨g6, 1, none⟩ = some (.slice A1 n1 c1) := (blk_cell H9.out.2.1 1).trans rfl
      have y2 : w9.cell? ⟨g6, 2, none⟩ = some (.bool x2) := (blk_cell H9.out.2.1 2).trans rfl
      have y3 : w9.cell? ⟨g6, 3, none⟩ = some (.bool x3) := (blk_cell H9.out.2.1 3).trans rfl
      have y4 : w9.cell? ⟨g6, 4, none⟩ = some (.bool x4) := (blk_cell H9.out.2.1 4).trans rfl
      have y5 : w9.cell? ⟨g6, 5, none⟩ = some (.bool x5) := (blk_cell H9.out.2.1 5).trans rfl
      have y6 : w9.cell? ⟨g6, 6, none⟩ = some (.bool x6) := (blk_cell H9.out.2.1 6).trans rfl
      have u1 : w9.cell? ⟨g7, 1, none⟩ = some (.slice B1 n1 d1') := (blk_cell H9.out.2.2 1).trans rfl
      have u2 : w9.cell? ⟨g7, 2, none⟩ = some (.bool x2) := (blk_cell H9.out.2.2 2).trans rfl
      have u3 : w9.cell? ⟨g7, 3, none⟩ = some (.bool x3) := (blk_cell H9.out.2.2 3).trans rfl
      have u4 : w9.cell? ⟨g7, 4, none⟩ = some (.bool x4) := (blk_cell H9.out.2.2 4).trans rfl
      have u5 : w9.cell? ⟨g7, 5, none⟩ = some (.bool x5) := (blk_cell H9.out.2.2 5).trans rfl
      have u6 : w9.cell? ⟨g7, 6, none⟩ = some (.bool x6) := (blk_cell H9.out.2.2 6).trans rfl
      go_wp2
      obtain ⟨wo, hwo⟩ : ∃ wo, wo = wr := ⟨_, rfl⟩
      subst hwo
      clear y1 y2 y3 y4 y5 y6 u1 u2 u3 u4 u5 u6
      go_loopg [9] n1 (fun g2 s9 wy => ∃ (i : Nat), i ≤ n1 ∧ n1 - i ≤ g2 ∧ s9 = .int .i64 i ∧ Aside0 (Below wo.heap.size wo wy ∧ wy.heap[g6]? = some (.cells #[.slice A0 n0 c0, .slice A1 n1 c1, .bool x2, .bool x3, .bool x4, .bool x5, .bool x6] 36 (0, 0)) ∧ wy.heap[g7]? = some (.cells #[.slice B0 n0 d0', .slice B1 n1 d1', .bool x2, .bool x3, .bool x4, .bool x5, .bool x6] 36 (0, 0))))
      case atStart => exact ⟨0, Nat.zero_le _, Nat.le_of_eq (Nat.sub_zero _), rfl, H9⟩
      case round =>
        clear H9
        obtain ⟨i, hi, hgi, rfl, HZ⟩ := hrel
        have y1 : wr.cell? ⟨g6, 1, none⟩ = some (.slice A1 n1 c1) := (blk_cell HZ.out.2.1 1).trans rfl
        have HBW := Aside0.mk (below_then HW.out HW.out.size HZ.out.1)
        by_cases hin : i < n1
        · have d7 : ((i : Int) < (n1 : Int)) = True := eq_true (by omega)
          have hil : i < x.f1.length := by have := HN1.out; omega
          obtain rfl := HX.out.h1 (by omega)
          obtain rfl := HY.out.h1 (by omega)
          have hec := HX.out.esc i hil
          have hey := HY.out.esc i hil
          have ce := pw_cell_below HBW.out hec.1
          have cy := pw_cell_below HBW.out hey.1
          have hse := HSE.out _ (List.getElem_mem hil)
          have hck := hec.2.2
          have hcl := hey.2.2
          clear hec hey
          generalize x.f1[i] = row at ce cy hse hck hcl
          obtain ⟨nr, hnr⟩ : ∃ nr, nr = row.length := ⟨_, rfl⟩
          have HSX := Aside0.mk (ways_same W (E i) (E' i) nr (ec i) (ec' i) row hnr hck hcl hse)
          rw [← hnr] at ce cy
          clear hse hck hcl hnr hil
          generalize E i = Ei at *
          generalize E' i = Ei' at *
          generalize ec i = ci at *
          generalize ec' i = ci' at *
          have u1 : wr.cell? ⟨g7, 1, none⟩ = some (.slice (some ⟨b1', o1', none⟩) n1 d1') := (blk_cell HZ.out.2.2 1).trans rfl
          go_wp2
          go_still_tail 10, (by kernel_rfl)
          change wpList _ _ _ _ _ wr.drew
          go_wp2_with (go_at_call 25; refine (HSX.out _ HBW.out.drew).mono ?_; rintro e w14 ⟨rfl, hD⟩; have HD := Aside0.mk (below_drew_l hD); clear hD)
          go_roundg (n1 - (i + 1))
          case measure => omega
          case rel => exact ⟨i + 1, by omega, by omega, by go_num, ⟨below_then HZ.out.1 HZ.out.1.size HD.out, blk_below HZ.out.2.1 HD.out, blk_below HZ.out.2.2 HD.out⟩⟩
        · have d7 : ((i : Int) < (n1 : Int)) = False := eq_false (by omega)
          go_wp2
          go_roundg (q - (k + 1))
          case measure => omega
          case rel => exact ⟨k + 1, by omega, by omega, by go_num, ⟨HBW.out⟩⟩
    · have d0 : ((k : Int) < (q : Int)) = False := eq_false (by omega)
      go_wp2
      go_ret
      exact ⟨rfl, HW.out⟩
end Go.Proofs.Ytgnpmcnmcbgdcaa.Aw
