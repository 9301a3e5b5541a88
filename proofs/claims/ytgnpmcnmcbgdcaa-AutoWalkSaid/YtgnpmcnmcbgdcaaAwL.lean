/- Like lists are like, by the reference's words. Condition: fewer than 2^63 entries. -/
import Derived.Test.YtgnpmcnmcbgdcaaAwK
import Derived.BigQuiet
import Derived.Deep.QuietTactic
set_option linter.unusedSimpArgs false
set_option linter.unusedVariables false
namespace Go.Proofs.Ytgnpmcnmcbgdcaa.Aw
open Go.RowKit Go.Proofs.YtgnpmcnmcbgdcaaW.PrintWords Go.Proofs.YtgnpmcnmcbgdcaaW.PrintLast Go.Proofs.YtgnpmcnmcbgdcaaW.PrintMore Go.Proofs.Ytgnpmcnmcbgdcaa.PAutoWalk

theorem ints_go (l : List Int) (hl : l.length ≤ 9223372036854775807) : ∀ (n k i : Nat), l.length - i = n → n < k → spinneretref09_SameInts.l0 k l l (i : Int) = some true := by
  intro n
  induction n with
  | zero =>
    intro k i hi hk
    obtain ⟨k, rfl⟩ : ∃ j, k = j + 1 := ⟨k - 1, by omega⟩
    simp only [spinneretref09_SameInts.l0]
    rw [if_neg (by omega)]
  | succ n ih =>
    intro k i hi hk
    obtain ⟨k, rfl⟩ : ∃ j, k = j + 1 := ⟨k - 1, by omega⟩
    simp only [spinneretref09_SameInts.l0]
    rw [if_pos (by omega), if_pos (by omega), if_pos (by omega), if_pos trivial, suc64 _ (by omega)]
    exact ih k (i + 1) (by omega) (by omega)
theorem ints_same (l : List Int) (hl : l.length ≤ 9223372036854775807) : spinneretref09_SameInts.f (l.length + 1) l l = some true := by
  unfold spinneretref09_SameInts.f
  rw [if_pos rfl]
  exact ints_go l hl l.length _ 0 (by omega) (by omega)

theorem numbers_go (l : List Int) (hl : l.length ≤ 9223372036854775807) : ∀ (n k i : Nat), l.length - i = n → n < k → spinneretref09_sameNumbers.l0 k l l (i : Int) = some true := by
  intro n
  induction n with
  | zero =>
    intro k i hi hk
    obtain ⟨k, rfl⟩ : ∃ j, k = j + 1 := ⟨k - 1, by omega⟩
    simp only [spinneretref09_sameNumbers.l0]
    rw [if_neg (by omega)]
  | succ n ih =>
    intro k i hi hk
    obtain ⟨k, rfl⟩ : ∃ j, k = j + 1 := ⟨k - 1, by omega⟩
    simp only [spinneretref09_sameNumbers.l0]
    rw [if_pos (by omega), if_pos (by omega), if_pos (by omega), if_pos trivial, suc64 _ (by omega)]
    exact ih k (i + 1) (by omega) (by omega)
theorem numbers_same (l : List Int) (hl : l.length ≤ 9223372036854775807) : spinneretref09_sameNumbers.f (l.length + 1) l l = some true := by
  unfold spinneretref09_sameNumbers.f
  rw [if_pos rfl]
  exact numbers_go l hl l.length _ 0 (by omega) (by omega)

theorem types_go (l : List S62) (hl : l.length ≤ 9223372036854775807) : ∀ (n k i : Nat), l.length - i = n → n < k → spinneretref09_sameTypes.l0 k l l (i : Int) = some true := by
  intro n
  induction n with
  | zero =>
    intro k i hi hk
    obtain ⟨k, rfl⟩ : ∃ j, k = j + 1 := ⟨k - 1, by omega⟩
    simp only [spinneretref09_sameTypes.l0]
    rw [if_neg (by omega)]
  | succ n ih =>
    intro k i hi hk
    obtain ⟨k, rfl⟩ : ∃ j, k = j + 1 := ⟨k - 1, by omega⟩
    simp only [spinneretref09_sameTypes.l0]
    rw [if_pos (by omega), if_pos (by omega), if_pos (by omega), if_neg (by simp), suc64 _ (by omega)]
    exact ih k (i + 1) (by omega) (by omega)
theorem types_same (l : List S62) (hl : l.length ≤ 9223372036854775807) : spinneretref09_sameTypes.f (l.length + 1) l l = some true := by
  unfold spinneretref09_sameTypes.f
  rw [if_pos rfl]
  exact types_go l hl l.length _ 0 (by omega) (by omega)

theorem ints_walk (W : World) (A B : Option Addr) (n ca cb : Nat) (l : List Int) (hn : n = l.length) (hA : k1.C W A l.length l) (hB : k1.C W B l.length l) (hca : l.length ≤ ca) (hcb : l.length ≤ cb) (hl : l.length ≤ 9223372036854775807) :
    ∀ W', Below W.heap.size W W' → Calls Try.prog 7 #[.slice A n ca, .slice B n cb] W' fun e w' => e = .returned (.bool true) ∧ Drawn0 W' w' := by
  intro W' hb
  subst hn
  exact spinneretref09_SameInts.calls _ A ca l B cb l true W' (Kd.C_below hA hb) hca (Kd.C_below hB hb) hcb (ints_same l hl)

/-- Two rows of statements' cells. -/
abbrev stm (x : S40) (A4 A5 : Option Addr) (c4 c5 : Nat) : Array Value := #[.int .i64 x.f0.f0, .int .i64 x.f0.f1, .int .i64 x.f0.f2, .int .i64 x.f0.f3, .slice A4 x.f0.f4.length c4, .slice A5 x.f0.f5.length c5, .string x.f0.f6]

set_option maxHeartbeats 2000000 in
set_option maxRecDepth 100000 in
theorem sameWays_walk (W : World) (A B : Option Addr) (ca cb : Nat) (l : List S40) (hA : k40.C W A l.length l) (hB : k40.C W B l.length l) (hl : l.length ≤ 9223372036854775806) (hs : ∀ x, x ∈ l → x.f0.f4.length ≤ 9223372036854775807 ∧ x.f0.f5.length ≤ 9223372036854775807) :
    Calls Try.prog 25 #[.slice A l.length ca, .slice B l.length cb] W fun e w' => e = .returned (.bool true) ∧ Below W.heap.size W w' := by
  obtain ⟨pa, oa, HPA⟩ := way_cells hA
  obtain ⟨pb, ob, HPB⟩ := way_cells hB
  have HPA := Aside0.mk HPA
  have HPB := Aside0.mk HPB
  obtain ⟨q, hq⟩ : ∃ q, q = l.length := ⟨_, rfl⟩
  have HQ := Aside0.mk hq
  have HS := Aside0.mk hs
  rw [← hq] at hl ⊢
  clear hA hB hq hs
  go_enter Try.func25, Try.ntmps25
  go_wp2
  go_loopg [5] q (fun gg s5 wz => ∃ (k : Nat), k ≤ q ∧ q - k ≤ gg ∧ s5 = .int .i64 k ∧ Aside0 (Below W.heap.size W wz))
  case atStart => exact ⟨0, Nat.zero_le _, Nat.le_of_eq (Nat.sub_zero _), rfl, ⟨Below.refl _ _⟩⟩
  case round =>
    obtain ⟨k, hk, hg, rfl, HW⟩ := hrel
    by_cases hlt : k < q
    · have d0 : ((k : Int) < (q : Int)) = True := eq_true (by omega)
      have hkl : k < l.length := by have := HQ.out; omega
      obtain ⟨rfl, A4, c4, A5, c5, hK, q0, q1, q2, q3, q4, q5, q6, q7, q8⟩ := HPA.out k hkl
      obtain ⟨rfl, B4, d4, B5, d5, hL, r0, r1, r2, r3, r4, r5, r6, r7, r8⟩ := HPB.out k hkl
      have hs := HS.out _ (List.getElem_mem hkl)
      generalize l[k] = x at *
      obtain ⟨⟨x0, x1, x2, x3, x4, x5, x6⟩, xt, xl⟩ := x
      simp only at q0 q1 q2 q3 q4 q5 q6 q7 q8 r0 r1 r2 r3 r4 r5 r6 r7 r8 hK hL hs
      obtain ⟨n4, hn4⟩ : ∃ n4, n4 = x4.length := ⟨_, rfl⟩
      obtain ⟨n5, hn5⟩ : ∃ n5, n5 = x5.length := ⟨_, rfl⟩
      have HS4 := Aside0.mk (ints_walk W A4 B4 n4 c4 d4 x4 hn4 hK.2.1 hL.2.1 hK.1 hL.1 hs.1)
      have HS5 := Aside0.mk (ints_walk W A5 B5 n5 c5 d5 x5 hn5 hK.2.2.2 hL.2.2.2 hK.2.2.1 hL.2.2.1 hs.2)
      rw [← hn4] at q4 r4
      rw [← hn5] at q5 r5
      have p0 := pw_cell_below HW.out q0
      have p1 := pw_cell_below HW.out q1
      have p2 := pw_cell_below HW.out q2
      have p3 := pw_cell_below HW.out q3
      have p4 := pw_cell_below HW.out q4
      have p5 := pw_cell_below HW.out q5
      have p6 := pw_cell_below HW.out q6
      have u0 := pw_cell_below HW.out r0
      have u1 := pw_cell_below HW.out r1
      have u2 := pw_cell_below HW.out r2
      have u3 := pw_cell_below HW.out r3
      have u4 := pw_cell_below HW.out r4
      have u5 := pw_cell_below HW.out r5
      have u6 := pw_cell_below HW.out r6
      clear q0 q1 q2 q3 q4 q5 q6 r0 r1 r2 r3 r4 r5 r6 hn4 hn5 hK hL hs hkl
      have Q7 := Aside0.mk (And.intro q7 (And.intro q8 (And.intro r7 r8)))
      clear q7 q8 r7 r8
      obtain ⟨g6, hg6⟩ : ∃ g6, g6 = wr.heap.size := ⟨_, rfl⟩
      have HG6 := Aside0.mk hg6
      go_upto_region 7 with fail
      rw [← hg6]
      refine wp_world (fun W7 => Aside0 (Below wr.heap.size wr W7 ∧ W7.heap[g6]? = some (.cells #[.int .i64 x0, .int .i64 x1, .int .i64 x2, .int .i64 x3, .slice A4 n4 c4, .slice A5 n5 c5, .string x6] 38 (0, 0)))) ⟨below_alloc (Below.refl _ _) _, by rw [hg6]; exact blk_new _ _⟩ (fun W7 H7 => ?_)
      clear hg6 p0 p1 p2 p3 p4 p5 p6
      have y0 := pw_cell_below H7.out.1 u0
      have y1 := pw_cell_below H7.out.1 u1
      have y2 := pw_cell_below H7.out.1 u2
      have y3 := pw_cell_below H7.out.1 u3
      have y4 := pw_cell_below H7.out.1 u4
      have y5 := pw_cell_below H7.out.1 u5
      have y6 := pw_cell_below H7.out.1 u6
      clear u0 u1 u2 u3 u4 u5 u6
      obtain ⟨g7, hg7⟩ : ∃ g7, g7 = W7.heap.size := ⟨_, rfl⟩
      have HG7 := Aside0.mk hg7
      go_upto_region 8 with fail
      rw [← hg7]
      refine wp_world (fun W8 => Aside0 (Below wr.heap.size wr W8 ∧ W8.heap[g6]? = some (.cells #[.int .i64 x0, .int .i64 x1, .int .i64 x2, .int .i64 x3, .slice A4 n4 c4, .slice A5 n5 c5, .string x6] 38 (0, 0)) ∧ W8.heap[g7]? = some (.cells #[.int .i64 x0, .int .i64 x1, .int .i64 x2, .int .i64 x3, .slice B4 n4 d4, .slice B5 n5 d5, .string x6] 38 (0, 0)))) ⟨below_then H7.out.1 H7.out.1.size (below_alloc (Below.refl _ _) _), blk_below H7.out.2 (below_alloc (Below.refl _ _) _), by rw [hg7]; exact blk_new _ _⟩ (fun W8 H8 => ?_)
      clear hg7 y0 y1 y2 y3 y4 y5 y6 H7
      have y4 : W8.cell? ⟨g6, 4, none⟩ = some (.slice A4 n4 c4) := (blk_cell H8.out.2.1 4).trans rfl
      have u4 : W8.cell? ⟨g7, 4, none⟩ = some (.slice B4 n4 d4) := (blk_cell H8.out.2.2 4).trans rfl
      have HB8 := Aside0.mk (below_then HW.out HW.out.size H8.out.1)
      go_upto_region 9 with (go_at_call 7; refine (HS4.out _ HB8.out).mono ?_; rintro e w9 ⟨rfl, hD⟩; have HD9 := Aside0.mk hD.below; clear hD)
      clear y4 u4
      have H9 := Aside0.mk (And.intro (below_then H8.out.1 H8.out.1.size HD9.out) (And.intro (blk_below H8.out.2.1 HD9.out) (blk_below H8.out.2.2 HD9.out)))
      clear H8 HD9 HB8
      have y5 : w9.cell? ⟨g6, 5, none⟩ = some (.slice A5 n5 c5) := (blk_cell H9.out.2.1 5).trans rfl
      have u5 : w9.cell? ⟨g7, 5, none⟩ = some (.slice B5 n5 d5) := (blk_cell H9.out.2.2 5).trans rfl
      have HB9 := Aside0.mk (below_then HW.out HW.out.size H9.out.1)
      go_upto_region 10 with (go_at_call 7; refine (HS5.out _ HB9.out).mono ?_; rintro e w10 ⟨rfl, hD⟩; have HD10 := Aside0.mk hD.below; clear hD)
      clear y5 u5
      have H10 := Aside0.mk (And.intro (below_then H9.out.1 H9.out.1.size HD10.out) (And.intro (blk_below H9.out.2.1 HD10.out) (blk_below H9.out.2.2 HD10.out)))
      clear H9 HD10 HB9
      have HB10 := Aside0.mk (below_then HW.out HW.out.size H10.out.1)
      have y0 : w10.cell? ⟨g6, 0, none⟩ = some (.int .i64 x0) := (blk_cell H10.out.2.1 0).trans rfl
      have y1 : w10.cell? ⟨g6, 1, none⟩ = some (.int .i64 x1) := (blk_cell H10.out.2.1 1).trans rfl
      have y2 : w10.cell? ⟨g6, 2, none⟩ = some (.int .i64 x2) := (blk_cell H10.out.2.1 2).trans rfl
      have y3 : w10.cell? ⟨g6, 3, none⟩ = some (.int .i64 x3) := (blk_cell H10.out.2.1 3).trans rfl
      have y6 : w10.cell? ⟨g6, 6, none⟩ = some (.string x6) := (blk_cell H10.out.2.1 6).trans rfl
      have u0 : w10.cell? ⟨g7, 0, none⟩ = some (.int .i64 x0) := (blk_cell H10.out.2.2 0).trans rfl
      have u1 : w10.cell? ⟨g7, 1, none⟩ = some (.int .i64 x1) := (blk_cell H10.out.2.2 1).trans rfl
      have u2 : w10.cell? ⟨g7, 2, none⟩ = some (.int .i64 x2) := (blk_cell H10.out.2.2 2).trans rfl
      have u3 : w10.cell? ⟨g7, 3, none⟩ = some (.int .i64 x3) := (blk_cell H10.out.2.2 3).trans rfl
      have u6 : w10.cell? ⟨g7, 6, none⟩ = some (.string x6) := (blk_cell H10.out.2.2 6).trans rfl
      have q7 := pw_cell_below HB10.out Q7.out.1
      have q8 := pw_cell_below HB10.out Q7.out.2.1
      have r7 := pw_cell_below HB10.out Q7.out.2.2.1
      have r8 := pw_cell_below HB10.out Q7.out.2.2.2
      go_quiet (fail)
      go_wp2
      go_roundg (q - (k + 1))
      case measure => omega
      case rel => exact ⟨k + 1, by omega, by omega, by go_num, ⟨pw_below_drewN HB10.out nq⟩⟩
    · have d0 : ((k : Int) < (q : Int)) = False := eq_false (by omega)
      go_wp2
      go_ret
      exact ⟨rfl, HW.out⟩
end Go.Proofs.Ytgnpmcnmcbgdcaa.Aw
