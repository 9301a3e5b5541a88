/- How the reference renames ways. Condition: fewer than 2^47/112 ways. -/
import Derived.Test.YtgnpmcnmcbgdcaaAwJ
import Derived.Test.YtgnpmcnmcbgdcaaAwF
set_option linter.unusedSimpArgs false
set_option linter.unusedVariables false
namespace Go.Proofs.Ytgnpmcnmcbgdcaa.Aw
open Go.RowKit Go.Proofs.YtgnpmcnmcbgdcaaW.PrintWords Go.Proofs.YtgnpmcnmcbgdcaaW.PrintLast Go.Proofs.YtgnpmcnmcbgdcaaW.PrintMore Go.Proofs.Ytgnpmcnmcbgdcaa.PAutoWalk

/-- The cells of a way. -/
theorem way_cells {w W : World} {A : Option Addr} {n : Nat} {l : List S40} (h : ReadsRow (k40.K w) 9 W A n l) : ∃ b o, ∀ i (hi : i < l.length), A = some ⟨b, o, none⟩ ∧ ∃ A4 c4 A5 c5, (l[i].f0.f4.length ≤ c4 ∧ k1.C w A4 l[i].f0.f4.length l[i].f0.f4 ∧ l[i].f0.f5.length ≤ c5 ∧ k1.C w A5 l[i].f0.f5.length l[i].f0.f5) ∧
    W.cell? ⟨b, o + i * 9, none⟩ = some (.int .i64 l[i].f0.f0) ∧ W.cell? ⟨b, o + i * 9 + 1, none⟩ = some (.int .i64 l[i].f0.f1) ∧ W.cell? ⟨b, o + i * 9 + 2, none⟩ = some (.int .i64 l[i].f0.f2) ∧ W.cell? ⟨b, o + i * 9 + 3, none⟩ = some (.int .i64 l[i].f0.f3) ∧ W.cell? ⟨b, o + i * 9 + 4, none⟩ = some (.slice A4 l[i].f0.f4.length c4) ∧ W.cell? ⟨b, o + i * 9 + 5, none⟩ = some (.slice A5 l[i].f0.f5.length c5) ∧ W.cell? ⟨b, o + i * 9 + 6, none⟩ = some (.string l[i].f0.f6) ∧ W.cell? ⟨b, o + i * 9 + 7, none⟩ = some (.int .i64 l[i].f1) ∧ W.cell? ⟨b, o + i * 9 + 8, none⟩ = some (.int .i64 l[i].f2) := by
  obtain ⟨b, o, r⟩ := row_at h (by decide)
  refine ⟨b, o, fun i hi => ?_⟩
  obtain ⟨hA, cs, _, hK, hcc⟩ := r i hi
  obtain ⟨A4, c4, A5, c5, rfl, l4, g4, l5, g5⟩ := k40_open hK
  exact ⟨hA, A4, c4, A5, c5, ⟨l4, g4, l5, g5⟩, hcc 0 _ rfl, hcc 1 _ rfl, hcc 2 _ rfl, hcc 3 _ rfl, hcc 4 _ rfl, hcc 5 _ rfl, hcc 6 _ rfl, hcc 7 _ rfl, hcc 8 _ rfl⟩

set_option maxHeartbeats 2000000 in
set_option maxRecDepth 100000 in
theorem renamed_walk (w W : World) (A : Option Addr) (c : Nat) (l : List S40) (h : ReadsRow (k40.K w) 9 W A l.length l) (hl : l.length ≤ 1256584717428) (B : Option Addr) (n b : Nat) (num : List Int) (hn : k1.C W B n num) (hin : ∀ x, x ∈ l → 0 ≤ x.f1 ∧ x.f1 < n) :
    Calls Try.prog 19 #[.slice A l.length c, .slice B n b] W fun e w' => ∃ v, e = .returned v ∧ (k40m w).R 40 w' W.heap.size (fun _ => True) v (reWays num l) ∧ Below W.heap.size W w' := by
  obtain ⟨pb, po, HP⟩ := way_cells h
  have HP := Aside0.mk HP
  have HNUM := Aside0.mk hn
  have HNL := Aside0.mk (show n = num.length from hn.1.symm)
  obtain ⟨q, hq⟩ : ∃ q, q = l.length := ⟨_, rfl⟩
  have HQ := Aside0.mk hq
  rw [← hq] at hl ⊢
  have HIN := Aside0.mk hin
  clear h hn hin hq
  go_enter Try.func19, Try.ntmps19
  go_wp2
  go_loopg [5, 6] q (fun gg s5 s6 wz => ∃ (k c' : Nat) (A' : Option Addr), k ≤ q ∧ q - k ≤ gg ∧ s6 = .int .i64 k ∧ s5 = .slice A' k c' ∧ Aside0 (Below W.heap.size W wz ∧ (k40m w).R 40 wz W.heap.size (fun _ => True) (.slice A' k c') (reWays num (l.take k))))
  case atStart => exact ⟨0, 0, none, Nat.zero_le _, Nat.le_of_eq (Nat.sub_zero _), rfl, rfl, Below.refl _ _, Kd.R_nil _ _ _ _ _⟩
  case round =>
    obtain ⟨k, c', A', hk, hg, rfl, rfl, HW⟩ := hrel
    by_cases hlt : k < q
    · have d0 : ((k : Int) < (q : Int)) = True := eq_true (by omega)
      have hkl : k < l.length := by have := HQ.out; omega
      obtain ⟨rfl, A4, c4, A5, c5, hK, q0, q1, q2, q3, q4, q5, q6, q7, q8⟩ := HP.out k hkl
      have hin := HIN.out _ (List.getElem_mem hkl)
      have HTK := Aside0.mk (show l.take (k + 1) = l.take k ++ [l[k]] by rw [List.take_add_one, List.getElem?_eq_getElem hkl]; rfl)
      have HK := Aside0.mk hK
      clear hK
      have p0 := pw_cell_below HW.out.1 q0
      have p1 := pw_cell_below HW.out.1 q1
      have p2 := pw_cell_below HW.out.1 q2
      have p3 := pw_cell_below HW.out.1 q3
      have p4 := pw_cell_below HW.out.1 q4
      have p5 := pw_cell_below HW.out.1 q5
      have p6 := pw_cell_below HW.out.1 q6
      have p7 := pw_cell_below HW.out.1 q7
      have p8 := pw_cell_below HW.out.1 q8
      clear q0 q1 q2 q3 q4 q5 q6 q7 q8
      generalize l[k] = x at *
      obtain ⟨⟨x0, x1, x2, x3, x4, x5, x6⟩, xt, xl⟩ := x
      obtain ⟨tn, rfl⟩ : ∃ tn : Nat, xt = (tn : Int) := ⟨xt.toNat, by have := hin.1; simp only at this; omega⟩
      obtain ⟨n4, hn4⟩ : ∃ n4, n4 = x4.length := ⟨_, rfl⟩
      obtain ⟨n5, hn5⟩ : ∃ n5, n5 = x5.length := ⟨_, rfl⟩
      have p4' : wr.cell? ⟨pb, po + k * 9 + 4, none⟩ = some (.slice A4 n4 c4) := by rw [hn4]; exact p4
      have p5' : wr.cell? ⟨pb, po + k * 9 + 5, none⟩ = some (.slice A5 n5 c5) := by rw [hn5]; exact p5
      have HN45 := Aside0.mk (And.intro hn4 hn5)
      clear p4 p5 hn4 hn5
      simp only at p0 p1 p2 p3 p6 p7 p8
      have htn : tn < num.length := by have := hin.2; simp only at this; have := HNL.out; omega
      have d1 : ((tn : Int) < (n : Int)) = True := eq_true hin.2
      obtain ⟨nb, no, rfl, q0⟩ := int_cell HNUM.out tn htn
      have HG := Aside0.mk (show num.getD ((tn : Nat) : Int).toNat 0 = num[tn] by rw [Int.toNat_natCast, List.getD_eq_getElem?_getD, List.getElem?_eq_getElem htn]; rfl)
      generalize num[tn] = v at q0 HG
      have q1 := pw_cell_below HW.out.1 q0
      clear q0 htn hin hkl
      go_upto_region 6 with fail
      have HB5 := below_alloc (Below.refl wr.heap.size wr) (.cells #[.int .i64 x0, .int .i64 x1, .int .i64 x2, .int .i64 x3, .slice A4 n4 c4, .slice A5 n5 c5, .string x6, .int .i64 (tn : Int), .int .i64 xl] 40)
      refine wp_world (fun W5 => Aside0 (Below wr.heap.size wr W5 ∧ W5.heap[wr.heap.size]? = some (.cells #[.int .i64 x0, .int .i64 x1, .int .i64 x2, .int .i64 x3, .slice A4 n4 c4, .slice A5 n5 c5, .string x6, .int .i64 (tn : Int), .int .i64 xl] 40 (0, 0)))) ⟨HB5, blk_new _ _⟩ (fun W5 H5 => ?_)
      clear HB5
      have e7 : W5.cell? ⟨wr.heap.size, 7, none⟩ = some (.int .i64 (tn : Int)) := (blk_cell H5.out.2 7).trans rfl
      have f7 := blk_frozen H5.out.2 7
      have q2 := pw_cell_below H5.out.1 q1
      clear p0 p1 p2 p3 p4' p5' p6 p7 p8
      clear q1
      go_upto_region 7 with fail
      have HB6 := H5.out.1.setCell (p := ⟨wr.heap.size, 7, none⟩) (Nat.le_refl _) (.int .i64 v)
      have hb6 := blk_set H5.out.2 7 (.int .i64 v)
      refine wp_world (fun W6 => Aside0 (Below wr.heap.size wr W6 ∧ W6.heap[wr.heap.size]? = some (.cells #[.int .i64 x0, .int .i64 x1, .int .i64 x2, .int .i64 x3, .slice A4 n4 c4, .slice A5 n5 c5, .string x6, .int .i64 v, .int .i64 xl] 40 (0, 0)))) ⟨HB6, hb6⟩ (fun W6 H6 => ?_)
      clear HB6 hb6 e7 f7 q2 H5
      have e0 : W6.cell? ⟨wr.heap.size, 0, none⟩ = some (.int .i64 x0) := (blk_cell H6.out.2 0).trans rfl
      have e1 : W6.cell? ⟨wr.heap.size, 1, none⟩ = some (.int .i64 x1) := (blk_cell H6.out.2 1).trans rfl
      have e2 : W6.cell? ⟨wr.heap.size, 2, none⟩ = some (.int .i64 x2) := (blk_cell H6.out.2 2).trans rfl
      have e3 : W6.cell? ⟨wr.heap.size, 3, none⟩ = some (.int .i64 x3) := (blk_cell H6.out.2 3).trans rfl
      have e4 : W6.cell? ⟨wr.heap.size, 4, none⟩ = some (.slice A4 n4 c4) := (blk_cell H6.out.2 4).trans rfl
      have e5 : W6.cell? ⟨wr.heap.size, 5, none⟩ = some (.slice A5 n5 c5) := (blk_cell H6.out.2 5).trans rfl
      have e6 : W6.cell? ⟨wr.heap.size, 6, none⟩ = some (.string x6) := (blk_cell H6.out.2 6).trans rfl
      have e7 : W6.cell? ⟨wr.heap.size, 7, none⟩ = some (.int .i64 v) := (blk_cell H6.out.2 7).trans rfl
      have e8 : W6.cell? ⟨wr.heap.size, 8, none⟩ = some (.int .i64 xl) := (blk_cell H6.out.2 8).trans rfl
      have HKK := Aside0.mk (show (k40m w).M W6 W.heap.size (fun _ => True) (toL v ⟨⟨x0, x1, x2, x3, x4, x5, x6⟩, (tn : Int), xl⟩) [.int .i64 x0, .int .i64 x1, .int .i64 x2, .int .i64 x3, .slice A4 n4 c4, .slice A5 n5 c5, .string x6, .int .i64 v, .int .i64 xl] from k40m_of w W6 _ _ _ _ (by rw [HN45.out.1, HN45.out.2]; exact k40_mk w (toL v ⟨⟨x0, x1, x2, x3, x4, x5, x6⟩, (tn : Int), xl⟩) HK.out.1 HK.out.2.1 HK.out.2.2.1 HK.out.2.2.2))
      have HRI := Aside0.mk (Kd.R_below HW.out.2 H6.out.1)
      have HBI := Aside0.mk (below_then HW.out.1 HW.out.1.size H6.out.1)
      have HLI := Aside0.mk (show (reWays num (l.take k)).length = k by unfold reWays; rw [List.length_map, List.length_take]; have := HQ.out; omega)
      have HTI := Aside0.mk (show reWays num (l.take (k + 1)) = reWays num (l.take k) ++ [toL v ⟨⟨x0, x1, x2, x3, x4, x5, x6⟩, (tn : Int), xl⟩] by rw [HTK.out]; unfold reWays; rw [List.map_append, List.map_cons, List.map_nil]; show _ = _ ++ [toL v _]; rw [← HG.out])
      go_wp2_with (at_builtin; refine Kd.R_append (k40m w) (w0 := W) W.heap.size rfl (.tmp 24) (.tmp 26) 33 40 (.agg #[(.int .i64 0), (.int .i64 0), (.int .i64 0), (.int .i64 0), (.slice none 0 0), (.slice none 0 0), (.string ⟨#[]⟩), (.int .i64 0), (.int .i64 0)]) 112 rfl Try.underlying33 info40 rfl (k40m_sz w) (by decide) (.slice A' k c') (reWays num (l.take k)) (toL v ⟨⟨x0, x1, x2, x3, x4, x5, x6⟩, (tn : Int), xl⟩) [.int .i64 x0, .int .i64 x1, .int .i64 x2, .int .i64 x3, .slice A4 n4 c4, .slice A5 n5 c5, .string x6, .int .i64 v, .int .i64 xl] (fun _ => True) (fun _ => False) rfl rfl (k40m_of w _ _ _ _ _ (by rw [HN45.out.1, HN45.out.2]; exact k40_mk w (toL v ⟨⟨x0, x1, x2, x3, x4, x5, x6⟩, (tn : Int), xl⟩) HK.out.1 HK.out.2.1 HK.out.2.2.1 HK.out.2.2.2)) (fun k hk => hk.elim) (fun _ _ => trivial) HRI.out HBI.out (Nat.le_trans HW.out.1.size H6.out.1.size) (by rw [HLI.out]; omega) ?_; intro v1 w7 hR7 hB7 _ _; obtain ⟨A7, c7, e⟩ := Kd.R_slice hR7; rw [List.length_append, HLI.out, List.length_singleton] at e; subst e; have HR7 := Aside0.mk (And.intro hR7 hB7); clear hR7 hB7)
      go_roundg (q - (k + 1))
      case measure => omega
      case rel =>
        refine ⟨k + 1, c7, A7, by omega, by omega, by go_num, rfl, ⟨HR7.out.2, ?_⟩⟩
        rw [HTI.out]
        exact HR7.out.1
    · have d0 : ((k : Int) < (q : Int)) = False := eq_false (by omega)
      obtain rfl : k = q := by omega
      have hR := HW.out.2
      rw [show l.take k = l from List.take_of_length_le (by have := HQ.out; omega)] at hR
      have HRF := Aside0.mk hR
      clear hR
      go_wp2
      go_ret
      exact ⟨_, rfl, HRF.out, HW.out.1⟩
end Go.Proofs.Ytgnpmcnmcbgdcaa.Aw
