/- The document's own store: the walks of what reads and what turns. No condition. -/
import Derived.Test.YtihlndgnkhlphaaStB
import Derived.RegionTactic
import Derived.BigRegion
namespace Go.Proofs.Ytihlndgnkhlphaa.St
open Go.RowKit Go.Proofs.YtihlndgnkhlphaaW.PrintWords Go.Proofs.YtihlndgnkhlphaaW.PrintLast Go.Proofs.YtihlndgnkhlphaaW.PrintMore Go.Proofs.Ytihlndgnkhlphaa.PStorePlays

theorem info63 : (Try.prog.info? 63).map (fun i => (i.zero, i.size, i.bytes)) = some (some (.agg #[.string ⟨#[]⟩, .int .u64 0]), 2, 24) := by kernel_rfl

set_option maxHeartbeats 400000 in
set_option maxRecDepth 100000 in
theorem rkey_out (w : World) (b g : Nat) (most n : Int) (rows : List (ByteArray × Int)) (h : RIn w b g most rows) (hn : ¬ (0 ≤ n ∧ n < rows.length)) :
    Calls Try.prog 21 #[.pointer (some ⟨g, 0, none⟩), .int .i64 n] w fun e w' => e = .returned (.tuple #[.string ⟨#[]⟩, .int .i64 46]) ∧ w = w' := by
  obtain ⟨A, cap, c0, c1, f1, hlt, hq⟩ := h.cells
  clear h hq
  by_cases h0 : n < 0
  · have b0 : decide (n < 0) = true := decide_eq_true h0
    clear h0 hn
    go_enter Try.func21, Try.ntmps21
    go_wp2
    go_ret2
    exact ⟨rfl, rfl⟩
  · have b0 : decide (n < 0) = false := decide_eq_false h0
    have b1 : decide ((rows.length : Int) ≤ n) = true := decide_eq_true (by omega)
    clear hn
    go_enter Try.func21, Try.ntmps21
    go_wp2
    go_ret2
    exact ⟨rfl, rfl⟩

set_option maxHeartbeats 400000 in
set_option maxRecDepth 100000 in
theorem rbits_out (w : World) (b g : Nat) (most n : Int) (rows : List (ByteArray × Int)) (h : RIn w b g most rows) (hn : ¬ (0 ≤ n ∧ n < rows.length)) :
    Calls Try.prog 22 #[.pointer (some ⟨g, 0, none⟩), .int .i64 n] w fun e w' => e = .returned (.int .u64 0) ∧ w = w' := by
  obtain ⟨A, cap, c0, c1, f1, hlt, hq⟩ := h.cells
  clear h hq
  by_cases h0 : n < 0
  · have b0 : decide (n < 0) = true := decide_eq_true h0
    clear h0 hn
    go_enter Try.func22, Try.ntmps22
    go_wp2
    go_ret
    exact ⟨rfl, rfl⟩
  · have b0 : decide (n < 0) = false := decide_eq_false h0
    have b1 : decide ((rows.length : Int) ≤ n) = true := decide_eq_true (by omega)
    clear hn
    go_enter Try.func22, Try.ntmps22
    go_wp2
    go_ret
    exact ⟨rfl, rfl⟩

set_option maxHeartbeats 400000 in
set_option maxRecDepth 100000 in
theorem rmark_out (w : World) (b g : Nat) (most n y : Int) (rows : List (ByteArray × Int)) (h : RIn w b g most rows) (hn : ¬ (0 ≤ n ∧ n < rows.length)) :
    Calls Try.prog 19 #[.pointer (some ⟨g, 0, none⟩), .int .i64 n, .int .u64 y] w fun e w' => e = .returned (.int .i64 46) ∧ w = w' := by
  obtain ⟨A, cap, c0, c1, f1, hlt, hq⟩ := h.cells
  clear h hq
  by_cases h0 : n < 0
  · have b0 : decide (n < 0) = true := decide_eq_true h0
    clear h0 hn
    go_enter Try.func19, Try.ntmps19
    go_wp2
    go_ret
    exact ⟨rfl, rfl⟩
  · have b0 : decide (n < 0) = false := decide_eq_false h0
    have b1 : decide ((rows.length : Int) ≤ n) = true := decide_eq_true (by omega)
    clear hn
    go_enter Try.func19, Try.ntmps19
    go_wp2
    go_ret
    exact ⟨rfl, rfl⟩

set_option maxHeartbeats 400000 in
set_option maxRecDepth 100000 in
theorem rclear_out (w : World) (b g : Nat) (most n y : Int) (rows : List (ByteArray × Int)) (h : RIn w b g most rows) (hn : ¬ (0 ≤ n ∧ n < rows.length)) :
    Calls Try.prog 20 #[.pointer (some ⟨g, 0, none⟩), .int .i64 n, .int .u64 y] w fun e w' => e = .returned (.int .i64 46) ∧ w = w' := by
  obtain ⟨A, cap, c0, c1, f1, hlt, hq⟩ := h.cells
  clear h hq
  by_cases h0 : n < 0
  · have b0 : decide (n < 0) = true := decide_eq_true h0
    clear h0 hn
    go_enter Try.func20, Try.ntmps20
    go_wp2
    go_ret
    exact ⟨rfl, rfl⟩
  · have b0 : decide (n < 0) = false := decide_eq_false h0
    have b1 : decide ((rows.length : Int) ≤ n) = true := decide_eq_true (by omega)
    clear hn
    go_enter Try.func20, Try.ntmps20
    go_wp2
    go_ret
    exact ⟨rfl, rfl⟩

/-- A row's bits are written. -/
theorem rturn {w : World} {b g q n len cap : Nat} {most : Int} {rows : List (ByteArray × Int)} {r : ByteArray × Int} (h : RIn w b g most rows) (hn : rows[n]? = some r) (c1 : w.cell? ⟨g, 1, none⟩ = some (.slice (some ⟨q, 0, none⟩) len cap)) (y : Int) (m : Nat) :
    RIn ((w.setCell ⟨q, n * 2 + 1, none⟩ (.int .u64 y)).drewN m) b g most (rows.set n (r.1, y)) ∧ FrR b w ((w.setCell ⟨q, n * 2 + 1, none⟩ (.int .u64 y)).drewN m) := by
  obtain ⟨hb, v, hg, hbg, hr⟩ := h
  have c1' := (blk_cell hg 1).trans rfl
  rw [c1] at c1'
  cases c1'
  rcases hr.2 with ⟨h0, _⟩ | ⟨q', cap', cur, hv, hbq, hq, _⟩
  · cases h0
  · injection hv with h1 h2 _
    injection h1 with h1
    injection h1 with h1
    subst h1
    subst h2
    have hgq : g ≠ q := by
      intro e
      rw [e, hq] at hg
      cases hg
    have hs := hr.stored (n * 2 + 1) (.int .u64 y)
    have hF : FrR b w ((w.setCell ⟨q, n * 2 + 1, none⟩ (.int .u64 y)).drewN m) := ((FrR.refl b w).set (p := ⟨q, n * 2 + 1, none⟩) hq (Or.inr rfl) hbq _).drewN m
    refine ⟨⟨Nat.le_trans hb hF.below.size, _, blk_far hg hgq _, hbg, ?_⟩, hF⟩
    have h2 := hs.1
    rw [flat_set rows n y r hn] at h2
    rw [List.length_set]
    exact h2

set_option maxHeartbeats 1600000 in
set_option maxRecDepth 100000 in
theorem rmark_in0 (w : World) (g q n len cap : Nat) (x y : Int) (c1 : w.cell? ⟨g, 1, none⟩ = some (.slice (some ⟨q, 0, none⟩) len cap)) (hn : n < len) (_hl : len ≤ 1000000) (k1 : w.cell? ⟨q, n * 2 + 1, none⟩ = some (.int .u64 x)) (kf : w.frozen? ⟨q, n * 2 + 1, none⟩ = false) :
    Calls Try.prog 19 #[.pointer (some ⟨g, 0, none⟩), .int .i64 (n : Int), .int .u64 y] w fun e w' => e = .returned (.int .i64 0) ∧ ∃ m, w' = (w.setCell ⟨q, n * 2 + 1, none⟩ (.int .u64 (Go.bits .or .u64 x y))).drewN m := by
  go_enter Try.func19, Try.ntmps19
  go_wp2
  go_region
  all_goals
    go_wp2
    go_ret
    exact ⟨rfl, 1, rfl⟩

theorem rmark_in {w : World} {b g n : Nat} {most : Int} {rows : List (ByteArray × Int)} {r : ByteArray × Int} (h : RIn w b g most rows) (y : Int) (hn : rows[n]? = some r) (hl : rows.length ≤ 1000000) :
    Calls Try.prog 19 #[.pointer (some ⟨g, 0, none⟩), .int .i64 (n : Int), .int .u64 y] w fun e w' => e = .returned (.int .i64 0) ∧ RIn w' b g most (rows.set n (r.1, Go.bits .or .u64 r.2 y)) ∧ FrR b w w' := by
  obtain ⟨A, cap, c0, c1, f1, hlt, hq⟩ := h.cells
  have hnl := (List.getElem?_eq_some_iff.1 hn).1
  obtain ⟨q, rfl, hc⟩ := hq (by omega)
  obtain ⟨k0, k1, kf⟩ := hc n r hn
  refine (rmark_in0 w g q n _ cap r.2 y c1 hnl hl k1 kf).mono ?_
  rintro e w' ⟨rfl, m, rfl⟩
  exact ⟨rfl, rturn h hn c1 (Go.bits .or .u64 r.2 y) m⟩

set_option maxHeartbeats 1600000 in
set_option maxRecDepth 100000 in
theorem rclear_in0 (w : World) (g q n len cap : Nat) (x y : Int) (c1 : w.cell? ⟨g, 1, none⟩ = some (.slice (some ⟨q, 0, none⟩) len cap)) (hn : n < len) (_hl : len ≤ 1000000) (k1 : w.cell? ⟨q, n * 2 + 1, none⟩ = some (.int .u64 x)) (kf : w.frozen? ⟨q, n * 2 + 1, none⟩ = false) :
    Calls Try.prog 20 #[.pointer (some ⟨g, 0, none⟩), .int .i64 (n : Int), .int .u64 y] w fun e w' => e = .returned (.int .i64 0) ∧ ∃ m, w' = (w.setCell ⟨q, n * 2 + 1, none⟩ (.int .u64 (Go.bits .andNot .u64 x y))).drewN m := by
  go_enter Try.func20, Try.ntmps20
  go_wp2
  go_region
  all_goals
    go_wp2
    go_ret
    exact ⟨rfl, 1, rfl⟩

theorem rclear_in {w : World} {b g n : Nat} {most : Int} {rows : List (ByteArray × Int)} {r : ByteArray × Int} (h : RIn w b g most rows) (y : Int) (hn : rows[n]? = some r) (hl : rows.length ≤ 1000000) :
    Calls Try.prog 20 #[.pointer (some ⟨g, 0, none⟩), .int .i64 (n : Int), .int .u64 y] w fun e w' => e = .returned (.int .i64 0) ∧ RIn w' b g most (rows.set n (r.1, Go.bits .andNot .u64 r.2 y)) ∧ FrR b w w' := by
  obtain ⟨A, cap, c0, c1, f1, hlt, hq⟩ := h.cells
  have hnl := (List.getElem?_eq_some_iff.1 hn).1
  obtain ⟨q, rfl, hc⟩ := hq (by omega)
  obtain ⟨k0, k1, kf⟩ := hc n r hn
  refine (rclear_in0 w g q n _ cap r.2 y c1 hnl hl k1 kf).mono ?_
  rintro e w' ⟨rfl, m, rfl⟩
  exact ⟨rfl, rturn h hn c1 (Go.bits .andNot .u64 r.2 y) m⟩

set_option maxHeartbeats 800000 in
set_option maxRecDepth 100000 in
theorem rfind_walk (w : World) (b g : Nat) (most : Int) (rows : List (ByteArray × Int)) (key : ByteArray) (h : RIn w b g most rows) (hl : rows.length ≤ 1000000) (d : Nat) (z : Bool) (hz : z = decide (d < rows.length)) (hd : d ≤ rows.length)
    (hno : ∀ (j : Nat) (r : ByteArray × Int), j < d → rows[j]? = some r → r.1 ≠ key) (hyes : ∀ r : ByteArray × Int, rows[d]? = some r → r.1 = key) :
    Calls Try.prog 18 #[.pointer (some ⟨g, 0, none⟩), .string key] w fun e w' => e = .returned (.tuple #[.int .i64 (if z = true then (d : Int) else 0), .bool z]) ∧ w = w' := by
  obtain ⟨A, cap, c0, c1, f1, hlt, hq⟩ := h.cells
  have HQ := Aside0.mk hq
  have HN := Aside0.mk hno
  have HY := Aside0.mk hyes
  have HZ := Aside0.mk hz
  clear h hq hno hyes hz
  go_enter Try.func18, Try.ntmps18
  go_wp2
  go_loop [6] (fun i => ∃ k : Nat, i = .int .i64 (k : Int) ∧ k ≤ d) (fun i => d - (intOf i).toNat)
  case atStart => exact ⟨0, rfl, Nat.zero_le _⟩
  case round =>
    obtain ⟨k, rfl, hk⟩ := hrel
    by_cases hkl : k < rows.length
    · obtain ⟨q, rfl, hc⟩ := HQ.out (by omega)
      obtain ⟨k0, _, _⟩ := hc k _ (List.getElem?_eq_getElem hkl)
      by_cases hkd : k < d
      · have hne := HN.out k _ hkd (List.getElem?_eq_getElem hkl)
        have hq : (rows[k].1.toList == key.toList) = false := by simpa [beq_eq_false_iff_ne] using fun h => hne (toList_one h)
        clear hne hc
        go_wp2
        go_round
        case rel => exact ⟨k + 1, by go_num, by omega⟩
        case measure => simp [intOf]; omega
      · have hke : k = d := by omega
        subst hke
        have he := HY.out _ (List.getElem?_eq_getElem hkl)
        rw [he] at k0
        have hzt := HZ.out
        rw [decide_eq_true hkl] at hzt
        subst hzt
        clear he hc
        go_wp2
        go_ret2
        exact ⟨rfl, rfl⟩
    · have hke : k = d := by omega
      subst hke
      have hzt := HZ.out
      rw [decide_eq_false hkl] at hzt
      subst hzt
      have b0 : decide ((k : Int) < (rows.length : Int)) = false := decide_eq_false (by omega)
      have b1 : decide (k < rows.length) = false := decide_eq_false hkl
      go_wp2
      go_ret2
      exact ⟨rfl, rfl⟩

set_option maxHeartbeats 400000 in
set_option maxRecDepth 100000 in
theorem rput_there (w : World) (b g n : Nat) (most : Int) (rows : List (ByteArray × Int)) (key : ByteArray) (h : RIn w b g most rows) (hl : rows.length ≤ 1000000) (hn : n < rows.length)
    (hno : ∀ (j : Nat) (r : ByteArray × Int), j < n → rows[j]? = some r → r.1 ≠ key) (hyes : ∀ r : ByteArray × Int, rows[n]? = some r → r.1 = key) :
    Calls Try.prog 17 #[.pointer (some ⟨g, 0, none⟩), .string key] w fun e w' => e = .returned (.tuple #[.int .i64 (n : Int), .bool false, .int .i64 0]) ∧ w = w' := by
  have HF := Aside0.mk (rfind_walk w b g most rows key h hl n true (by simp [hn]) (by omega) hno hyes)
  clear h hno hyes
  go_enter Try.func17, Try.ntmps17
  go_wp2_with (go_at_call 18; refine HF.out.mono ?_; rintro e w' ⟨rfl, rfl⟩)
  go_ret3
  exact ⟨rfl, rfl⟩

set_option maxHeartbeats 400000 in
set_option maxRecDepth 100000 in
theorem rput_full (w : World) (b g : Nat) (most : Int) (rows : List (ByteArray × Int)) (key : ByteArray) (h : RIn w b g most rows) (hl : rows.length ≤ 1000000) (hm : most ≤ rows.length) (hno : ∀ (j : Nat) (r : ByteArray × Int), rows[j]? = some r → r.1 ≠ key) :
    Calls Try.prog 17 #[.pointer (some ⟨g, 0, none⟩), .string key] w fun e w' => e = .returned (.tuple #[.int .i64 0, .bool false, .int .i64 45]) ∧ Drawn0 w w' := by
  have HF := Aside0.mk (rfind_walk w b g most rows key h hl rows.length false (by simp) (Nat.le_refl _) (fun j r _ hr => hno j r hr) (fun r hr => by simp at hr))
  obtain ⟨A, cap, c0, c1, f1, hlt, _⟩ := h.cells
  have b0 : decide (most ≤ (rows.length : Int)) = true := decide_eq_true hm
  clear h hno
  go_enter Try.func17, Try.ntmps17
  go_wp2_with (go_at_call 18; refine HF.out.mono ?_; rintro e w' ⟨rfl, rfl⟩)
  go_quiet (fail)
  go_wp2
  go_ret3
  exact ⟨rfl, by repeat (first | exact Drawn0.refl _ | apply Drawn0.step)⟩

/-- A row more is stored. -/
theorem rmore {W w1 : World} {b g : Nat} {most : Int} {rows : List (ByteArray × Int)} {v v1 : Value} (hb : b ≤ W.heap.size) (hg : W.heap[g]? = some (.cells #[.int .i64 most, v] 32 (0, 0))) (hbg : b ≤ g) (hr : W.ownsRow b 63 2 v rows.length (flat rows)) (key : ByteArray)
    (hown : w1.ownsRow b 63 2 v1 (rows.length + 1) (flat rows ++ [.string key, .int .u64 0])) (hgr : W.grownBy w1 v.ownBlock) :
    w1.heap[g]? = some (.cells #[.int .i64 most, v] 32 (0, 0)) ∧ RIn (w1.setCell ⟨g, 1, none⟩ v1) b g most (rows ++ [(key, 0)]) ∧ FrR b W (w1.setCell ⟨g, 1, none⟩ v1) := by
  have hvb : ∀ q, v.ownBlock = some q → b ≤ q ∧ ∃ cs, W.heap[q]? = some (.cells cs 63 (0, 0)) := by
    intro q hq
    rcases hr.2 with ⟨rfl, _⟩ | ⟨q', cap, cur, rfl, hb', hq', _⟩
    · cases hq
    · cases hq
      exact ⟨hb', cur, hq'⟩
  have hne : some g ≠ v.ownBlock := by
    intro e
    obtain ⟨_, cs, hq⟩ := hvb g e.symm
    rw [hg] at hq
    cases hq
  have hg1 := (hgr.block g (blk_lt hg) hne).trans hg
  have hF : FrR b W (w1.setCell ⟨g, 1, none⟩ v1) := ((FrR.refl b W).grown hgr hb (fun q hq => by obtain ⟨h1, cs, h2⟩ := hvb q hq; exact ⟨h1, cs, 63, _, h2, Or.inr rfl⟩)).set (p := ⟨g, 1, none⟩) hg1 (Or.inl rfl) hbg _
  refine ⟨hg1, ⟨Nat.le_trans hb hF.below.size, v1, blk_set hg1 1 v1, hbg, ?_⟩, hF⟩
  have e : flat (rows ++ [(key, 0)]) = flat rows ++ [.string key, .int .u64 0] := by rw [flat_append]; rfl
  have e2 : (rows ++ [(key, (0 : Int))]).length = rows.length + 1 := by simp
  rw [e, e2]
  refine own_setCell hown ?_ v1
  intro hv
  rcases hown.2 with ⟨rfl, _⟩ | ⟨q', cap, cur, rfl, hb', hq', _⟩
  · cases hv
  · cases hv
    rw [hg1] at hq'
    cases hq'

set_option maxHeartbeats 800000 in
set_option maxRecDepth 100000 in
theorem rput_new (w : World) (b g : Nat) (most : Int) (rows : List (ByteArray × Int)) (key : ByteArray) (h : RIn w b g most rows) (hl : rows.length ≤ 1000000) (hm : (rows.length : Int) < most) (hno : ∀ (j : Nat) (r : ByteArray × Int), rows[j]? = some r → r.1 ≠ key) :
    Calls Try.prog 17 #[.pointer (some ⟨g, 0, none⟩), .string key] w fun e w' => e = .returned (.tuple #[.int .i64 (rows.length : Int), .bool true, .int .i64 0]) ∧ RIn w' b g most (rows ++ [(key, 0)]) ∧ FrR b w w' := by
  have HF := Aside0.mk (rfind_walk w b g most rows key h hl rows.length false (by simp) (Nat.le_refl _) (fun j r _ hr => hno j r hr) (fun r hr => by simp at hr))
  obtain ⟨hb, v, hg, hbg, hr⟩ := h
  obtain ⟨A, cap, rfl⟩ := own_slice hr
  have c0 : w.cell? ⟨g, 0, none⟩ = some (.int .i64 most) := (blk_cell hg 0).trans rfl
  have c1 : w.cell? ⟨g, 1, none⟩ = some (.slice A rows.length cap) := (blk_cell hg 1).trans rfl
  have b0 : decide (most ≤ (rows.length : Int)) = false := decide_eq_false (by omega)
  have HB := Aside0.mk hb
  have HG := Aside0.mk hg
  have HR := Aside0.mk hr
  clear hno hb hg hr
  go_enter Try.func17, Try.ntmps17
  go_wp2_with (go_at_call 18; refine HF.out.mono ?_; rintro e w' ⟨rfl, rfl⟩)
  go_quiet (fail)
  go_upto_region 6 with (fail)
  refine wp_world (fun W => Aside0 (W.heap[g]? = some (.cells #[.int .i64 most, .slice A rows.length cap] 32 (0, 0)) ∧ W.ownsRow b 63 2 (.slice A rows.length cap) rows.length (flat rows) ∧ FrR b w W) ∧ W.cell? ⟨g, 1, none⟩ = some (.slice A rows.length cap)) ⟨⟨HG.out, HR.out, (FrR.refl b w).drewN _⟩, c1⟩ (fun W hW => ?_)
  obtain ⟨HW, c1W⟩ := hW
  clear c0 c1 HG HR
  go_upto_region 7 with (at_builtin; refine print_append_cells b rfl _ _ 30 63 (.agg #[.string ⟨#[]⟩, .int .u64 0]) 2 24 rfl Try.underlying30 info63 rfl (by decide) (by decide) (.slice A rows.length cap) rows.length (flat rows) [.string key, .int .u64 0] rfl rfl rfl ?c0 HW.out.2.1 (Below.refl b W) (Nat.le_trans HB.out HW.out.2.2.below.size) (by omega) ?_; (case c0 => intro u hu; simp at hu; rcases hu with rfl | rfl <;> rfl); intro v1 w1 hown1 hB1 hg1 hat1; obtain ⟨A3, kcap3, rfl⟩ := own_slice hown1; have HO := Aside0.mk (rmore (Nat.le_trans HB.out HW.out.2.2.below.size) HW.out.1 hbg HW.out.2.1 key hown1 hg1); have c1' := (blk_cell HO.out.1 1).trans rfl; have hf1' := blk_frozen HO.out.1 1; clear hown1 hB1 hg1 hat1)
  refine wp_world (fun W' => Aside0 (RIn W' b g most (rows ++ [(key, 0)]) ∧ FrR b w W') ∧ W'.cell? ⟨g, 1, none⟩ = some (.slice A3 (rows.length + 1) kcap3)) ⟨⟨HO.out.2.1, HW.out.2.2.trans HO.out.2.2⟩, by have h_ := blk_set HO.out.1 1 (.slice A3 (rows.length + 1) kcap3); exact (blk_cell h_ 1).trans rfl⟩ (fun W2 hW => ?_)
  obtain ⟨HW2, c2W⟩ := hW
  clear HO c1' hf1' c1W HW
  go_wp2
  go_ret3
  exact ⟨rfl, HW2.out⟩
end Go.Proofs.Ytihlndgnkhlphaa.St
