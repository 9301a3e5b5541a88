-- PRINTED BY print.sh 35421559b90ae4d0a3588c463048766b98c2df88dd9212a6774a882060cdf62d: not written by this session
import Derived.Test.YtihlndgnkhlphaaPStorePlaysx0
namespace Go.Proofs.Ytihlndgnkhlphaa.PStorePlays
open Go.RowKit Go.Proofs.YtihlndgnkhlphaaW.PrintWords Go.Proofs.YtihlndgnkhlphaaW.PrintLast Go.Proofs.YtihlndgnkhlphaaW.PrintMore
attribute [local go_sem] max2_int min2_int max_two min_two max_three min_three max_four min_four   -- for this text's walks alone
set_option linter.unusedVariables false
set_option linter.unusedSimpArgs false

-- NOT PRINTED: function 7 (store_New)

/-! ### store_hash: function 29 -/
def store_hash.l0 : Nat → ByteArray → Int → Int → Int → Option (Int)
  | 0, _, _, _, _ => none
  | k + 1, x0, x3, x6, x7 => if x7 < x6 then (if 0 ≤ x7 then (if x7 < (x0.size : Int) then (store_hash.l0 k x0 (IntKind.u64.wrap ((Go.bits .xor .u64 x3 (IntKind.u64.wrap (bt x0 x7))) * 1099511628211)) x6 (wrap64 (x7 + 1))) else (none)) else (none)) else (some x3)
def store_hash.f (k : Nat) (a0 : ByteArray) : Option (Int) := store_hash.l0 k a0 14695981039346656037 (a0.size : Int) 0
theorem store_hash.mono_l : ∀ k, (∀ y0 y1 y2 y3, LeO (store_hash.l0 k y0 y1 y2 y3) (store_hash.l0 (k + 1) y0 y1 y2 y3))
  | 0 => fun _ _ _ _ r h => by simp [store_hash.l0] at h
  | k + 1 => by
    have ih0 := store_hash.mono_l k
    · intro y0 y1 y2 y3
      unfold store_hash.l0
      repeat' first
      | (with_reducible exact ih0 _ _ _ _)
      | (with_reducible exact LeO.refl _)
      | (with_reducible exact LeO.none _)
      | (with_reducible refine LeO.ite ?_ ?_)
      | (with_reducible refine LeO.bind ?_ (fun _ => ?_))
      | exact ih0 _ _ _ _
      | exact LeO.none _
      | refine LeO.ite ?_ ?_
      | refine LeO.bind ?_ (fun _ => ?_)
theorem store_hash.mono : ∀ a0 k, LeO (store_hash.f k a0) (store_hash.f (k + 1) a0) := by
  intro a0 k
  have ih0 := store_hash.mono_l k
  unfold store_hash.f
  repeat' first
      | (with_reducible exact ih0 _ _ _ _)
      | (with_reducible exact LeO.refl _)
      | (with_reducible exact LeO.none _)
      | (with_reducible refine LeO.ite ?_ ?_)
      | (with_reducible refine LeO.bind ?_ (fun _ => ?_))
      | exact ih0 _ _ _ _
      | exact LeO.none _
      | refine LeO.ite ?_ ?_
      | refine LeO.bind ?_ (fun _ => ?_)
set_option maxHeartbeats 8000000 in
set_option maxRecDepth 100000 in
theorem store_hash.calls (k : Nat) (a0 : ByteArray) (r : Int) (w : World) (h : store_hash.f k a0 = some r) :
    Calls Try.prog 29 #[.string a0] w fun e w' => e = .returned (.int .u64 r) ∧ Drawn0 w w' := by
  have H : (store_hash.l0 k a0 14695981039346656037 (a0.size : Int) 0) = some r := h
  clear h
  have H' := Aside0.mk H
  clear H
  go_enter Try.func29, Try.ntmps29
  go_wp2
  go_loopg [3, 7] k (fun kq v3 v7 w' => ∃ (x3_1 : Int) (x7_1 : Int), v3 = .int .u64 x3_1 ∧ v7 = .int .i64 x7_1 ∧ Aside0 (store_hash.l0 kq a0 x3_1 (a0.size : Int) x7_1 = some r) ∧ Aside0 (kq ≤ k) ∧ Drawn0 w w')
  case atStart => exact ⟨(14695981039346656037), (0), (by first | rfl | (simp; done) | (simp [*]; done)), (by first | rfl | (simp; done) | (simp [*]; done)), H', ⟨Nat.le_refl _⟩, by repeat (first | exact Drawn0.refl _ | apply Drawn0.step)⟩
  case round =>
    clear H'
    obtain ⟨x3_1, x7_1, rfl, rfl, HA, HK1, ⟨m1, rfl⟩⟩ := hrel
    cases gk with
    | zero => exact absurd HA.out (by simp [store_hash.l0])
    | succ k1 =>
      have H := HA.out
      clear HA
      simp only [store_hash.l0] at H
      by_cases c2 : x7_1 < (a0.size : Int)
      · rw [if_pos c2] at H
        have c2b0 : decide (x7_1 < (a0.size : Int)) = true := decide_eq_true c2
        clear c2
        by_cases c3 : 0 ≤ x7_1
        · rw [if_pos c3] at H
          have c3b0 : decide (0 ≤ x7_1) = true := decide_eq_true c3
          clear c3
          by_cases c4 : x7_1 < (a0.size : Int)
          · rw [if_pos c4] at H
            have c4b0 : decide (x7_1 < (a0.size : Int)) = true := decide_eq_true c4
            clear c4
            have H' := Aside0.mk H
            clear H
            have p5 : 0 ≤ (x7_1 : Int) := of_decide_eq_true (by first | (with_reducible assumption) | assumption)
            have q5 : x7_1 < (a0.size : Int) := of_decide_eq_true (by first | (with_reducible assumption) | assumption)
            have hx5 := bt_at a0 x7_1
            replace p5 := eq_true p5
            replace q5 := eq_true q5
            go_wp2
            go_roundg k1
            case measure => have := HK1.out; omega
            case rel => exact ⟨(IntKind.u64.wrap ((Go.bits .xor .u64 x3_1 (IntKind.u64.wrap (bt a0 x7_1))) * 1099511628211)), (wrap64 (x7_1 + 1)), (by first | rfl | (simp; done) | (simp [*]; done)), (by first | rfl | (simp; done) | (simp [*]; done)), H', ⟨by have := HK1.out; omega⟩, by repeat (first | exact Drawn0.refl _ | apply Drawn0.step)⟩
          · rw [if_neg c4] at H
            exact absurd H (by simp)
        · rw [if_neg c3] at H
          exact absurd H (by simp)
      · rw [if_neg c2] at H
        have c2b0 : decide (x7_1 < (a0.size : Int)) = false := decide_eq_false c2
        clear c2
        obtain rfl := Option.some.inj H
        go_wp2
        go_ret
        exact ⟨by first | rfl | (simp; done) | (simp [*]; done), by repeat (first | exact Drawn0.refl _ | apply Drawn0.step)⟩

-- NOT PRINTED: function 23 (store_Store_slot)

-- NOT PRINTED: function 24 (store_Store_grow)

-- NOT PRINTED: function 11 (store_Store_Put)

-- NOT PRINTED: function 25 (store_Store_has)

-- NOT PRINTED: function 12 (store_Store_Key)

-- NOT PRINTED: function 26 (store_Store_change)

-- NOT PRINTED: function 14 (store_Store_Mark)

-- NOT PRINTED: function 15 (store_Store_Clear)

-- NOT PRINTED: function 16 (store_Store_Bits)

-- NOT PRINTED: function 6 (spinneretlaw18_shown)

/-! ### spinneretref18_Takes: function 8 -/
def spinneretref18_Takes.f (a0 : Int) : Option (Bool) := if a0 ≥ 1 then (some (decide (a0 ≤ 20000))) else (some false)
set_option maxHeartbeats 8000000 in
set_option maxRecDepth 100000 in
theorem spinneretref18_Takes.calls (a0 : Int) (r : Bool) (w : World) (h : spinneretref18_Takes.f a0 = some r) :
    Calls Try.prog 8 #[.int .i64 a0] w fun e w' => e = .returned (.bool r) ∧ Drawn0 w w' := by
  have H : (if a0 ≥ 1 then (some (decide (a0 ≤ 20000))) else (some false)) = some r := h
  clear h
  by_cases c2 : a0 ≥ 1
  · rw [if_pos c2] at H
    have c2b0 : decide (1 ≤ a0) = true := decide_eq_true c2
    clear c2
    obtain rfl := Option.some.inj H
    go_enter Try.func8, Try.ntmps8
    go_wp2
    go_ret
    exact ⟨by first | rfl | (simp; done) | (simp [*]; done), by repeat (first | exact Drawn0.refl _ | apply Drawn0.step)⟩
  · rw [if_neg c2] at H
    have c2b0 : decide (1 ≤ a0) = false := decide_eq_false c2
    clear c2
    obtain rfl := Option.some.inj H
    go_enter Try.func8, Try.ntmps8
    go_wp2
    go_ret
    exact ⟨by first | rfl | (simp; done) | (simp [*]; done), by repeat (first | exact Drawn0.refl _ | apply Drawn0.step)⟩

-- NOT PRINTED: function 13 (store_Store_Find)

/-- A state of type 32 at block g of W; what its slices lead to came in by w0. -/
def IsS32 (w0 W : World) (g : Nat) (f0 : Int) (f1 : List (S63)) : Prop := ∃ A1 c1, W.heap[g]? = some (.cells #[.int .i64 f0, .slice A1 f1.length c1] 32 (0, 0)) ∧ w0.heap.size ≤ g ∧ Kd.C k63 w0 A1 f1.length f1
theorem IsS32.grown {w0 W : World} {g : Nat} {f0 : Int} {f1 : List (S63)} {W1 : World} {row : Option Nat} (h : IsS32 w0 W g f0 f1) (hw : W.grownBy W1 row) (hne : some g ≠ row) : IsS32 w0 W1 g f0 f1 := by
  obtain ⟨A1, c1, hb, hg, hr1⟩ := h
  exact ⟨A1, c1, blk_grown hb hw hne, hg, hr1⟩
theorem IsS32.own_neN {w0 W : World} {g : Nat} {f0 : Int} {f1 : List (S63)} {α : Type} {d : Kd α} {e : Nat} {base : Nat} {ok : Nat → Prop} {v : Value} {xs : List α} (h : IsS32 w0 W g f0 f1) (ho : Kd.N d e W base ok v xs) (ht : e ≠ 32) : some g ≠ v.ownBlock := by
  obtain ⟨A1, c1, hb, hg, hr1⟩ := h
  exact Kd.N_ne ho hb ht
theorem IsS32.fresh {w0 W : World} {g : Nat} {f0 : Int} {f1 : List (S63)} (h : IsS32 w0 W g f0 f1) : ∀ k, W.heap.size ≤ k → k ≠ g := by
  obtain ⟨A1, c1, hb, hg, hr1⟩ := h
  exact Kd.freshB hb
theorem IsS32.kept {w0 W : World} {g : Nat} {f0 : Int} {f1 : List (S63)} {W1 : World} {S : Nat → Prop} (h : IsS32 w0 W g f0 f1) (hk : Kept W W1 S) (hne : ¬ S g) : IsS32 w0 W1 g f0 f1 := by
  obtain ⟨A1, c1, hb, hg, hr1⟩ := h
  exact ⟨A1, c1, blk_kept hb hk hne, hg, hr1⟩
theorem IsS32.below {w0 W : World} {g : Nat} {f0 : Int} {f1 : List (S63)} {W1 : World} (h : IsS32 w0 W g f0 f1) (hw : Below W.heap.size W W1) : IsS32 w0 W1 g f0 f1 := h.grown (grown_of_below hw none) (by simp)
theorem IsS32.alloc {w0 W : World} {g : Nat} {f0 : Int} {f1 : List (S63)} (h : IsS32 w0 W g f0 f1) (o : Obj) : IsS32 w0 (W.alloc o) g f0 f1 := h.below (below_alloc (Below.refl _ _) o)
theorem IsS32.drewN {w0 W : World} {g : Nat} {f0 : Int} {f1 : List (S63)} (h : IsS32 w0 W g f0 f1) (m : Nat) : IsS32 w0 (W.drewN m) g f0 f1 := h
theorem IsS32.drew {w0 W : World} {g : Nat} {f0 : Int} {f1 : List (S63)} (h : IsS32 w0 W g f0 f1) : IsS32 w0 W.drew g f0 f1 := h
theorem IsS32.at_ {w0 W : World} {g : Nat} {f0 : Int} {f1 : List (S63)} {w' : World} {m : Nat} (hq : W.drewN m = w') (h : IsS32 w0 W g f0 f1) : IsS32 w0 w' g f0 f1 := by subst hq; exact IsS32.drewN h m
theorem IsS32.apart {w0 W : World} {g : Nat} {f0 : Int} {f1 : List (S63)} {α : Type} {d : Kd α} {e : Nat} {base : Nat} {ok : Nat → Prop} {v : Value} {xs : List α} (h : IsS32 w0 W g f0 f1) (ho : d.R e W base ok v xs) (ht : ∀ q, q ∈ e :: d.E → q ≠ 32) : d.R e W base (fun k => ok k ∧ k ≠ g) v xs := by
  obtain ⟨A1, c1, hb, hg, hr1⟩ := h
  exact Kd.R_types ho hb ht
theorem IsS32.own_ne {w0 W : World} {g : Nat} {f0 : Int} {f1 : List (S63)} {α : Type} {d : Kd α} {e : Nat} {base : Nat} {ok : Nat → Prop} {v : Value} {xs : List α} (h : IsS32 w0 W g f0 f1) (ho : d.R e W base ok v xs) (ht : e ≠ 32) : some g ≠ v.ownBlock := by
  obtain ⟨A1, c1, hb, hg, hr1⟩ := h
  exact Kd.R_ne ho hb ht
theorem IsS32.apartQ {w0 W : World} {g : Nat} {f0 : Int} {f1 : List (S63)} {α : Type} {d : Kd α} {e : Nat} {base : Nat} {ok : Nat → Prop} {v : Value} {xs : List α} (h : IsS32 w0 W g f0 f1) (ho : d.Q e W base ok v xs) (ht : ∀ q, q ∈ e :: d.E → q ≠ 32) : d.Q e W base (fun k => ok k ∧ k ≠ g) v xs := by
  obtain ⟨A1, c1, hb, hg, hr1⟩ := h
  exact Kd.Q_types ho hb ht
theorem IsS32.own_neQ {w0 W : World} {g : Nat} {f0 : Int} {f1 : List (S63)} {α : Type} {d : Kd α} {e : Nat} {base : Nat} {ok : Nat → Prop} {v : Value} {xs : List α} (h : IsS32 w0 W g f0 f1) (ho : d.Q e W base ok v xs) (ht : e ≠ 32) : some g ≠ v.ownBlock := by
  obtain ⟨A1, c1, hb, hg, hr1⟩ := h
  exact Kd.Q_ne ho hb ht
theorem IsS32.apartS {w0 W : World} {g : Nat} {f0 : Int} {f1 : List (S63)} {α : Type} {d : Kd α} {e : Nat} {base : Nat} {ok : Nat → Prop} {v : Value} {xs : List α} (h : IsS32 w0 W g f0 f1) (ho : d.S e W base ok v xs) (ht : ∀ q, q ∈ e :: d.E → q ≠ 32) : d.S e W base (fun k => ok k ∧ k ≠ g) v xs := by
  obtain ⟨A1, c1, hb, hg, hr1⟩ := h
  exact Kd.S_types ho hb ht
theorem IsS32.own_neS {w0 W : World} {g : Nat} {f0 : Int} {f1 : List (S63)} {α : Type} {d : Kd α} {e : Nat} {base : Nat} {ok : Nat → Prop} {v : Value} {xs : List α} (h : IsS32 w0 W g f0 f1) (ho : d.S e W base ok v xs) (ht : e ≠ 32) : some g ≠ v.ownBlock := by
  obtain ⟨A1, c1, hb, hg, hr1⟩ := h
  exact Kd.S_ne ho hb ht
theorem IsS32.lt {w0 W : World} {g : Nat} {f0 : Int} {f1 : List (S63)} (h : IsS32 w0 W g f0 f1) : g < W.heap.size := by
  obtain ⟨A1, c1, hb, hg, hr1⟩ := h
  exact blk_lt hb
theorem IsS32.ge {w0 W : World} {g : Nat} {f0 : Int} {f1 : List (S63)} (h : IsS32 w0 W g f0 f1) : w0.heap.size ≤ g := by
  obtain ⟨A1, c1, hb, hg, hr1⟩ := h
  exact hg
theorem IsS32.ne_blk {w0 W : World} {g : Nat} {f0 : Int} {f1 : List (S63)} {a : Nat} {cs : Array Value} {t : TypeId} {fr : Nat × Nat} (h : IsS32 w0 W g f0 f1) (hb2 : W.heap[a]? = some (.cells cs t fr)) (ht : t ≠ 32) : g ≠ a := by
  obtain ⟨A1, c1, hb, hg, hr1⟩ := h
  rintro rfl
  rw [hb] at hb2
  injection hb2 with hb2
  injection hb2 with _ ht2
  exact ht ht2.symm
theorem IsS32.far {w0 W : World} {g : Nat} {f0 : Int} {f1 : List (S63)} {p : Addr} (h : IsS32 w0 W g f0 f1) (hne : g ≠ p.block) (u : Value) : IsS32 w0 (W.setCell p u) g f0 f1 := by
  obtain ⟨A1, c1, hb, hg, hr1⟩ := h
  exact ⟨A1, c1, blk_far hb hne u, hg, hr1⟩
theorem cellS32_0 {W : World} {g : Nat} {A1 : Option Addr} {c1 : Nat} {f0 : Int} {f1 : List (S63)} (h : W.heap[g]? = some (.cells #[.int .i64 f0, .slice A1 f1.length c1] 32 (0, 0))) : W.cell? ⟨g, 0, none⟩ = some (.int .i64 f0) := (blk_cell h 0).trans rfl
theorem IsS32.set_0 {w0 W : World} {g : Nat} {f0 : Int} {f1 : List (S63)} (h : IsS32 w0 W g f0 f1) (x : Int) : IsS32 w0 (W.setCell ⟨g, 0, none⟩ (.int .i64 x)) g x f1 := by
  obtain ⟨A1, c1, hb, hg, hr1⟩ := h
  exact ⟨A1, c1, by simpa using blk_set hb 0 (.int .i64 x), hg, hr1⟩
theorem cellS32_1 {W : World} {g : Nat} {A1 : Option Addr} {c1 : Nat} {f0 : Int} {f1 : List (S63)} (h : W.heap[g]? = some (.cells #[.int .i64 f0, .slice A1 f1.length c1] 32 (0, 0))) : W.cell? ⟨g, 1, none⟩ = some (.slice A1 f1.length c1) := (blk_cell h 1).trans rfl
theorem IsS32.new (w0 W : World) (A1 : Option Addr) (c1 : Nat) (f0 : Int) (f1 : List (S63)) (hB : Below w0.heap.size w0 W) (hr1 : Kd.C k63 w0 A1 f1.length f1) : IsS32 w0 (W.alloc (.cells #[.int .i64 f0, .slice A1 f1.length c1] 32)) W.heap.size f0 f1 := ⟨A1, c1, by simpa using heap_alloc_new W _, hB.size, hr1⟩

/-! ### spinneretref18_Store_Find: function 18 -/
def spinneretref18_Store_Find.l0 : Nat → ByteArray → Int → Int → List (S63) → Option (Int × Bool × Int)
  | 0, _, _, _, _ => none
  | k + 1, x1, x6, x1000, x1001 => if x6 < (x1001.length : Int) then (if 0 ≤ x6 then (if ((rd_T63 x1001 x6).f0).toList = x1.toList then (some (x6, true, x1000)) else (spinneretref18_Store_Find.l0 k x1 (wrap64 (x6 + 1)) x1000 x1001)) else (none)) else (some (0, false, x1000))
def spinneretref18_Store_Find.f (k : Nat) (s0_0 : Int) (s0_1 : List (S63)) (a1 : ByteArray) : Option (Int × Bool × Int) := spinneretref18_Store_Find.l0 k a1 0 s0_0 s0_1
theorem spinneretref18_Store_Find.mono_l : ∀ k, (∀ y0 y1 y2 y3, LeO (spinneretref18_Store_Find.l0 k y0 y1 y2 y3) (spinneretref18_Store_Find.l0 (k + 1) y0 y1 y2 y3))
  | 0 => fun _ _ _ _ r h => by simp [spinneretref18_Store_Find.l0] at h
  | k + 1 => by
    have ih0 := spinneretref18_Store_Find.mono_l k
    · intro y0 y1 y2 y3
      unfold spinneretref18_Store_Find.l0
      repeat' first
      | (with_reducible exact ih0 _ _ _ _)
      | (with_reducible exact LeO.refl _)
      | (with_reducible exact LeO.none _)
      | (with_reducible refine LeO.ite ?_ ?_)
      | (with_reducible refine LeO.bind ?_ (fun _ => ?_))
      | exact ih0 _ _ _ _
      | exact LeO.none _
      | refine LeO.ite ?_ ?_
      | refine LeO.bind ?_ (fun _ => ?_)
theorem spinneretref18_Store_Find.mono : ∀ a0 a1 a2 k, LeO (spinneretref18_Store_Find.f k a0 a1 a2) (spinneretref18_Store_Find.f (k + 1) a0 a1 a2) := by
  intro a0 a1 a2 k
  have ih0 := spinneretref18_Store_Find.mono_l k
  unfold spinneretref18_Store_Find.f
  repeat' first
      | (with_reducible exact ih0 _ _ _ _)
      | (with_reducible exact LeO.refl _)
      | (with_reducible exact LeO.none _)
      | (with_reducible refine LeO.ite ?_ ?_)
      | (with_reducible refine LeO.bind ?_ (fun _ => ?_))
      | exact ih0 _ _ _ _
      | exact LeO.none _
      | refine LeO.ite ?_ ?_
      | refine LeO.bind ?_ (fun _ => ?_)
set_option maxHeartbeats 8000000 in
set_option maxRecDepth 100000 in
theorem spinneretref18_Store_Find.calls (k : Nat) (g : Nat) (s0_0 : Int) (s0_1 : List (S63)) (a1 : ByteArray) (r1 : Int) (r2 : Bool) (r3 : Int) (w0 w : World) (hI : IsS32 w0 w g s0_0 s0_1) (hB : Below w0.heap.size w0 w) (h : spinneretref18_Store_Find.f k s0_0 s0_1 a1 = some (r1, r2, r3)) :
    Calls Try.prog 18 #[.pointer (some ⟨g, 0, none⟩), .string a1] w fun e w' => e = .returned (.tuple #[.int .i64 r1, .bool r2]) ∧ IsS32 w0 w' g r3 s0_1 ∧ Below w0.heap.size w0 w' ∧ KeepBut w w' g none := by
  have HI0 := Aside0.mk hI
  have HK := Aside0.mk (KeepBut.refl w g none)
  have HL := Aside0.mk hB.size
  clear hI
  have HW0 := Aside0.mk hB.size
  have HB := Aside0.mk hB
  clear hB
  have H : (spinneretref18_Store_Find.l0 k a1 0 s0_0 s0_1) = some (r1, r2, r3) := h
  clear h
  have H' := Aside0.mk H
  clear H
  go_enter Try.func18, Try.ntmps18
  go_wp2
  go_loopg [6] k (fun kq v6 w' => ∃ (x6_1 : Int), v6 = .int .i64 x6_1 ∧ Aside0 (spinneretref18_Store_Find.l0 kq a1 x6_1 s0_0 s0_1 = some (r1, r2, r3)) ∧ Aside0 (kq ≤ k) ∧ Aside0 (IsS32 w0 w' g s0_0 s0_1) ∧ Aside0 (KeepBut w w' g none) ∧ Aside0 (Below w0.heap.size w0 w'))
  case atStart => exact ⟨(0), (by first | rfl | (simp; done) | (simp [*]; done)), H', ⟨Nat.le_refl _⟩, ⟨by repeat (first | (with_reducible first | exact HI0.out | apply IsS32.alloc | apply IsS32.drewN | apply IsS32.drew | apply IsS32.set_0) | exact HI0.out)⟩, ⟨by repeat (first | (with_reducible first | exact HK.out | apply KeepBut.set_ | apply keep_drewN | apply keep_drew | apply keep_alloc) | exact HK.out)⟩, ⟨by repeat (first | (with_reducible first | exact HB.out | apply below_alloc | apply pw_below_drewN | apply below_drew1 | refine below_set ?_ (IsS32.ge HI0.out)) | exact HB.out)⟩⟩
  case round =>
    clear H'
    try clear c1
    try clear p2
    obtain ⟨x6_1, rfl, HA, HK1, HI0, HK, HB⟩ := hrel
    cases gk with
    | zero => exact absurd HA.out (by simp [spinneretref18_Store_Find.l0])
    | succ k1 =>
      have H := HA.out
      clear HA
      simp only [spinneretref18_Store_Find.l0] at H
      by_cases c3 : x6_1 < (s0_1.length : Int)
      · rw [if_pos c3] at H
        have c3b0 : decide (x6_1 < (s0_1.length : Int)) = true := decide_eq_true c3
        clear c3
        by_cases c4 : 0 ≤ x6_1
        · rw [if_pos c4] at H
          have c4b0 : decide (0 ≤ x6_1) = true := decide_eq_true c4
          clear c4
          by_cases c5 : ((rd_T63 s0_1 x6_1).f0).toList = a1.toList
          · rw [if_pos c5] at H
            have c5b0 : (((rd_T63 s0_1 x6_1).f0).toList == a1.toList) = true := beq_iff_eq.mpr c5
            have c5b1 : (((rd_T63 s0_1 x6_1).f0).toList != a1.toList) = false := bne_eq_false_iff_eq.mpr c5
            clear c5
            simp only [Option.some.injEq, Prod.mk.injEq] at H
            obtain ⟨rfl, rfl, rfl⟩ := H
            obtain ⟨ASz6_1, cSz6_1, HGz6, hgz6, HSz6_1⟩ := HI0.out
            have hcz6_0 := cellS32_0 HGz6
            have hcz6_1 := cellS32_1 HGz6
            have hfz6_0 := blk_frozen HGz6 0
            clear HGz6 hgz6
            have p105 : 0 ≤ (x6_1 : Int) := of_decide_eq_true (by first | (with_reducible assumption) | assumption)
            have q105 : x6_1 < (s0_1.length : Int) := of_decide_eq_true (by first | (with_reducible assumption) | assumption)
            obtain ⟨ad105, e105, hx105_0, hx105_1⟩ := at_T63 HSz6_1 x6_1 p105 q105
            cases e105
            replace hx105_0 := pw_cell_below HB.out hx105_0
            replace hx105_1 := pw_cell_below HB.out hx105_1
            replace p105 := eq_true p105
            replace q105 := eq_true q105
            go_wp2
            go_ret2
            exact ⟨by first | rfl | (simp [errW_none, errW_some] <;> rfl) | (simp [*, errW_none, errW_some] <;> rfl), by repeat (first | (with_reducible first | exact HI0.out | apply IsS32.alloc | apply IsS32.drewN | apply IsS32.drew | apply IsS32.set_0) | exact HI0.out), by repeat (first | (with_reducible first | exact HB.out | apply below_alloc | apply pw_below_drewN | apply below_drew1 | refine below_set ?_ (IsS32.ge HI0.out)) | exact HB.out), by repeat (first | (with_reducible first | exact HK.out | apply KeepBut.set_ | apply keep_drewN | apply keep_drew | apply keep_alloc) | exact HK.out)⟩
          · rw [if_neg c5] at H
            have c5b0 : (((rd_T63 s0_1 x6_1).f0).toList == a1.toList) = false := beq_eq_false_iff_ne.mpr c5
            have c5b1 : (((rd_T63 s0_1 x6_1).f0).toList != a1.toList) = true := bne_iff_ne.mpr c5
            have H' := Aside0.mk H
            clear H
            obtain ⟨ASz7_1, cSz7_1, HGz7, hgz7, HSz7_1⟩ := HI0.out
            have hcz7_0 := cellS32_0 HGz7
            have hcz7_1 := cellS32_1 HGz7
            have hfz7_0 := blk_frozen HGz7 0
            clear HGz7 hgz7
            have p105 : 0 ≤ (x6_1 : Int) := of_decide_eq_true (by first | (with_reducible assumption) | assumption)
            have q105 : x6_1 < (s0_1.length : Int) := of_decide_eq_true (by first | (with_reducible assumption) | assumption)
            obtain ⟨ad105, e105, hx105_0, hx105_1⟩ := at_T63 HSz7_1 x6_1 p105 q105
            cases e105
            replace hx105_0 := pw_cell_below HB.out hx105_0
            replace hx105_1 := pw_cell_below HB.out hx105_1
            replace p105 := eq_true p105
            replace q105 := eq_true q105
            go_wp2
            go_roundg k1
            case measure => have := HK1.out; omega
            case rel => exact ⟨(wrap64 (x6_1 + 1)), (by first | rfl | (simp; done) | (simp [*]; done)), H', ⟨by have := HK1.out; omega⟩, ⟨by repeat (first | (with_reducible first | exact HI0.out | apply IsS32.alloc | apply IsS32.drewN | apply IsS32.drew | apply IsS32.set_0) | exact HI0.out)⟩, ⟨by repeat (first | (with_reducible first | exact HK.out | apply KeepBut.set_ | apply keep_drewN | apply keep_drew | apply keep_alloc) | exact HK.out)⟩, ⟨by repeat (first | (with_reducible first | exact HB.out | apply below_alloc | apply pw_below_drewN | apply below_drew1 | refine below_set ?_ (IsS32.ge HI0.out)) | exact HB.out)⟩⟩
        · rw [if_neg c4] at H
          exact absurd H (by simp)
      · rw [if_neg c3] at H
        have c3b0 : decide (x6_1 < (s0_1.length : Int)) = false := decide_eq_false c3
        clear c3
        simp only [Option.some.injEq, Prod.mk.injEq] at H
        obtain ⟨rfl, rfl, rfl⟩ := H
        obtain ⟨ASz8_1, cSz8_1, HGz8, hgz8, HSz8_1⟩ := HI0.out
        have hcz8_0 := cellS32_0 HGz8
        have hcz8_1 := cellS32_1 HGz8
        have hfz8_0 := blk_frozen HGz8 0
        clear HGz8 hgz8
        go_wp2
        go_ret2
        exact ⟨by first | rfl | (simp [errW_none, errW_some] <;> rfl) | (simp [*, errW_none, errW_some] <;> rfl), by repeat (first | (with_reducible first | exact HI0.out | apply IsS32.alloc | apply IsS32.drewN | apply IsS32.drew | apply IsS32.set_0) | exact HI0.out), by repeat (first | (with_reducible first | exact HB.out | apply below_alloc | apply pw_below_drewN | apply below_drew1 | refine below_set ?_ (IsS32.ge HI0.out)) | exact HB.out), by repeat (first | (with_reducible first | exact HK.out | apply KeepBut.set_ | apply keep_drewN | apply keep_drew | apply keep_alloc) | exact HK.out)⟩

-- NOT PRINTED: function 17 (spinneretref18_Store_Put)

-- NOT PRINTED: function 19 (spinneretref18_Store_Mark)

-- NOT PRINTED: function 20 (spinneretref18_Store_Clear)

/-! ### spinneretref18_Store_Key: function 21 -/
def spinneretref18_Store_Key.f (s0_0 : Int) (s0_1 : List (S63)) (a1 : Int) : Option (ByteArray × Int × Int) := if a1 < 0 then (some ((⟨#[]⟩ : ByteArray), 46, s0_0)) else (if a1 ≥ (s0_1.length : Int) then (some ((⟨#[]⟩ : ByteArray), 46, s0_0)) else (if 0 ≤ a1 then (if a1 < (s0_1.length : Int) then (some ((rd_T63 s0_1 a1).f0, 0, s0_0)) else (none)) else (none)))
set_option maxHeartbeats 8000000 in
set_option maxRecDepth 100000 in
theorem spinneretref18_Store_Key.calls (g : Nat) (s0_0 : Int) (s0_1 : List (S63)) (a1 : Int) (r1 : ByteArray) (r2 : Int) (r3 : Int) (w0 w : World) (hI : IsS32 w0 w g s0_0 s0_1) (hB : Below w0.heap.size w0 w) (h : spinneretref18_Store_Key.f s0_0 s0_1 a1 = some (r1, r2, r3)) :
    Calls Try.prog 21 #[.pointer (some ⟨g, 0, none⟩), .int .i64 a1] w fun e w' => e = .returned (.tuple #[.string r1, .int .i64 r2]) ∧ IsS32 w0 w' g r3 s0_1 ∧ Below w0.heap.size w0 w' ∧ KeepBut w w' g none := by
  have HI0 := Aside0.mk hI
  have HK := Aside0.mk (KeepBut.refl w g none)
  have HL := Aside0.mk hB.size
  clear hI
  have HW0 := Aside0.mk hB.size
  have HB := Aside0.mk hB
  clear hB
  have H : (if a1 < 0 then (some ((⟨#[]⟩ : ByteArray), 46, s0_0)) else (if a1 ≥ (s0_1.length : Int) then (some ((⟨#[]⟩ : ByteArray), 46, s0_0)) else (if 0 ≤ a1 then (if a1 < (s0_1.length : Int) then (some ((rd_T63 s0_1 a1).f0, 0, s0_0)) else (none)) else (none)))) = some (r1, r2, r3) := h
  clear h
  by_cases c3 : a1 < 0
  · rw [if_pos c3] at H
    have c3b0 : decide (a1 < 0) = true := decide_eq_true c3
    clear c3
    simp only [Option.some.injEq, Prod.mk.injEq] at H
    obtain ⟨rfl, rfl, rfl⟩ := H
    go_enter Try.func21, Try.ntmps21
    go_wp2
    go_ret2
    exact ⟨by first | rfl | (simp [errW_none, errW_some] <;> rfl) | (simp [*, errW_none, errW_some] <;> rfl), by repeat (first | (with_reducible first | exact HI0.out | apply IsS32.alloc | apply IsS32.drewN | apply IsS32.drew | apply IsS32.set_0) | exact HI0.out), by repeat (first | (with_reducible first | exact HB.out | apply below_alloc | apply pw_below_drewN | apply below_drew1 | refine below_set ?_ (IsS32.ge HI0.out)) | exact HB.out), by repeat (first | (with_reducible first | exact HK.out | apply KeepBut.set_ | apply keep_drewN | apply keep_drew | apply keep_alloc) | exact HK.out)⟩
  · rw [if_neg c3] at H
    have c3b0 : decide (a1 < 0) = false := decide_eq_false c3
    clear c3
    by_cases c4 : a1 ≥ (s0_1.length : Int)
    · rw [if_pos c4] at H
      have c4b0 : decide ((s0_1.length : Int) ≤ a1) = true := decide_eq_true c4
      clear c4
      simp only [Option.some.injEq, Prod.mk.injEq] at H
      obtain ⟨rfl, rfl, rfl⟩ := H
      obtain ⟨ASz5_1, cSz5_1, HGz5, hgz5, HSz5_1⟩ := HI0.out
      have hcz5_0 := cellS32_0 HGz5
      have hcz5_1 := cellS32_1 HGz5
      have hfz5_0 := blk_frozen HGz5 0
      clear HGz5 hgz5
      go_enter Try.func21, Try.ntmps21
      go_wp2
      go_ret2
      exact ⟨by first | rfl | (simp [errW_none, errW_some] <;> rfl) | (simp [*, errW_none, errW_some] <;> rfl), by repeat (first | (with_reducible first | exact HI0.out | apply IsS32.alloc | apply IsS32.drewN | apply IsS32.drew | apply IsS32.set_0) | exact HI0.out), by repeat (first | (with_reducible first | exact HB.out | apply below_alloc | apply pw_below_drewN | apply below_drew1 | refine below_set ?_ (IsS32.ge HI0.out)) | exact HB.out), by repeat (first | (with_reducible first | exact HK.out | apply KeepBut.set_ | apply keep_drewN | apply keep_drew | apply keep_alloc) | exact HK.out)⟩
    · rw [if_neg c4] at H
      have c4b0 : decide ((s0_1.length : Int) ≤ a1) = false := decide_eq_false c4
      clear c4
      by_cases c6 : 0 ≤ a1
      · rw [if_pos c6] at H
        have c6b0 : decide (0 ≤ a1) = true := decide_eq_true c6
        clear c6
        by_cases c7 : a1 < (s0_1.length : Int)
        · rw [if_pos c7] at H
          have c7b0 : decide (a1 < (s0_1.length : Int)) = true := decide_eq_true c7
          clear c7
          simp only [Option.some.injEq, Prod.mk.injEq] at H
          obtain ⟨rfl, rfl, rfl⟩ := H
          obtain ⟨ASz8_1, cSz8_1, HGz8, hgz8, HSz8_1⟩ := HI0.out
          have hcz8_0 := cellS32_0 HGz8
          have hcz8_1 := cellS32_1 HGz8
          have hfz8_0 := blk_frozen HGz8 0
          clear HGz8 hgz8
          have p111 : 0 ≤ (a1 : Int) := of_decide_eq_true (by first | (with_reducible assumption) | assumption)
          have q111 : a1 < (s0_1.length : Int) := of_decide_eq_true (by first | (with_reducible assumption) | assumption)
          obtain ⟨ad111, e111, hx111_0, hx111_1⟩ := at_T63 HSz8_1 a1 p111 q111
          cases e111
          replace hx111_0 := pw_cell_below HB.out hx111_0
          replace hx111_1 := pw_cell_below HB.out hx111_1
          replace p111 := eq_true p111
          replace q111 := eq_true q111
          go_enter Try.func21, Try.ntmps21
          go_wp2
          go_ret2
          exact ⟨by first | rfl | (simp [errW_none, errW_some] <;> rfl) | (simp [*, errW_none, errW_some] <;> rfl), by repeat (first | (with_reducible first | exact HI0.out | apply IsS32.alloc | apply IsS32.drewN | apply IsS32.drew | apply IsS32.set_0) | exact HI0.out), by repeat (first | (with_reducible first | exact HB.out | apply below_alloc | apply pw_below_drewN | apply below_drew1 | refine below_set ?_ (IsS32.ge HI0.out)) | exact HB.out), by repeat (first | (with_reducible first | exact HK.out | apply KeepBut.set_ | apply keep_drewN | apply keep_drew | apply keep_alloc) | exact HK.out)⟩
        · rw [if_neg c7] at H
          exact absurd H (by simp)
      · rw [if_neg c6] at H
        exact absurd H (by simp)

/-! ### spinneretref18_Store_Bits: function 22 -/
def spinneretref18_Store_Bits.f (s0_0 : Int) (s0_1 : List (S63)) (a1 : Int) : Option (Int × Int) := if a1 < 0 then (some (0, s0_0)) else (if a1 ≥ (s0_1.length : Int) then (some (0, s0_0)) else (if 0 ≤ a1 then (if a1 < (s0_1.length : Int) then (some ((rd_T63 s0_1 a1).f1, s0_0)) else (none)) else (none)))
set_option maxHeartbeats 8000000 in
set_option maxRecDepth 100000 in
theorem spinneretref18_Store_Bits.calls (g : Nat) (s0_0 : Int) (s0_1 : List (S63)) (a1 : Int) (r1 : Int) (r2 : Int) (w0 w : World) (hI : IsS32 w0 w g s0_0 s0_1) (hB : Below w0.heap.size w0 w) (h : spinneretref18_Store_Bits.f s0_0 s0_1 a1 = some (r1, r2)) :
    Calls Try.prog 22 #[.pointer (some ⟨g, 0, none⟩), .int .i64 a1] w fun e w' => e = .returned (.int .u64 r1) ∧ IsS32 w0 w' g r2 s0_1 ∧ Below w0.heap.size w0 w' ∧ KeepBut w w' g none := by
  have HI0 := Aside0.mk hI
  have HK := Aside0.mk (KeepBut.refl w g none)
  have HL := Aside0.mk hB.size
  clear hI
  have HW0 := Aside0.mk hB.size
  have HB := Aside0.mk hB
  clear hB
  have H : (if a1 < 0 then (some (0, s0_0)) else (if a1 ≥ (s0_1.length : Int) then (some (0, s0_0)) else (if 0 ≤ a1 then (if a1 < (s0_1.length : Int) then (some ((rd_T63 s0_1 a1).f1, s0_0)) else (none)) else (none)))) = some (r1, r2) := h
  clear h
  by_cases c3 : a1 < 0
  · rw [if_pos c3] at H
    have c3b0 : decide (a1 < 0) = true := decide_eq_true c3
    clear c3
    simp only [Option.some.injEq, Prod.mk.injEq] at H
    obtain ⟨rfl, rfl⟩ := H
    go_enter Try.func22, Try.ntmps22
    go_wp2
    go_ret
    exact ⟨by first | rfl | (simp [errW_none, errW_some] <;> rfl) | (simp [*, errW_none, errW_some] <;> rfl), by repeat (first | (with_reducible first | exact HI0.out | apply IsS32.alloc | apply IsS32.drewN | apply IsS32.drew | apply IsS32.set_0) | exact HI0.out), by repeat (first | (with_reducible first | exact HB.out | apply below_alloc | apply pw_below_drewN | apply below_drew1 | refine below_set ?_ (IsS32.ge HI0.out)) | exact HB.out), by repeat (first | (with_reducible first | exact HK.out | apply KeepBut.set_ | apply keep_drewN | apply keep_drew | apply keep_alloc) | exact HK.out)⟩
  · rw [if_neg c3] at H
    have c3b0 : decide (a1 < 0) = false := decide_eq_false c3
    clear c3
    by_cases c4 : a1 ≥ (s0_1.length : Int)
    · rw [if_pos c4] at H
      have c4b0 : decide ((s0_1.length : Int) ≤ a1) = true := decide_eq_true c4
      clear c4
      simp only [Option.some.injEq, Prod.mk.injEq] at H
      obtain ⟨rfl, rfl⟩ := H
      obtain ⟨ASz5_1, cSz5_1, HGz5, hgz5, HSz5_1⟩ := HI0.out
      have hcz5_0 := cellS32_0 HGz5
      have hcz5_1 := cellS32_1 HGz5
      have hfz5_0 := blk_frozen HGz5 0
      clear HGz5 hgz5
      go_enter Try.func22, Try.ntmps22
      go_wp2
      go_ret
      exact ⟨by first | rfl | (simp [errW_none, errW_some] <;> rfl) | (simp [*, errW_none, errW_some] <;> rfl), by repeat (first | (with_reducible first | exact HI0.out | apply IsS32.alloc | apply IsS32.drewN | apply IsS32.drew | apply IsS32.set_0) | exact HI0.out), by repeat (first | (with_reducible first | exact HB.out | apply below_alloc | apply pw_below_drewN | apply below_drew1 | refine below_set ?_ (IsS32.ge HI0.out)) | exact HB.out), by repeat (first | (with_reducible first | exact HK.out | apply KeepBut.set_ | apply keep_drewN | apply keep_drew | apply keep_alloc) | exact HK.out)⟩
    · rw [if_neg c4] at H
      have c4b0 : decide ((s0_1.length : Int) ≤ a1) = false := decide_eq_false c4
      clear c4
      by_cases c6 : 0 ≤ a1
      · rw [if_pos c6] at H
        have c6b0 : decide (0 ≤ a1) = true := decide_eq_true c6
        clear c6
        by_cases c7 : a1 < (s0_1.length : Int)
        · rw [if_pos c7] at H
          have c7b0 : decide (a1 < (s0_1.length : Int)) = true := decide_eq_true c7
          clear c7
          simp only [Option.some.injEq, Prod.mk.injEq] at H
          obtain ⟨rfl, rfl⟩ := H
          obtain ⟨ASz8_1, cSz8_1, HGz8, hgz8, HSz8_1⟩ := HI0.out
          have hcz8_0 := cellS32_0 HGz8
          have hcz8_1 := cellS32_1 HGz8
          have hfz8_0 := blk_frozen HGz8 0
          clear HGz8 hgz8
          have p112 : 0 ≤ (a1 : Int) := of_decide_eq_true (by first | (with_reducible assumption) | assumption)
          have q112 : a1 < (s0_1.length : Int) := of_decide_eq_true (by first | (with_reducible assumption) | assumption)
          obtain ⟨ad112, e112, hx112_0, hx112_1⟩ := at_T63 HSz8_1 a1 p112 q112
          cases e112
          replace hx112_0 := pw_cell_below HB.out hx112_0
          replace hx112_1 := pw_cell_below HB.out hx112_1
          replace p112 := eq_true p112
          replace q112 := eq_true q112
          go_enter Try.func22, Try.ntmps22
          go_wp2
          go_ret
          exact ⟨by first | rfl | (simp [errW_none, errW_some] <;> rfl) | (simp [*, errW_none, errW_some] <;> rfl), by repeat (first | (with_reducible first | exact HI0.out | apply IsS32.alloc | apply IsS32.drewN | apply IsS32.drew | apply IsS32.set_0) | exact HI0.out), by repeat (first | (with_reducible first | exact HB.out | apply below_alloc | apply pw_below_drewN | apply below_drew1 | refine below_set ?_ (IsS32.ge HI0.out)) | exact HB.out), by repeat (first | (with_reducible first | exact HK.out | apply KeepBut.set_ | apply keep_drewN | apply keep_drew | apply keep_alloc) | exact HK.out)⟩
        · rw [if_neg c7] at H
          exact absurd H (by simp)
      · rw [if_neg c6] at H
        exact absurd H (by simp)

-- NOT PRINTED: function 9 (spinneretlaw18_does)

-- NOT PRINTED: function 10 (store_Store_Len)

-- NOT PRINTED: function 3 (spinneretlaw18_StorePlays)

end Go.Proofs.Ytihlndgnkhlphaa.PStorePlays
