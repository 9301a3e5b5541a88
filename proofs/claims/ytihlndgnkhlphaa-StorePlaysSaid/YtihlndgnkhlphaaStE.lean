/- One act on a store, answered as the document's store answers it: the walk of does, kind by kind. Condition: texts are at most 2^63 - 1 bytes. -/
import Derived.Test.YtihlndgnkhlphaaStD
namespace Go.Proofs.Ytihlndgnkhlphaa.St
open Go.RowKit Go.Proofs.YtihlndgnkhlphaaW.PrintWords Go.Proofs.YtihlndgnkhlphaaW.PrintLast Go.Proofs.YtihlndgnkhlphaaW.PrintMore Go.Proofs.Ytihlndgnkhlphaa.PStorePlays

theorem zip_get {L : List ByteArray} {B : List Int} {j : Nat} {r : ByteArray × Int} (h : (L.zip B)[j]? = some r) : L[j]? = some r.1 ∧ B[j]? = some r.2 := by
  rw [List.getElem?_zip_eq_some] at h
  exact h
theorem zip_at {L : List ByteArray} {B : List Int} {j : Nat} {k : ByteArray} (hl : B.length = L.length) (h : L[j]? = some k) : ∃ x, B[j]? = some x ∧ (L.zip B)[j]? = some (k, x) := by
  have hj := (List.getElem?_eq_some_iff.1 h).1
  refine ⟨B[j]'(by omega), List.getElem?_eq_getElem (by omega), ?_⟩
  rw [List.getElem?_zip_eq_some]
  exact ⟨h, List.getElem?_eq_getElem (by omega)⟩
theorem zip_len {L : List ByteArray} {B : List Int} (hl : B.length = L.length) : (L.zip B).length = L.length := by simp [hl]
theorem zip_snoc {L : List ByteArray} {B : List Int} (hl : B.length = L.length) (k : ByteArray) : (L ++ [k]).zip (B ++ [0]) = L.zip B ++ [(k, 0)] := by
  rw [List.zip_append hl.symm]
  rfl
theorem zip_set : ∀ {L : List ByteArray} {B : List Int} {n : Nat} {r : ByteArray × Int} (y : Int), (L.zip B)[n]? = some r → (L.zip B).set n (r.1, y) = L.zip (B.set n y)
  | [], _, n, r, y, h => by simp at h
  | _ :: _, [], n, r, y, h => by simp at h
  | a :: L, x :: B, 0, r, y, h => by
    simp at h
    subst h
    simp
  | a :: L, x :: B, n + 1, r, y, h => by
    have := zip_set (L := L) (B := B) (n := n) (r := r) y (by simpa using h)
    simpa using this

/-- Both stores, the act in its own block, and what has stayed. -/
structure Both (b : Nat) (w0 w : World) (g h : Nat) (most : Int) (L : List ByteArray) (B : List Int) (x : Nat) (kind n : Int) (key : ByteArray) (y : Int) : Prop where
  own : Own w b g most L B
  rin : RIn w b h most (L.zip B)
  blk : w.heap[x]? = some (.cells #[.int .i64 kind, .int .i64 n, .string key, .int .u64 y] 36 (0, 0))
  below : Below b w0 w
theorem Both.start {w : World} {b g h : Nat} {most : Int} {L : List ByteArray} {B : List Int} (kind n : Int) (key : ByteArray) (y : Int) (ho : Own w b g most L B) (hr : RIn w b h most (L.zip B)) :
    Both b w (w.alloc (.cells #[.int .i64 kind, .int .i64 n, .string key, .int .u64 y] 36)) g h most L B w.heap.size kind n key y := by
  have hB : Below w.heap.size w (w.alloc (.cells #[.int .i64 kind, .int .i64 n, .string key, .int .u64 y] 36)) := below_alloc (Below.refl _ _) _
  exact ⟨ho.below hB, hr.fr (Fr.of_below hB ho.1), heap_alloc_new _ _, hB.mono ho.1⟩
section
variable {w0 w w1 : World} {b g h x : Nat} {most : Int} {L L' : List ByteArray} {B B' : List Int} {kind n : Int} {key : ByteArray} {y : Int}
theorem Both.fr (H : Both b w0 w g h most L B x kind n key y) (ho : Own w1 b g most L' B') (hf : Fr b w w1) (e : L'.zip B' = L.zip B) : Both b w0 w1 g h most L' B' x kind n key y :=
  ⟨ho, by rw [e]; exact H.rin.fr hf, hf.keep x _ H.blk (fun cs t fz e => by cases e; simp [ours]), H.below.trans hf.below⟩
theorem Both.frR (H : Both b w0 w g h most L B x kind n key y) (hr : RIn w1 b h most (L.zip B)) (hf : FrR b w w1) : Both b w0 w1 g h most L B x kind n key y :=
  ⟨H.own.frR hf, hr, hf.keep x _ H.blk (fun cs t fz e => by cases e; simp [theirs]), H.below.trans hf.below⟩
theorem Both.drawn (H : Both b w0 w g h most L B x kind n key y) (hd : Drawn0 w w1) : Both b w0 w1 g h most L B x kind n key y := by
  obtain ⟨m, rfl⟩ := hd.out
  exact H.frR (H.rin.drewN m) ((FrR.refl _ _).drewN m)
/-- The program's store has turned, the document's not yet. -/
structure Half (b : Nat) (w0 w : World) (g h : Nat) (most : Int) (L : List ByteArray) (B : List Int) (rows : List (ByteArray × Int)) (x : Nat) (kind n : Int) (key : ByteArray) (y : Int) : Prop where
  own : Own w b g most L B
  rin : RIn w b h most rows
  blk : w.heap[x]? = some (.cells #[.int .i64 kind, .int .i64 n, .string key, .int .u64 y] 36 (0, 0))
  below : Below b w0 w
theorem Both.half (H : Both b w0 w g h most L B x kind n key y) (ho : Own w1 b g most L' B') (hf : Fr b w w1) : Half b w0 w1 g h most L' B' (L.zip B) x kind n key y :=
  ⟨ho, H.rin.fr hf, hf.keep x _ H.blk (fun cs t fz e => by cases e; simp [ours]), H.below.trans hf.below⟩
theorem Half.both {rows : List (ByteArray × Int)} (H : Half b w0 w g h most L B rows x kind n key y) (hr : RIn w1 b h most (L.zip B)) (hf : FrR b w w1) : Both b w0 w1 g h most L B x kind n key y :=
  ⟨H.own.frR hf, hr, hf.keep x _ H.blk (fun cs t fz e => by cases e; simp [theirs]), H.below.trans hf.below⟩
theorem Half.drawn {rows : List (ByteArray × Int)} (H : Half b w0 w g h most L B rows x kind n key y) (hd : Drawn0 w w1) : Half b w0 w1 g h most L B rows x kind n key y := by
  obtain ⟨m, rfl⟩ := hd.out
  exact ⟨H.own.frR ((FrR.refl _ _).drewN m), H.rin.drewN m, H.blk, pw_below_drewN H.below m⟩
end
theorem no_key {L : List ByteArray} {B : List Int} {key : ByteArray} (h : ∀ n : Nat, L[n]? ≠ some key) : ∀ (j : Nat) (r : ByteArray × Int), (L.zip B)[j]? = some r → r.1 ≠ key := by
  intro j r hr e
  obtain ⟨h1, _⟩ := zip_get hr
  exact h j (by rw [h1, e])

/-- What does leaves. -/
def Did (b : Nat) (w0 : World) (g h : Nat) (most : Int) (e : Ending) (w' : World) : Prop :=
  e = .returned (.bool true) ∧ ∃ L B, Own w' b g most L B ∧ RIn w' b h most (L.zip B) ∧ Below b w0 w'
theorem did {b : Nat} {w0 w' : World} {g h x : Nat} {most kind n : Int} {L : List ByteArray} {B : List Int} {key : ByteArray} {y : Int} (H : Both b w0 w' g h most L B x kind n key y) : Did b w0 g h most (.returned (.bool true)) w' := ⟨rfl, L, B, H.own, H.rin, H.below⟩

set_option maxHeartbeats 800000 in
set_option maxRecDepth 100000 in
theorem does_put_there (w : World) (b g h : Nat) (most : Int) (L : List ByteArray) (B : List Int) (n : Int) (key : ByteArray) (y : Int) (ho : Own w b g most L B) (hr : RIn w b h most (L.zip B)) (hk : key.size ≤ 9223372036854775807) (m : Nat) (hn : L[m]? = some key) :
    Calls Try.prog 9 #[.pointer (some ⟨g, 0, none⟩), .pointer (some ⟨h, 0, none⟩), .agg #[.int .i64 1, .int .i64 n, .string key, .int .u64 y]] w (Did b w g h most) := by
  have hlen := ho.len
  have HOW := Aside0.mk ho
  have hml := ho.most_le
  have H0 := Both.start 1 n key y ho hr
  have HL := Aside0.mk hlen
  have hzl := zip_len hlen
  have hrl : (L.zip B).length ≤ 1000000 := by rw [hzl]; omega
  have k0 := (blk_cell H0.blk 0).trans rfl; have k1 := (blk_cell H0.blk 1).trans rfl; have k2 := (blk_cell H0.blk 2).trans rfl; have k3 := (blk_cell H0.blk 3).trans rfl
  clear ho hr hlen hzl
  have HN := Aside0.mk hn
  have hnl := (List.getElem?_eq_some_iff.1 hn).1
  have HNL := Aside0.mk (show m < (L.zip B).length by rw [zip_len HL.out]; exact hnl)
  have ho1 : ∀ (j : Nat) (r : ByteArray × Int), j < m → (L.zip B)[j]? = some r → r.1 ≠ key := by
    intro j r hj hr e
    have h1 := (zip_get hr).1
    rw [e] at h1
    have := HOW.out.apart h1 hn
    omega
  have hy : ∀ r : ByteArray × Int, (L.zip B)[m]? = some r → r.1 = key := by
    intro r hr
    have h1 := (zip_get hr).1
    rw [hn] at h1
    exact (Option.some.inj h1).symm
  have HO1 := Aside0.mk ho1
  have HY := Aside0.mk hy
  clear ho1 hy
  clear hn hnl
  go_enter Try.func9, Try.ntmps9
  go_wp2_with (first
    | (go_at_call 11; have t_ := H0; refine (put_there_spec H0.own key m hk HN.out).mono ?_; rintro e w1 ⟨rfl, ho1, hf1⟩; have H1 := H0.half ho1 hf1; clear k0 k1 k2 k3; clear ho1 hf1 H0 t_; have k0 := (blk_cell H1.blk 0).trans rfl; have k1 := (blk_cell H1.blk 1).trans rfl; have k2 := (blk_cell H1.blk 2).trans rfl; have k3 := (blk_cell H1.blk 3).trans rfl)
    | (go_at_call 17; refine (rput_there _ b h m most _ key H1.rin hrl HNL.out HO1.out HY.out).mono ?_; rintro e w2 ⟨rfl, rfl⟩; have H2 := H1.both H1.rin (FrR.refl _ _)))
  go_ret
  first | exact did H2 | exact (did H2)

set_option maxHeartbeats 800000 in
set_option maxRecDepth 100000 in
theorem does_put_full (w : World) (b g h : Nat) (most : Int) (L : List ByteArray) (B : List Int) (n : Int) (key : ByteArray) (y : Int) (ho : Own w b g most L B) (hr : RIn w b h most (L.zip B)) (hk : key.size ≤ 9223372036854775807) (hn : ∀ j : Nat, L[j]? ≠ some key) (hm : ¬ L.length < most.toNat) :
    Calls Try.prog 9 #[.pointer (some ⟨g, 0, none⟩), .pointer (some ⟨h, 0, none⟩), .agg #[.int .i64 1, .int .i64 n, .string key, .int .u64 y]] w (Did b w g h most) := by
  have hlen := ho.len
  have HOW := Aside0.mk ho
  have hml := ho.most_le
  have H0 := Both.start 1 n key y ho hr
  have HL := Aside0.mk hlen
  have hzl := zip_len hlen
  have hrl : (L.zip B).length ≤ 1000000 := by rw [hzl]; omega
  have k0 := (blk_cell H0.blk 0).trans rfl; have k1 := (blk_cell H0.blk 1).trans rfl; have k2 := (blk_cell H0.blk 2).trans rfl; have k3 := (blk_cell H0.blk 3).trans rfl
  clear ho hr hlen hzl
  have HX := Aside0.mk hn
  have HM := Aside0.mk hm
  have HM2 := Aside0.mk (show most ≤ ((L.zip B).length : Int) by rw [zip_len HL.out]; omega)
  clear hn hm
  go_enter Try.func9, Try.ntmps9
  go_wp2_with (first
    | (go_at_call 11; have t_ := H0; refine (put_full_spec H0.own key hk HX.out HM.out).mono ?_; rintro e w1 ⟨rfl, ho1, hf1⟩; have H1 := H0.half ho1 hf1; clear k0 k1 k2 k3; clear ho1 hf1 H0 t_; have k0 := (blk_cell H1.blk 0).trans rfl; have k1 := (blk_cell H1.blk 1).trans rfl; have k2 := (blk_cell H1.blk 2).trans rfl; have k3 := (blk_cell H1.blk 3).trans rfl)
    | (go_at_call 17; refine (rput_full _ b h most _ key H1.rin hrl HM2.out (no_key HX.out)).mono ?_; rintro e w2 ⟨rfl, hd⟩; have H2 := (H1.drawn hd).both ((H1.drawn hd).rin) (FrR.refl _ _)))
  go_ret
  first | exact did H2 | exact (did H2)

set_option maxHeartbeats 800000 in
set_option maxRecDepth 100000 in
theorem does_put_new (w : World) (b g h : Nat) (most : Int) (L : List ByteArray) (B : List Int) (n : Int) (key : ByteArray) (y : Int) (ho : Own w b g most L B) (hr : RIn w b h most (L.zip B)) (hk : key.size ≤ 9223372036854775807) (hn : ∀ j : Nat, L[j]? ≠ some key) (hm : L.length < most.toNat) :
    Calls Try.prog 9 #[.pointer (some ⟨g, 0, none⟩), .pointer (some ⟨h, 0, none⟩), .agg #[.int .i64 1, .int .i64 n, .string key, .int .u64 y]] w (Did b w g h most) := by
  have hlen := ho.len
  have HOW := Aside0.mk ho
  have hml := ho.most_le
  have H0 := Both.start 1 n key y ho hr
  have HL := Aside0.mk hlen
  have hzl := zip_len hlen
  have hrl : (L.zip B).length ≤ 1000000 := by rw [hzl]; omega
  have k0 := (blk_cell H0.blk 0).trans rfl; have k1 := (blk_cell H0.blk 1).trans rfl; have k2 := (blk_cell H0.blk 2).trans rfl; have k3 := (blk_cell H0.blk 3).trans rfl
  clear ho hr hlen hzl
  have HX := Aside0.mk hn
  have HM := Aside0.mk hm
  have HM2 := Aside0.mk (show ((L.zip B).length : Int) < most by rw [zip_len HL.out]; omega)
  have HZL := Aside0.mk (zip_len HL.out)
  clear hn hm
  go_enter Try.func9, Try.ntmps9
  go_wp2_with (first
    | (go_at_call 11; have t_ := H0; refine (put_new_spec H0.own key hk HX.out HM.out).mono ?_; rintro e w1 ⟨rfl, ho1, hf1⟩; have H1 := H0.half ho1 hf1; clear k0 k1 k2 k3; clear ho1 hf1 H0 t_; have k0 := (blk_cell H1.blk 0).trans rfl; have k1 := (blk_cell H1.blk 1).trans rfl; have k2 := (blk_cell H1.blk 2).trans rfl; have k3 := (blk_cell H1.blk 3).trans rfl)
    | (go_at_call 17; have hp_ := rput_new _ b h most _ key H1.rin hrl HM2.out (no_key HX.out); rw [HZL.out, ← zip_snoc HL.out key] at hp_; refine hp_.mono ?_; rintro e w2 ⟨rfl, hr2, hf2⟩; have H2 := H1.both hr2 hf2; clear hp_ hr2 hf2))
  go_ret
  first | exact did H2 | exact (did H2)

set_option maxHeartbeats 800000 in
set_option maxRecDepth 100000 in
theorem does_find_there (w : World) (b g h : Nat) (most : Int) (L : List ByteArray) (B : List Int) (n : Int) (key : ByteArray) (y : Int) (ho : Own w b g most L B) (hr : RIn w b h most (L.zip B)) (hk : key.size ≤ 9223372036854775807) (m : Nat) (hn : L[m]? = some key) :
    Calls Try.prog 9 #[.pointer (some ⟨g, 0, none⟩), .pointer (some ⟨h, 0, none⟩), .agg #[.int .i64 2, .int .i64 n, .string key, .int .u64 y]] w (Did b w g h most) := by
  have hlen := ho.len
  have HOW := Aside0.mk ho
  have hml := ho.most_le
  have H0 := Both.start 2 n key y ho hr
  have HL := Aside0.mk hlen
  have hzl := zip_len hlen
  have hrl : (L.zip B).length ≤ 1000000 := by rw [hzl]; omega
  have k0 := (blk_cell H0.blk 0).trans rfl; have k1 := (blk_cell H0.blk 1).trans rfl; have k2 := (blk_cell H0.blk 2).trans rfl; have k3 := (blk_cell H0.blk 3).trans rfl
  clear ho hr hlen hzl
  have HN := Aside0.mk hn
  have hnl := (List.getElem?_eq_some_iff.1 hn).1
  have HNL := Aside0.mk (show m < (L.zip B).length by rw [zip_len HL.out]; exact hnl)
  have ho1 : ∀ (j : Nat) (r : ByteArray × Int), j < m → (L.zip B)[j]? = some r → r.1 ≠ key := by
    intro j r hj hr e
    have h1 := (zip_get hr).1
    rw [e] at h1
    have := HOW.out.apart h1 hn
    omega
  have hy : ∀ r : ByteArray × Int, (L.zip B)[m]? = some r → r.1 = key := by
    intro r hr
    have h1 := (zip_get hr).1
    rw [hn] at h1
    exact (Option.some.inj h1).symm
  have HO1 := Aside0.mk ho1
  have HY := Aside0.mk hy
  clear ho1 hy
  clear hn hnl
  have HZ := Aside0.mk (show true = decide (m < (L.zip B).length) by simp only [decide_eq_true HNL.out])
  go_enter Try.func9, Try.ntmps9
  go_wp2_with (first
    | (go_at_call 13; have t_ := H0; refine (find_there_spec H0.own key m hk HN.out).mono ?_; rintro e w1 ⟨rfl, ho1, hf1⟩; have H1 := H0.half ho1 hf1; clear k0 k1 k2 k3; clear ho1 hf1 H0 t_; have k0 := (blk_cell H1.blk 0).trans rfl; have k1 := (blk_cell H1.blk 1).trans rfl; have k2 := (blk_cell H1.blk 2).trans rfl; have k3 := (blk_cell H1.blk 3).trans rfl)
    | (go_at_call 18; refine (rfind_walk _ b h most _ key H1.rin hrl m true HZ.out (Nat.le_of_lt HNL.out) HO1.out HY.out).mono ?_; rintro e w2 ⟨rfl, rfl⟩; have H2 := H1.both H1.rin (FrR.refl _ _)))
  go_ret
  first | exact did H2 | exact (did H2)

set_option maxHeartbeats 800000 in
set_option maxRecDepth 100000 in
theorem does_find_none (w : World) (b g h : Nat) (most : Int) (L : List ByteArray) (B : List Int) (n : Int) (key : ByteArray) (y : Int) (ho : Own w b g most L B) (hr : RIn w b h most (L.zip B)) (hk : key.size ≤ 9223372036854775807) (hn : ∀ j : Nat, L[j]? ≠ some key) :
    Calls Try.prog 9 #[.pointer (some ⟨g, 0, none⟩), .pointer (some ⟨h, 0, none⟩), .agg #[.int .i64 2, .int .i64 n, .string key, .int .u64 y]] w (Did b w g h most) := by
  have hlen := ho.len
  have HOW := Aside0.mk ho
  have hml := ho.most_le
  have H0 := Both.start 2 n key y ho hr
  have HL := Aside0.mk hlen
  have hzl := zip_len hlen
  have hrl : (L.zip B).length ≤ 1000000 := by rw [hzl]; omega
  have k0 := (blk_cell H0.blk 0).trans rfl; have k1 := (blk_cell H0.blk 1).trans rfl; have k2 := (blk_cell H0.blk 2).trans rfl; have k3 := (blk_cell H0.blk 3).trans rfl
  clear ho hr hlen hzl
  have HX := Aside0.mk hn
  have HZ := Aside0.mk (show false = decide ((L.zip B).length < (L.zip B).length) by simp)
  have HY := Aside0.mk (fun (r : ByteArray × Int) (hr : (L.zip B)[(L.zip B).length]? = some r) => (by simp at hr : r.1 = key))
  clear hn
  go_enter Try.func9, Try.ntmps9
  go_wp2_with (first
    | (go_at_call 13; have t_ := H0; refine (find_none_spec H0.own key hk HX.out).mono ?_; rintro e w1 ⟨rfl, ho1, hf1⟩; have H1 := H0.half ho1 hf1; clear k0 k1 k2 k3; clear ho1 hf1 H0 t_; have k0 := (blk_cell H1.blk 0).trans rfl; have k1 := (blk_cell H1.blk 1).trans rfl; have k2 := (blk_cell H1.blk 2).trans rfl; have k3 := (blk_cell H1.blk 3).trans rfl)
    | (go_at_call 18; refine (rfind_walk _ b h most _ key H1.rin hrl _ false HZ.out (Nat.le_refl _) (fun j r _ hr => no_key HX.out j r hr) HY.out).mono ?_; rintro e w2 ⟨rfl, rfl⟩; have H2 := H1.both H1.rin (FrR.refl _ _)))
  go_ret
  first | exact did H2 | exact (did H2)

set_option maxHeartbeats 800000 in
set_option maxRecDepth 100000 in
theorem does_mark_in (w : World) (b g h : Nat) (most : Int) (L : List ByteArray) (B : List Int) (n : Nat) (key : ByteArray) (y : Int) (ho : Own w b g most L B) (hr : RIn w b h most (L.zip B)) (_hk : key.size ≤ 9223372036854775807) (hn : n < L.length) :
    Calls Try.prog 9 #[.pointer (some ⟨g, 0, none⟩), .pointer (some ⟨h, 0, none⟩), .agg #[.int .i64 3, .int .i64 (n : Int), .string key, .int .u64 y]] w (Did b w g h most) := by
  have hlen := ho.len
  have HOW := Aside0.mk ho
  have hml := ho.most_le
  have H0 := Both.start 3 (n : Int) key y ho hr
  have HL := Aside0.mk hlen
  have hzl := zip_len hlen
  have hrl : (L.zip B).length ≤ 1000000 := by rw [hzl]; omega
  have k0 := (blk_cell H0.blk 0).trans rfl; have k1 := (blk_cell H0.blk 1).trans rfl; have k2 := (blk_cell H0.blk 2).trans rfl; have k3 := (blk_cell H0.blk 3).trans rfl
  clear ho hr hlen hzl
  obtain ⟨v, hv, hzv⟩ := zip_at HL.out (List.getElem?_eq_getElem hn)
  have HV := Aside0.mk hv
  have HZV := Aside0.mk hzv
  clear hv hzv
  go_enter Try.func9, Try.ntmps9
  go_wp2_with (first
    | (go_at_call 14; have t_ := H0; refine (mark_in_spec H0.own y HV.out).mono ?_; rintro e w1 ⟨rfl, ho1, hf1⟩; have H1 := H0.half ho1 hf1; clear k0 k1 k2 k3; clear ho1 hf1 H0 t_; have k0 := (blk_cell H1.blk 0).trans rfl; have k1 := (blk_cell H1.blk 1).trans rfl; have k2 := (blk_cell H1.blk 2).trans rfl; have k3 := (blk_cell H1.blk 3).trans rfl)
    | (go_at_call 19; have hp_ := rmark_in H1.rin y HZV.out hrl; rw [zip_set _ HZV.out] at hp_; refine hp_.mono ?_; rintro e w2 ⟨rfl, hr2, hf2⟩; have H2 := H1.both hr2 hf2; clear hp_ hr2 hf2))
  go_ret
  first | exact did H2 | exact (did H2)

set_option maxHeartbeats 800000 in
set_option maxRecDepth 100000 in
theorem does_mark_out (w : World) (b g h : Nat) (most : Int) (L : List ByteArray) (B : List Int) (n : Int) (key : ByteArray) (y : Int) (ho : Own w b g most L B) (hr : RIn w b h most (L.zip B)) (_hk : key.size ≤ 9223372036854775807) (hn : ¬ (0 ≤ n ∧ n < L.length)) :
    Calls Try.prog 9 #[.pointer (some ⟨g, 0, none⟩), .pointer (some ⟨h, 0, none⟩), .agg #[.int .i64 3, .int .i64 n, .string key, .int .u64 y]] w (Did b w g h most) := by
  have hlen := ho.len
  have HOW := Aside0.mk ho
  have hml := ho.most_le
  have H0 := Both.start 3 n key y ho hr
  have HL := Aside0.mk hlen
  have hzl := zip_len hlen
  have hrl : (L.zip B).length ≤ 1000000 := by rw [hzl]; omega
  have k0 := (blk_cell H0.blk 0).trans rfl; have k1 := (blk_cell H0.blk 1).trans rfl; have k2 := (blk_cell H0.blk 2).trans rfl; have k3 := (blk_cell H0.blk 3).trans rfl
  clear ho hr hlen hzl
  have HN := Aside0.mk hn
  have HN2 := Aside0.mk (show ¬ (0 ≤ n ∧ n < ((L.zip B).length : Int)) by rw [zip_len HL.out]; exact hn)
  clear hn
  go_enter Try.func9, Try.ntmps9
  go_wp2_with (first
    | (go_at_call 14; have t_ := H0; refine (mark_out_spec H0.own y HN.out).mono ?_; rintro e w1 ⟨rfl, ho1, hf1⟩; have H1 := H0.half ho1 hf1; clear k0 k1 k2 k3; clear ho1 hf1 H0 t_; have k0 := (blk_cell H1.blk 0).trans rfl; have k1 := (blk_cell H1.blk 1).trans rfl; have k2 := (blk_cell H1.blk 2).trans rfl; have k3 := (blk_cell H1.blk 3).trans rfl)
    | (go_at_call 19; refine (rmark_out _ b h most n y _ H1.rin HN2.out).mono ?_; rintro e w2 ⟨rfl, rfl⟩; have H2 := H1.both H1.rin (FrR.refl _ _)))
  go_ret
  first | exact did H2 | exact (did H2)

set_option maxHeartbeats 800000 in
set_option maxRecDepth 100000 in
theorem does_clear_in (w : World) (b g h : Nat) (most : Int) (L : List ByteArray) (B : List Int) (n : Nat) (key : ByteArray) (y : Int) (ho : Own w b g most L B) (hr : RIn w b h most (L.zip B)) (_hk : key.size ≤ 9223372036854775807) (hn : n < L.length) :
    Calls Try.prog 9 #[.pointer (some ⟨g, 0, none⟩), .pointer (some ⟨h, 0, none⟩), .agg #[.int .i64 4, .int .i64 (n : Int), .string key, .int .u64 y]] w (Did b w g h most) := by
  have hlen := ho.len
  have HOW := Aside0.mk ho
  have hml := ho.most_le
  have H0 := Both.start 4 (n : Int) key y ho hr
  have HL := Aside0.mk hlen
  have hzl := zip_len hlen
  have hrl : (L.zip B).length ≤ 1000000 := by rw [hzl]; omega
  have k0 := (blk_cell H0.blk 0).trans rfl; have k1 := (blk_cell H0.blk 1).trans rfl; have k2 := (blk_cell H0.blk 2).trans rfl; have k3 := (blk_cell H0.blk 3).trans rfl
  clear ho hr hlen hzl
  obtain ⟨v, hv, hzv⟩ := zip_at HL.out (List.getElem?_eq_getElem hn)
  have HV := Aside0.mk hv
  have HZV := Aside0.mk hzv
  clear hv hzv
  go_enter Try.func9, Try.ntmps9
  go_wp2_with (first
    | (go_at_call 15; have t_ := H0; refine (clear_in_spec H0.own y HV.out).mono ?_; rintro e w1 ⟨rfl, ho1, hf1⟩; have H1 := H0.half ho1 hf1; clear k0 k1 k2 k3; clear ho1 hf1 H0 t_; have k0 := (blk_cell H1.blk 0).trans rfl; have k1 := (blk_cell H1.blk 1).trans rfl; have k2 := (blk_cell H1.blk 2).trans rfl; have k3 := (blk_cell H1.blk 3).trans rfl)
    | (go_at_call 20; have hp_ := rclear_in H1.rin y HZV.out hrl; rw [zip_set _ HZV.out] at hp_; refine hp_.mono ?_; rintro e w2 ⟨rfl, hr2, hf2⟩; have H2 := H1.both hr2 hf2; clear hp_ hr2 hf2))
  go_ret
  first | exact did H2 | exact (did H2)

set_option maxHeartbeats 800000 in
set_option maxRecDepth 100000 in
theorem does_clear_out (w : World) (b g h : Nat) (most : Int) (L : List ByteArray) (B : List Int) (n : Int) (key : ByteArray) (y : Int) (ho : Own w b g most L B) (hr : RIn w b h most (L.zip B)) (_hk : key.size ≤ 9223372036854775807) (hn : ¬ (0 ≤ n ∧ n < L.length)) :
    Calls Try.prog 9 #[.pointer (some ⟨g, 0, none⟩), .pointer (some ⟨h, 0, none⟩), .agg #[.int .i64 4, .int .i64 n, .string key, .int .u64 y]] w (Did b w g h most) := by
  have hlen := ho.len
  have HOW := Aside0.mk ho
  have hml := ho.most_le
  have H0 := Both.start 4 n key y ho hr
  have HL := Aside0.mk hlen
  have hzl := zip_len hlen
  have hrl : (L.zip B).length ≤ 1000000 := by rw [hzl]; omega
  have k0 := (blk_cell H0.blk 0).trans rfl; have k1 := (blk_cell H0.blk 1).trans rfl; have k2 := (blk_cell H0.blk 2).trans rfl; have k3 := (blk_cell H0.blk 3).trans rfl
  clear ho hr hlen hzl
  have HN := Aside0.mk hn
  have HN2 := Aside0.mk (show ¬ (0 ≤ n ∧ n < ((L.zip B).length : Int)) by rw [zip_len HL.out]; exact hn)
  clear hn
  go_enter Try.func9, Try.ntmps9
  go_wp2_with (first
    | (go_at_call 15; have t_ := H0; refine (clear_out_spec H0.own y HN.out).mono ?_; rintro e w1 ⟨rfl, ho1, hf1⟩; have H1 := H0.half ho1 hf1; clear k0 k1 k2 k3; clear ho1 hf1 H0 t_; have k0 := (blk_cell H1.blk 0).trans rfl; have k1 := (blk_cell H1.blk 1).trans rfl; have k2 := (blk_cell H1.blk 2).trans rfl; have k3 := (blk_cell H1.blk 3).trans rfl)
    | (go_at_call 20; refine (rclear_out _ b h most n y _ H1.rin HN2.out).mono ?_; rintro e w2 ⟨rfl, rfl⟩; have H2 := H1.both H1.rin (FrR.refl _ _)))
  go_ret
  first | exact did H2 | exact (did H2)

set_option maxHeartbeats 800000 in
set_option maxRecDepth 100000 in
theorem does_key_in (w : World) (b g h : Nat) (most : Int) (L : List ByteArray) (B : List Int) (n : Nat) (key : ByteArray) (y : Int) (ho : Own w b g most L B) (hr : RIn w b h most (L.zip B)) (_hk : key.size ≤ 9223372036854775807) (hn : n < L.length) :
    Calls Try.prog 9 #[.pointer (some ⟨g, 0, none⟩), .pointer (some ⟨h, 0, none⟩), .agg #[.int .i64 5, .int .i64 (n : Int), .string key, .int .u64 y]] w (Did b w g h most) := by
  have hlen := ho.len
  have HOW := Aside0.mk ho
  have hml := ho.most_le
  have H0 := Both.start 5 (n : Int) key y ho hr
  have HL := Aside0.mk hlen
  have hzl := zip_len hlen
  have hrl : (L.zip B).length ≤ 1000000 := by rw [hzl]; omega
  have k0 := (blk_cell H0.blk 0).trans rfl; have k1 := (blk_cell H0.blk 1).trans rfl; have k2 := (blk_cell H0.blk 2).trans rfl; have k3 := (blk_cell H0.blk 3).trans rfl
  clear ho hr hlen hzl
  obtain ⟨v, hv, hzv⟩ := zip_at HL.out (List.getElem?_eq_getElem hn)
  have HV := Aside0.mk hv
  have HZV := Aside0.mk hzv
  have HG := Aside0.mk (List.getElem?_eq_getElem hn)
  clear hv hzv
  go_enter Try.func9, Try.ntmps9
  go_wp2_with (first
    | (go_at_call 12; refine (key_in_spec H0.own HG.out).mono ?_; rintro e w1 ⟨rfl, rfl⟩)
    | (go_at_call 21; refine (rkey_in _ b h n most _ _ H0.rin HZV.out hrl).mono ?_; rintro e w1 ⟨rfl, rfl⟩)
    | (go_at_call 16; refine (bits_in_spec H0.own HV.out).mono ?_; rintro e w1 ⟨rfl, rfl⟩)
    | (go_at_call 22; refine (rbits_in _ b h n most _ _ H0.rin HZV.out hrl).mono ?_; rintro e w1 ⟨rfl, rfl⟩; have H2 := H0))
  go_ret
  first | exact did H2 | exact (did H2)

set_option maxHeartbeats 800000 in
set_option maxRecDepth 100000 in
theorem does_key_out (w : World) (b g h : Nat) (most : Int) (L : List ByteArray) (B : List Int) (n : Int) (key : ByteArray) (y : Int) (ho : Own w b g most L B) (hr : RIn w b h most (L.zip B)) (_hk : key.size ≤ 9223372036854775807) (hn : ¬ (0 ≤ n ∧ n < L.length)) :
    Calls Try.prog 9 #[.pointer (some ⟨g, 0, none⟩), .pointer (some ⟨h, 0, none⟩), .agg #[.int .i64 5, .int .i64 n, .string key, .int .u64 y]] w (Did b w g h most) := by
  have hlen := ho.len
  have HOW := Aside0.mk ho
  have hml := ho.most_le
  have H0 := Both.start 5 n key y ho hr
  have HL := Aside0.mk hlen
  have hzl := zip_len hlen
  have hrl : (L.zip B).length ≤ 1000000 := by rw [hzl]; omega
  have k0 := (blk_cell H0.blk 0).trans rfl; have k1 := (blk_cell H0.blk 1).trans rfl; have k2 := (blk_cell H0.blk 2).trans rfl; have k3 := (blk_cell H0.blk 3).trans rfl
  clear ho hr hlen hzl
  have HN := Aside0.mk hn
  have HN2 := Aside0.mk (show ¬ (0 ≤ n ∧ n < ((L.zip B).length : Int)) by rw [zip_len HL.out]; exact hn)
  clear hn
  go_enter Try.func9, Try.ntmps9
  go_wp2_with (first
    | (go_at_call 12; refine (key_out_spec H0.own HN.out).mono ?_; rintro e w1 ⟨rfl, rfl⟩)
    | (go_at_call 21; refine (rkey_out _ b h most n _ H0.rin HN2.out).mono ?_; rintro e w1 ⟨rfl, rfl⟩)
    | (go_at_call 16; refine (bits_out_spec H0.own HN.out).mono ?_; rintro e w1 ⟨rfl, rfl⟩)
    | (go_at_call 22; refine (rbits_out _ b h most n _ H0.rin HN2.out).mono ?_; rintro e w1 ⟨rfl, rfl⟩; have H2 := H0))
  go_ret
  first | exact did H2 | exact (did H2)

set_option maxHeartbeats 800000 in
set_option maxRecDepth 100000 in
theorem does_other (w : World) (b g h : Nat) (most : Int) (L : List ByteArray) (B : List Int) (n : Int) (key : ByteArray) (y : Int) (ho : Own w b g most L B) (hr : RIn w b h most (L.zip B)) (_hk : key.size ≤ 9223372036854775807) (kind : Int) (hkind : kind < 1 ∨ 5 < kind) :
    Calls Try.prog 9 #[.pointer (some ⟨g, 0, none⟩), .pointer (some ⟨h, 0, none⟩), .agg #[.int .i64 kind, .int .i64 n, .string key, .int .u64 y]] w (Did b w g h most) := by
  have hlen := ho.len
  have hml := ho.most_le
  have H0 := Both.start kind n key y ho hr
  have HL := Aside0.mk hlen
  have hzl := zip_len hlen
  have hrl : (L.zip B).length ≤ 1000000 := by rw [hzl]; omega
  have k0 := (blk_cell H0.blk 0).trans rfl; have k1 := (blk_cell H0.blk 1).trans rfl; have k2 := (blk_cell H0.blk 2).trans rfl; have k3 := (blk_cell H0.blk 3).trans rfl
  clear ho hr hlen hzl
  have c1 : (kind == 1) = false := by simp; omega
  have c2 : (kind == 2) = false := by simp; omega
  have c3 : (kind == 3) = false := by simp; omega
  have c4 : (kind == 4) = false := by simp; omega
  have c5 : (kind == 5) = false := by simp; omega
  have H2 := H0
  clear hkind
  go_enter Try.func9, Try.ntmps9
  go_wp2
  go_ret
  first | exact did H2 | exact (did H2)

end Go.Proofs.Ytihlndgnkhlphaa.St
