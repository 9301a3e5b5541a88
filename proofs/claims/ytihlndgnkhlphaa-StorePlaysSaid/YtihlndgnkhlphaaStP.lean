/- How a text is put into a store: the walk of Put. Condition: texts are at most 2^63 - 1 bytes. -/
import Derived.Test.YtihlndgnkhlphaaStG
namespace Go.Proofs.Ytihlndgnkhlphaa.St
open Go.RowKit Go.Proofs.YtihlndgnkhlphaaW.PrintWords Go.Proofs.YtihlndgnkhlphaaW.PrintLast Go.Proofs.YtihlndgnkhlphaaW.PrintMore Go.Proofs.Ytihlndgnkhlphaa.PStorePlays
open Go.Proofs.Ytihlndgnkhlphaa.Sm

theorem info9 : (Try.prog.info? 9).map (fun i => (i.zero, i.size, i.bytes)) = some (some (.string ⟨#[]⟩), 1, 16) := by kernel_rfl
theorem info34 : (Try.prog.info? 34).map (fun i => (i.zero, i.size, i.bytes)) = some (some (.int .u64 0), 1, 8) := by kernel_rfl

section
variable {W w1 : World} {b g : Nat} {S : Data} {kv bv sv : Value}
theorem Parts.away (P : Parts W b g S kv bv sv) {v : Value} {e n : Nat} {xs : List Value} (h : W.ownsRow b e 1 v n xs) (he : e ≠ 53) : some g ≠ v.ownBlock := by
  intro hv
  obtain ⟨_, cs, hq⟩ := row_block h hv.symm
  rw [P.blk] at hq
  cases hq
  exact he rfl
theorem rows_apart {e e' n n' : Nat} {v v' : Value} {xs xs' : List Value} (h : W.ownsRow b e 1 v n xs) (h' : W.ownsRow b e' 1 v' n' xs') (hne : e ≠ e') : v.ownBlock = none ∨ v.ownBlock ≠ v'.ownBlock := own_type_ne h h' hne

/-- Behind an append to the texts, before it is stored. -/
theorem Parts.grown_keys (P : Parts W b g S kv bv sv) (hg : W.grownBy w1 kv.ownBlock) : w1.heap[g]? = some (.cells #[.int .i64 S.most, kv, bv, sv] 53 (0, 0)) :=
  (hg.block g (blk_lt P.blk) (P.away P.keys (by decide))).trans P.blk
theorem Parts.grown_bits (P : Parts W b g S kv bv sv) (hg : W.grownBy w1 bv.ownBlock) : w1.heap[g]? = some (.cells #[.int .i64 S.most, kv, bv, sv] 53 (0, 0)) :=
  (hg.block g (blk_lt P.blk) (P.away P.bits (by decide))).trans P.blk

theorem Parts.put_key (P : Parts W b g S kv bv sv) (hb : b ≤ W.heap.size) (key : ByteArray) {kv1 : Value} (hown : w1.ownsRow b 9 1 kv1 (S.keys.length + 1) (pw_strs S.keys ++ [Value.string key])) (hg : W.grownBy w1 kv.ownBlock) :
    Parts (w1.setCell ⟨g, 1, none⟩ kv1) b g { S with keys := S.keys ++ [key] } kv1 bv sv ∧ Fr b W (w1.setCell ⟨g, 1, none⟩ kv1) := by
  have hblk := P.grown_keys hg
  have hs : W.heap.size ≤ w1.heap.size := hg.size
  refine ⟨⟨blk_set hblk 1 kv1, P.base, ?_, ?_, ?_⟩, ?_⟩
  · have := row_set hown (p := ⟨g, 1, none⟩) hblk (by decide) kv1
    have e : pw_strs (S.keys ++ [key]) = pw_strs S.keys ++ [Value.string key] := by simp [pw_strs]
    have e2 : (S.keys ++ [key]).length = S.keys.length + 1 := by simp
    show World.ownsRow _ b 9 1 kv1 (S.keys ++ [key]).length (pw_strs (S.keys ++ [key]))
    rw [e, e2]
    exact this
  · exact row_set (own_other P.bits hg (rows_apart P.bits P.keys (by decide))) (p := ⟨g, 1, none⟩) hblk (by decide) kv1
  · exact row_set (own_other P.slots hg (rows_apart P.slots P.keys (by decide))) (p := ⟨g, 1, none⟩) hblk (by decide) kv1
  · refine ((Fr.refl b W).grown hg hb ?_).set (p := ⟨g, 1, none⟩) hblk (Or.inl rfl) P.base _
    intro q hq
    obtain ⟨h1, cs, h2⟩ := row_block P.keys hq
    exact ⟨h1, cs, 9, _, h2, Or.inr (Or.inl rfl)⟩

theorem Parts.put_bits (P : Parts W b g S kv bv sv) (hb : b ≤ W.heap.size) {bv1 : Value} (hown : w1.ownsRow b 34 1 bv1 (S.bits.length + 1) (nums .u64 (S.bits ++ [0]))) (hg : W.grownBy w1 bv.ownBlock) :
    Parts (w1.setCell ⟨g, 2, none⟩ bv1) b g { S with bits := S.bits ++ [0] } kv bv1 sv ∧ Fr b W (w1.setCell ⟨g, 2, none⟩ bv1) := by
  have hblk := P.grown_bits hg
  have hs : W.heap.size ≤ w1.heap.size := hg.size
  refine ⟨⟨blk_set hblk 2 bv1, P.base, ?_, ?_, ?_⟩, ?_⟩
  · exact row_set (own_other P.keys hg (rows_apart P.keys P.bits (by decide))) (p := ⟨g, 2, none⟩) hblk (by decide) bv1
  · have := row_set hown (p := ⟨g, 2, none⟩) hblk (by decide) bv1
    show World.ownsRow _ b 34 1 bv1 (S.bits ++ [0]).length (nums .u64 (S.bits ++ [0]))
    have e2 : (S.bits ++ [(0 : Int)]).length = S.bits.length + 1 := by simp
    rw [e2]
    exact this
  · exact row_set (own_other P.slots hg (rows_apart P.slots P.bits (by decide))) (p := ⟨g, 2, none⟩) hblk (by decide) bv1
  · refine ((Fr.refl b W).grown hg hb ?_).set (p := ⟨g, 2, none⟩) hblk (Or.inl rfl) P.base _
    intro q hq
    obtain ⟨h1, cs, h2⟩ := row_block P.bits hq
    exact ⟨h1, cs, 34, _, h2, Or.inr (Or.inr (Or.inl rfl))⟩
end

theorem strs_len (l : List ByteArray) : (pw_strs l).length = l.length := by simp [pw_strs]

/-- The store with a text more. -/
def more (S : Data) (key : ByteArray) (sl : List Nat) : Data := { S with keys := S.keys ++ [key], bits := S.bits ++ [0], slots := sl }

theorem inv_put {S : Data} {key : ByteArray} {d : Nat} (hG : Good S) (hF : Sm.Found hsh S.keys S.slots key d) (hz : S.slots[place hsh S.slots key d]? = some 0) :
    Inv hsh (S.keys ++ [key]) (S.slots.set (place hsh S.slots key d) (S.keys.length + 1)) (S.keys ++ [key]).length := by
  have h := (hG.inv.snoc key).insert (key := key) (d := d) (by simp) (found_snoc hG.inv key key hF) hz
  simpa using h

theorem good_put {S : Data} {key : ByteArray} {sl : List Nat} (hG : Good S) (hk : key.size ≤ 9223372036854775807) (hm : S.keys.length < S.most.toNat) (hI : Inv hsh (S.keys ++ [key]) sl (S.keys ++ [key]).length)
    (hr : 2 * (S.keys.length + 1) ≤ sl.length) (ht : sl.length ≤ 4 * (S.keys.length + 1) + 16) : Good (more S key sl) := by
  refine ⟨hI, ?_, ?_, hG.most1, hG.most0, ?_, ?_, ?_⟩
  · show (S.bits ++ [0]).length = (S.keys ++ [key]).length
    have := hG.bits
    simp; omega
  · show (S.keys ++ [key]).length ≤ S.most.toNat
    simp; omega
  · show 2 * (S.keys ++ [key]).length ≤ sl.length
    simp; omega
  · show sl.length ≤ 4 * (S.keys ++ [key]).length + 16
    simp; omega
  · intro k hk'
    rcases List.mem_append.1 hk' with h | h
    · exact hG.sizes k h
    · simp at h
      subst h
      exact hk

theorem good_sizes {S : Data} {key : ByteArray} (hG : Good S) (hk : key.size ≤ 9223372036854775807) : ∀ k, k ∈ S.keys ++ [key] → k.size ≤ 9223372036854775807 := by
  intro k hk'
  rcases List.mem_append.1 hk' with h | h
  · exact hG.sizes k h
  · simp at h
    subst h
    exact hk

theorem grown_len {w : World} {b g : Nat} {S : Data} {key : ByteArray} {sl : List Nat} (h : StoreIn w b g (more S key sl)) : ∃ A c, w.cell? ⟨g, 1, none⟩ = some (.slice A (S.keys.length + 1) c) := by
  rw [StoreIn.iff] at h
  obtain ⟨kv, bv, sv, P⟩ := h
  obtain ⟨A, c, rfl⟩ := own_slice P.keys
  have e : (more S key sl).keys.length = S.keys.length + 1 := by simp [more]
  exact ⟨A, c, by have := (blk_cell P.blk 1); rw [e] at this; exact this.trans rfl⟩

theorem wp_world {P : Program} {c : Code} {Q : Exit → Act → World → Prop} {a : Act} {w : World} (R : World → Prop) (h : R w) (k : ∀ W, R W → Code.wp P c Q a W) : Code.wp P c Q a w := k w h

theorem Parts.slot_cell {w : World} {b g q n cap i v : Nat} {S : Data} {kv bv : Value} (P : Parts w b g S kv bv (.slice (some ⟨q, 0, none⟩) n cap)) (h : S.slots[i]? = some v) : w.cell? ⟨q, i, none⟩ = some (.int .i64 ((v : Nat) : Int)) ∧ w.frozen? ⟨q, i, none⟩ = false := by
  have hsl : (nums .i64 (ints S.slots)).length = (ints S.slots).length := nums_length _ _
  have hil := ints_length S.slots
  have hi : i < S.slots.length := by
    rcases Nat.lt_or_ge i S.slots.length with h' | h'
    · exact h'
    · rw [List.getElem?_eq_none h'] at h; cases h
  obtain ⟨q', _, hv, _, _, ⟨cur, hcur⟩, hc⟩ := row_cells (by rw [hsl]; exact P.slots) (by omega)
  injection hv with h1 _ _
  injection h1 with h1
  injection h1 with h1
  subst h1
  exact ⟨hc i _ (by simp [nums, ints, h]), blk_frozen hcur i⟩

/-- Where the rows of a whole store lie. -/
theorem Parts.slot_form {w : World} {b g n cap : Nat} {S : Data} {kv bv : Value} {A : Option Addr} (P : Parts w b g S kv bv (.slice A n cap)) (hp : 0 < S.slots.length) : ∃ q, A = some ⟨q, 0, none⟩ ∧ n = S.slots.length := by
  have hsl : (nums .i64 (ints S.slots)).length = (ints S.slots).length := nums_length _ _
  have hil := ints_length S.slots
  obtain ⟨q, _, hv, _⟩ := row_cells (by rw [hsl]; exact P.slots) (by omega)
  injection hv with h1 h2 _
  exact ⟨q, h1, by omega⟩
theorem Parts.drewN {w : World} {b g : Nat} {S : Data} {kv bv sv : Value} (P : Parts w b g S kv bv sv) (n : Nat) : Parts (w.drewN n) b g S kv bv sv := ⟨P.blk, P.base, P.keys, P.bits, P.slots⟩

set_option maxHeartbeats 800000 in
set_option maxRecDepth 100000 in
theorem put_walk (w : World) (b g d : Nat) (S : Data) (key : ByteArray) (hS : StoreIn w b g S) (hG : Good S) (hb : b ≤ w.heap.size) (hk : key.size ≤ 9223372036854775807) (hF : Sm.Found hsh S.keys S.slots key d)
    (hz : S.slots[place hsh S.slots key d]? = some 0) (hm : S.keys.length < S.most.toNat) :
    Calls Try.prog 11 #[.pointer (some ⟨g, 0, none⟩), .string key] w fun e w' => e = .returned (.tuple #[.int .i64 (S.keys.length : Int), .bool true, .int .i64 0]) ∧
      ∃ sl, StoreIn w' b g { S with keys := S.keys ++ [key], bits := S.bits ++ [0], slots := sl } ∧ Good { S with keys := S.keys ++ [key], bits := S.bits ++ [0], slots := sl } ∧ Fr b w w' := by
  have hm0 := hG.most0
  have hm1 := hG.most1
  have hS' := hS
  rw [StoreIn.iff] at hS'
  obtain ⟨kv, bv, sv, P⟩ := hS'
  obtain ⟨A, cap, rfl⟩ := own_slice P.slots
  obtain ⟨A1, kcap, rfl⟩ := own_slice P.keys
  obtain ⟨A2, bcap, rfl⟩ := own_slice P.bits
  have hil := ints_length S.slots
  obtain ⟨q, rfl, hx⟩ := P.slot_form hG.inv.pos
  clear hx
  have hg := P.blk
  have hlt := place_lt (H := hsh) (key := key) hG.inv.pos d
  have c0 : w.cell? ⟨g, 0, none⟩ = some (.int .i64 S.most) := (blk_cell hg 0).trans rfl
  have c1 : w.cell? ⟨g, 1, none⟩ = some (.slice A1 S.keys.length kcap) := (blk_cell hg 1).trans rfl
  have c3 : w.cell? ⟨g, 3, none⟩ = some (.slice (some ⟨q, 0, none⟩) S.slots.length cap) := (blk_cell hg 3).trans (by rw [← hil]; rfl)
  have cz : w.cell? ⟨q, place hsh S.slots key d, none⟩ = some (.int .i64 0) := (P.slot_cell hz).1
  have bm : (((S.keys.length : Nat) : Int) == S.most) = false := by simp; omega
  have HS := Aside0.mk (slot_any w b g _ S key d hS hG.inv hG.len hG.klen hk hF)
  have HBL := Aside0.mk hG.bits
  have hbl : S.bits.length ≤ 1000000 := by have := hG.bits; have := hG.klen; omega
  have htl := hG.len
  have hkl := hG.klen
  have HP := Aside0.mk P
  have HB := Aside0.mk hb
  have hsz := blk_lt hg
  have HIP := Aside0.mk (inv_put hG hF hz)
  have HK := Aside0.mk hk
  have HM := Aside0.mk hm
  have hz := Aside0.mk hz
  clear hg hil P hS hF hb hk hm
  generalize hpi : place hsh S.slots key d = i at *
  clear hpi
  go_enter Try.func11, Try.ntmps11
  go_wp2_with (go_at_call 23; refine HS.out.mono ?_; rintro e w1 ⟨rfl, ⟨nd, rfl⟩⟩)
  go_quiet (fail)
  go_upto_region 9 with (fail)
  refine wp_world (fun W => Aside0 (Parts W b g S (.slice A1 S.keys.length kcap) (.slice A2 S.bits.length bcap) (.slice (some ⟨q, 0, none⟩) (ints S.slots).length cap) ∧ Fr b w W) ∧ W.cell? ⟨g, 1, none⟩ = some (.slice A1 S.keys.length kcap)) ⟨⟨(HP.out.drewN _).drewN _, ((Fr.refl b w).drewN _).drewN _⟩, c1⟩ (fun W hW => ?_)
  obtain ⟨HW, c1W⟩ := hW
  clear c0 c1 c3 cz
  go_upto_region 10 with (at_builtin; refine print_append b rfl _ _ 39 9 (.string ⟨#[]⟩) 16 rfl Try.underlying39 info9 rfl (by decide) _ (pw_strs S.keys) (.string key) rfl rfl rfl ?c1 (Below.refl b W) (Nat.le_trans HB.out HW.out.2.below.size) ?c2 ?_; (case c1 => have h_ := HW.out.1.keys; rw [strs_len]; exact h_); (case c2 => rw [strs_len]; omega); intro kv1 w1 hown1 hB1 hg1 hat1; simp only [List.length_append, strs_len, List.length_singleton] at hown1; obtain ⟨A3, kcap3, rfl⟩ := own_slice hown1; have hblk1 := HW.out.1.grown_keys hg1; have c1' := (blk_cell hblk1 1).trans rfl; have hf1' := blk_frozen hblk1 1; have HO := Aside0.mk (HW.out.1.put_key (Nat.le_trans HB.out HW.out.2.below.size) key hown1 hg1); clear hown1 hB1 hg1 hat1 hblk1)
  refine wp_world (fun W' => Aside0 (Parts W' b g { S with keys := S.keys ++ [key] } (.slice A3 (S.keys.length + 1) kcap3) (.slice A2 S.bits.length bcap) (.slice (some ⟨q, 0, none⟩) (ints S.slots).length cap) ∧ Fr b w W') ∧ W'.cell? ⟨g, 2, none⟩ = some (.slice A2 S.bits.length bcap)) ⟨⟨HO.out.1, HW.out.2.trans HO.out.2⟩, (blk_cell HO.out.1.blk 2).trans rfl⟩ (fun W2 hW => ?_)
  clear HO HW c1W c1' hf1'
  obtain ⟨HW, c2W⟩ := hW
  go_upto_region 11 with (at_builtin; refine print_append_num b rfl _ _ 51 34 .u64 8 rfl Try.underlying51 info34 (by decide) _ S.bits 0 rfl rfl ?c1 (Below.refl b W2) (Nat.le_trans HB.out HW.out.2.below.size) (by omega) ?_; (case c1 => exact HW.out.1.bits); intro bv1 w2 hown1 hB1 hg1 hat1; simp only [List.length_append, List.length_singleton] at hown1; obtain ⟨A4, bcap4, rfl⟩ := own_slice hown1; have hblk1 := HW.out.1.grown_bits hg1; have c2' := (blk_cell hblk1 2).trans rfl; have hf2' := blk_frozen hblk1 2; have HO := Aside0.mk (HW.out.1.put_bits (Nat.le_trans HB.out HW.out.2.below.size) hown1 hg1); clear hown1 hB1 hg1 hat1 hblk1)
  refine wp_world (fun W' => Aside0 (Parts W' b g { S with keys := S.keys ++ [key], bits := S.bits ++ [0] } (.slice A3 (S.keys.length + 1) kcap3) (.slice A4 (S.bits.length + 1) bcap4) (.slice (some ⟨q, 0, none⟩) (ints S.slots).length cap) ∧ Fr b w W')) ⟨HO.out.1, HW.out.2.trans HO.out.2⟩ (fun W3 hW => ?_)
  clear HO HW c2W c2' hf2'
  have c1 : W3.cell? ⟨g, 1, none⟩ = some (.slice A3 (S.keys.length + 1) kcap3) := (blk_cell hW.out.1.blk 1).trans rfl
  have c3 : W3.cell? ⟨g, 3, none⟩ = some (.slice (some ⟨q, 0, none⟩) S.slots.length cap) := (blk_cell hW.out.1.blk 3).trans (by rw [← ints_length]; rfl)
  have cz := hW.out.1.slot_cell hz.out
  obtain ⟨cz, fz⟩ := cz
  go_region
  go_upto_region 12 with (fail)
  refine wp_world (fun W' => Aside0 (Parts W' b g (more S key (S.slots.set i (S.keys.length + 1))) (.slice A3 (S.keys.length + 1) kcap3) (.slice A4 (S.bits.length + 1) bcap4) (.slice (some ⟨q, 0, none⟩) (ints S.slots).length cap) ∧ Fr b w W')) ?_ (fun W4 hW4 => ?_)
  · have hs := hW.out.1.slot i (S.keys.length + 1)
    obtain ⟨hbq, cs, hq⟩ := row_block (q := q) hW.out.1.slots rfl
    have e : (((S.keys.length + 1 : Nat)) : Int) = (S.keys.length : Int) + 1 := by omega
    rw [e] at hs
    exact ⟨hs.drewN 1, (hW.out.2.set (p := ⟨q, i, none⟩) hq (Or.inr (Or.inr (Or.inr rfl))) hbq _).drewN 1⟩
  clear c1 c3 cz fz hW
  have c1 : W4.cell? ⟨g, 1, none⟩ = some (.slice A3 (S.keys.length + 1) kcap3) := (blk_cell hW4.out.1.blk 1).trans rfl
  have c3 : W4.cell? ⟨g, 3, none⟩ = some (.slice (some ⟨q, 0, none⟩) S.slots.length cap) := (blk_cell hW4.out.1.blk 3).trans (by rw [← ints_length]; rfl)
  by_cases hroom : S.slots.length < 2 * (S.keys.length + 1)
  · have bl : decide ((S.slots.length : Int) < 2 * ((S.keys.length : Int) + 1)) = true := decide_eq_true (by omega)
    have HI3 := HIP.out
    have HGR := Aside0.mk (fun nq => grow_walk (W4.drewN nq) b g (more S key (S.slots.set i (S.keys.length + 1))) ((StoreIn.iff _ _ _ _).mpr ⟨_, _, _, hW4.out.1.drewN nq⟩) (Nat.le_trans HB.out hW4.out.2.below.size)
      (by show 0 < (S.slots.set i (S.keys.length + 1)).length; rw [List.length_set]; omega) (by show (S.slots.set i (S.keys.length + 1)).length ≤ 400000; rw [List.length_set]; have := hG.tight; have := hG.most; omega)
      (by show (S.keys ++ [key]).length < 2 * (S.slots.set i (S.keys.length + 1)).length; rw [List.length_set]; have := hG.lt; simp; omega)
      (good_sizes hG HK.out) (fun n n' k h h' => HI3.apart (by have := (List.getElem?_eq_some_iff.1 h).1; exact this) (by have := (List.getElem?_eq_some_iff.1 h').1; exact this) h h'))
    clear HI3
    have HRM := hroom
    go_quiet (fail)
    go_wp2_with (go_at_call 24; refine (HGR.out _).mono ?_; rintro e w5 ⟨rfl, HX0⟩; have HX := Aside0.mk HX0; obtain ⟨sl5, hx1, hx2, hx3, hx4⟩ := HX0; obtain ⟨A5, c5, c15⟩ := grown_len (S := S) (key := key) (sl := sl5) hx3; clear hx1 hx2 hx3 hx4)
    go_ret3
    obtain ⟨sl, h1, h2, h3, h4⟩ := HX.out
    have h1' : sl.length = 2 * S.slots.length := by rw [h1]; show 2 * (S.slots.set i (S.keys.length + 1)).length = _; rw [List.length_set]
    exact ⟨rfl, sl, h3, good_put hG HK.out HM.out h2 (by have := hG.lt; omega) (by omega), (hW4.out.2.drewN _).trans h4⟩
  · have bl : decide ((S.slots.length : Int) < 2 * ((S.keys.length : Int) + 1)) = false := decide_eq_false (by omega)
    go_quiet (fail)
    go_wp2
    go_ret3
    exact ⟨rfl, _, (StoreIn.iff _ _ _ _).mpr ⟨_, _, _, hW4.out.1.drewN _⟩, good_put hG HK.out HM.out HIP.out (by rw [List.length_set]; omega) (by rw [List.length_set]; have := hG.tight; omega), hW4.out.2.drewN _⟩
end Go.Proofs.Ytihlndgnkhlphaa.St
