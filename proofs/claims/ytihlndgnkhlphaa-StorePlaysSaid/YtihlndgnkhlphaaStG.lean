/- How a store makes room: the walk of grow. Condition: texts are at most 2^63 - 1 bytes, a store's slots at most half a million. -/
import Derived.Test.YtihlndgnkhlphaaStM
namespace Go.Proofs.Ytihlndgnkhlphaa.St
open Go.RowKit Go.Proofs.YtihlndgnkhlphaaW.PrintWords Go.Proofs.YtihlndgnkhlphaaW.PrintLast Go.Proofs.YtihlndgnkhlphaaW.PrintMore Go.Proofs.Ytihlndgnkhlphaa.PStorePlays
open Go.Proofs.Ytihlndgnkhlphaa.Sm

theorem info3 : (Try.prog.info? 3).map (fun i => (i.zero, i.size, i.bytes)) = some (some (.int .i64 0), 1, 8) := by kernel_rfl

/-- What holds at each round's head of grow. -/
def GrowAt (w0 : World) (b g : Nat) (S : Data) (kv bv sv : Value) (n : Nat) (k : Nat) (wr : World) : Prop :=
  k ≤ S.keys.length ∧ ∃ sl : List Nat, sl.length = n ∧ Inv hsh S.keys sl k ∧ Parts wr b g { S with slots := sl } kv bv sv ∧ Fr b w0 wr

theorem ints_replicate (n : Nat) : ints (List.replicate n 0) = List.replicate n 0 := by simp [ints]

theorem grow_start {w : World} {b g : Nat} {S : Data} {kv bv sv : Value} (P : Parts w b g S kv bv sv) (n : Nat) (hn : 0 < n) (hn1 : n ≤ 1000000) (hb : b ≤ w.heap.size) :
    GrowAt w b g S kv bv (.slice (some ⟨w.heap.size, 0, none⟩) n n) n 0 ((w.setCell ⟨g, 3, none⟩ (.slice (some ⟨w.heap.size, 0, none⟩) n n)).alloc (.cells (madeCells #[.int .i64 0] n) 3)) := by
  have hs : (w.setCell ⟨g, 3, none⟩ (.slice (some ⟨w.heap.size, 0, none⟩) n n)).heap.size = w.heap.size := by simp
  refine ⟨Nat.zero_le _, List.replicate n 0, by simp, Inv.empty n hn _, ⟨?_, P.base, ?_, ?_, ?_⟩, ?_⟩
  · exact blk_alloc (blk_set P.blk 3 _) _
  · exact row_below (row_set P.keys (p := ⟨g, 3, none⟩) P.blk (by decide) _) (below_alloc (Below.refl _ _) _)
  · exact row_below (row_set P.bits (p := ⟨g, 3, none⟩) P.blk (by decide) _) (below_alloc (Below.refl _ _) _)
  · have h := own_made (w.setCell ⟨g, 3, none⟩ (.slice (some ⟨w.heap.size, 0, none⟩) n n)) b 3 .i64 n (by rw [hs]; exact hb) (by omega)
    rw [hs] at h
    show World.ownsRow _ b 3 1 _ (ints (List.replicate n 0)).length (nums .i64 (ints (List.replicate n 0)))
    rw [ints_replicate, List.length_replicate]
    exact h
  · exact ((Fr.refl b w).set (p := ⟨g, 3, none⟩) P.blk (Or.inl rfl) P.base _).alloc (by rw [hs]; exact hb) _

/-- A round: what the search finds, and where the number is put. -/
theorem grow_round {w0 wr : World} {b g q n k : Nat} {S : Data} {kv bv : Value} (h : GrowAt w0 b g S kv bv (.slice (some ⟨q, 0, none⟩) n n) n k wr) (hk : k < S.keys.length) (hr : S.keys.length < n)
    (hap : ∀ (n n' : Nat) (k : ByteArray), S.keys[n]? = some k → S.keys[n']? = some k → n = n') :
    ∃ (sl : List Nat) (d i : Nat), sl.length = n ∧ Inv hsh S.keys sl k ∧ Parts wr b g { S with slots := sl } kv bv (.slice (some ⟨q, 0, none⟩) n n) ∧ Sm.Found hsh S.keys sl S.keys[k] d ∧ i = place hsh sl S.keys[k] d ∧ i < n ∧
      (∃ u, wr.cell? ⟨q, i, none⟩ = some u) ∧ wr.frozen? ⟨q, i, none⟩ = false ∧ wr.cell? ⟨g, 3, none⟩ = some (.slice (some ⟨q, 0, none⟩) n n) ∧
      ∀ m, GrowAt w0 b g S kv bv (.slice (some ⟨q, 0, none⟩) n n) n (k + 1) ((wr.setCell ⟨q, i, none⟩ (.int .i64 ((k : Int) + 1))).drewN m) := by
  obtain ⟨hkl, sl, hsl, hI, hP, hF⟩ := h
  obtain ⟨d, hd⟩ := exists_found hI (by omega) S.keys[k]
  have hlt := place_lt (H := hsh) (key := S.keys[k]) hI.pos d
  have hkk : S.keys[k]? = some S.keys[k] := List.getElem?_eq_getElem hk
  have hz : sl[place hsh sl S.keys[k] d]? = some 0 := by
    rcases hd.1 with h | ⟨m, h, h'⟩
    · exact h
    · have := hap _ _ _ hkk h'
      have := hI.small _ _ h
      omega
  have hi := hI.insert hkk hd hz
  have hil : (ints sl).length = n := by rw [ints_length, hsl]
  have hP' := hP
  obtain ⟨hbq, cs, hq⟩ := row_block (q := q) hP.slots rfl
  have hcell := (own_at (xs := ints sl) (by have := hP.slots; rw [show (ints ({ S with slots := sl } : Data).slots).length = n from hil] at this; exact this) ((place hsh sl S.keys[k] d : Nat) : Int) (by omega) (by omega))
  refine ⟨sl, d, _, hsl, hI, hP', hd, rfl, by omega, ⟨_, hcell.1⟩, hcell.2, (blk_cell hP.blk 3).trans rfl, fun m => ⟨hk, sl.set (place hsh sl S.keys[k] d) (k + 1), by simp [hsl], hi, ?_, ?_⟩⟩
  · have hP2 : Parts wr b g { S with slots := sl } kv bv (.slice (some ⟨q, 0, none⟩) (ints ({ S with slots := sl } : Data).slots).length n) := by
      show Parts wr b g { S with slots := sl } kv bv (.slice (some ⟨q, 0, none⟩) (ints sl).length n)
      rw [hil]; exact hP
    have hs := hP2.slot (place hsh sl S.keys[k] d) (k + 1)
    have e : (ints ({ S with slots := sl } : Data).slots).length = n := hil
    rw [e] at hs
    exact ⟨hs.blk, hs.base, hs.keys, hs.bits, hs.slots⟩
  · exact (hF.set (p := ⟨q, place hsh sl S.keys[k] d, none⟩) hq (Or.inr (Or.inr (Or.inr rfl))) hbq _).drewN m

theorem Parts.key {w : World} {b g n cap k : Nat} {S : Data} {A : Option Addr} {bv sv : Value} (h : Parts w b g S (.slice A n cap) bv sv) (hk : k < S.keys.length) : ∃ q, A = some ⟨q, 0, none⟩ ∧ w.cell? ⟨q, k, none⟩ = some (.string S.keys[k]) := by
  have hl : (pw_strs S.keys).length = S.keys.length := by simp [pw_strs]
  have hr := h.keys
  rw [← hl] at hr
  obtain ⟨q, cap', hv, _, _, _, hc⟩ := row_cells hr (by omega)
  cases hv
  exact ⟨q, rfl, hc k _ (by simp [pw_strs, hk])⟩

set_option maxHeartbeats 800000 in
set_option maxRecDepth 100000 in
theorem grow_walk (w : World) (b g : Nat) (S : Data) (hS : StoreIn w b g S) (hb : b ≤ w.heap.size) (hp : 0 < S.slots.length) (hl : S.slots.length ≤ 400000) (hr : S.keys.length < 2 * S.slots.length) (hks : ∀ k, k ∈ S.keys → k.size ≤ 9223372036854775807)
    (hap : ∀ (n n' : Nat) (k : ByteArray), S.keys[n]? = some k → S.keys[n']? = some k → n = n') :
    Calls Try.prog 24 #[.pointer (some ⟨g, 0, none⟩)] w fun e w' => e = .returned (.tuple #[]) ∧ ∃ sl, sl.length = 2 * S.slots.length ∧ Inv hsh S.keys sl S.keys.length ∧ StoreIn w' b g { S with slots := sl } ∧ Fr b w w' := by
  rw [StoreIn.iff] at hS
  obtain ⟨kv, bv, sv, P⟩ := hS
  obtain ⟨A, cap, rfl⟩ := own_slice P.slots
  obtain ⟨A1, kcap, rfl⟩ := own_slice P.keys
  have hil := ints_length S.slots
  have hg := P.blk
  rw [hil] at hg
  have c1 : w.cell? ⟨g, 1, none⟩ = some (.slice A1 S.keys.length kcap) := (blk_cell hg 1).trans rfl
  have c3 : w.cell? ⟨g, 3, none⟩ = some (.slice A S.slots.length cap) := (blk_cell hg 3).trans rfl
  have hf3 := blk_frozen hg 3
  have hmk := print_make 50 3 .i64 8 Try.underlying50 info3 (by decide) (2 * S.slots.length) (by omega)
  have e2 : ((2 * S.slots.length : Nat) : Int) = 2 * (S.slots.length : Int) := by omega
  rw [e2] at hmk
  have HG := Aside0.mk (grow_start P (2 * S.slots.length) (by omega) (by omega) hb)
  have hlt := blk_lt hg
  have HK := Aside0.mk hks
  have HA := Aside0.mk hap
  have HR := Aside0.mk hr
  clear P hil hg e2 hks hap
  go_enter Try.func24, Try.ntmps24
  go_wp2
  go_loopw [2, 3, 19] (fun _ _ i wr => ∃ k : Nat, i = .int .i64 (k : Int) ∧ GrowAt w b g S (.slice A1 S.keys.length kcap) bv (.slice (some ⟨w.heap.size, 0, none⟩) (2 * S.slots.length) (2 * S.slots.length)) (2 * S.slots.length) k wr) (fun _ _ i _ => S.keys.length - (intOf i).toNat)
  case atStart => exact ⟨0, rfl, HG.out⟩
  case round =>
    obtain ⟨k, rfl, hG⟩ := hrel
    clear hmk c1 c3 hf3 HG
    by_cases hk : k < S.keys.length
    · obtain ⟨sl, d, i, hsl, hI, hP, hd, hi, hin, ⟨u, hu⟩, hfz, hc3, hnext⟩ := grow_round hG hk HR.out HA.out
      obtain ⟨kq, rfl, hkc⟩ := hP.key hk
      have hks := HK.out _ (List.getElem_mem hk)
      have HS := Aside0.mk (fun (wx : World) (hx : StoreIn wx b g { S with slots := sl }) => slot_any wx b g k { S with slots := sl } S.keys[k] d hx hI (by show sl.length ≤ 1000000; omega) (by show S.keys.length ≤ 1000000; omega) hks hd)
      have hSt : StoreIn wr b g { S with slots := sl } := (StoreIn.iff _ _ _ _).mpr ⟨_, _, _, hP⟩
      have HN := Aside0.mk hnext
      have HI := Aside0.mk hi
      clear hG hI hP hd hnext hks hsl
      have hi' : place hsh sl S.keys[k] d = i := hi.symm
      clear hi
      go_wp2
      go_region_with ((go_at_call 23; refine (HS.out _ (by exact hSt)).mono ?_; rintro e w' ⟨rfl, ⟨nd, rfl⟩⟩))
      all_goals
        go_wp2
        go_roundw
        case rel => exact ⟨k + 1, by go_num, HN.out _⟩
        case measure => simp [intOf]; omega
    · have HE := Aside0.mk hG
      have hkl := hG.1
      clear hG
      go_wp2
      go_end0
      have : k = S.keys.length := by omega
      subst this
      obtain ⟨_, sl, h1, h2, h3, h4⟩ := HE.out
      exact ⟨rfl, sl, h1, h2, (StoreIn.iff _ _ _ _).mpr ⟨_, _, _, h3⟩, h4⟩
end Go.Proofs.Ytihlndgnkhlphaa.St
