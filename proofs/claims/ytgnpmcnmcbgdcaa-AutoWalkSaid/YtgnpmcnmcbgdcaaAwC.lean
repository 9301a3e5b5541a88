/- A row of so many -1: the walk of slices.Repeat. Condition: at most 2^44 of them. -/
import Derived.Test.YtgnpmcnmcbgdcaaAwB
import Derived.Laws.CopyOwn
set_option linter.unusedSimpArgs false
set_option linter.unusedVariables false
namespace Go.Proofs.Ytgnpmcnmcbgdcaa.Aw
open Go.RowKit Go.Proofs.YtgnpmcnmcbgdcaaW.PrintWords Go.Proofs.YtgnpmcnmcbgdcaaW.PrintLast Go.Proofs.YtgnpmcnmcbgdcaaW.PrintMore Go.Proofs.Ytgnpmcnmcbgdcaa.PAutoWalk

theorem and_lo (v : Int) : Go.bits .and .u64 v 4294967295 = v % 4294967296 := by
  simp only [Go.bits]
  have e : (BitVec.ofInt IntKind.u64.bits v &&& BitVec.ofInt IntKind.u64.bits 4294967295).toNat = (v % 4294967296).toNat := by
    rw [BitVec.toNat_and, BitVec.toNat_ofInt, BitVec.toNat_ofInt]
    show (v % 18446744073709551616).toNat &&& ((4294967295 : Int) % 18446744073709551616).toNat = _
    rw [show ((4294967295 : Int) % 18446744073709551616).toNat = 2 ^ 32 - 1 by decide, Nat.and_two_pow_sub_one_eq_mod]
    omega
  rw [e, IntKind.wrap_u64]
  omega

theorem mul_one (n : Int) (h0 : 0 ≤ n) (h1 : n ≤ 9223372036854775807) : bits_Mul.f 1 n = some (0, n) := by
  unfold bits_Mul.f bits_Mul64.f
  simp only [and_lo, IntKind.wrap_u64, Option.bind_some]
  congr 2
  · omega
  · omega

theorem size3 : (Try.prog.info? 3).map (·.size) = some 1 := by kernel_rfl
/-- The row when kk numbers are told. -/
def told (kk n : Nat) : List Value := List.replicate kk (.int .i64 (-1)) ++ List.replicate (n - kk) (.int .i64 0)
theorem told_zero (n : Nat) : madeCells #[Value.int .i64 0] n = (told 0 n).toArray := by
  apply Array.ext
  · simp [told, size_madeCells]
  · intro i h1 h2
    simp [told, madeCells, Nat.mod_one]
theorem told_len (kk n : Nat) (h : kk ≤ n) : (told kk n).length = n := by simp [told]; omega
theorem told_more (kk n c : Nat) (h : kk + c ≤ n) : splice (told kk n) kk (List.replicate c (.int .i64 (-1))) = told (kk + c) n := by
  unfold splice told
  rw [List.take_append_of_le_length (by simp), List.take_of_length_le (by simp), List.drop_append, List.drop_eq_nil_of_le (by simp)]
  simp only [List.length_replicate, List.nil_append, List.drop_replicate]
  rw [← List.append_assoc, List.replicate_append_replicate]
  congr 2
  omega
theorem told_cell {w : World} {g kk n : Nat} (h : w.heap[g]? = some (.cells (told kk n).toArray 3 (0, 0))) (j : Nat) (hj : j < kk) : w.cell? ⟨g, j, none⟩ = some (.int .i64 (-1)) := by
  rw [blk_cell h]
  simp [told, List.getElem?_append_left, hj]

set_option maxHeartbeats 1000000 in
set_option maxRecDepth 100000 in
theorem repeat_walk (W : World) (b n : Nat) (hb : W.cell? ⟨b, 0, none⟩ = some (.int .i64 (-1))) (hn : n ≤ 17592186044416) :
    Calls Try.prog 11 #[.slice (some ⟨b, 0, none⟩) 1 1, .int .i64 n] W fun e w' => ∃ g, e = .returned (.slice (some ⟨g, 0, none⟩) n n) ∧ k1.R 3 w' W.heap.size (fun _ => True) (.slice (some ⟨g, 0, none⟩) n n) (List.replicate n (-1)) ∧ Below W.heap.size W w' := by
  have hmk := print_make 27 3 .i64 8 Try.underlying27 info3 (by decide) n (by omega)
  have hw1 : IntKind.u64.wrap 1 = 1 := by decide
  have hw : IntKind.u64.wrap (n : Int) = (n : Int) := by rw [IntKind.wrap_u64]; omega
  have hw2 : IntKind.i64.wrap (n : Int) = (n : Int) := by rw [IntKind.wrap_i64]; omega
  have HML := Aside0.mk (mul_one (n : Int) (by omega) (by omega))
  have HBC := Aside0.mk hb
  have d0 : ((n : Int) < 0) = False := eq_false (by omega)
  have d1 : (9223372036854775807 < (n : Int)) = False := eq_false (by omega)
  clear hb
  go_enter Try.func11, Try.ntmps11
  go_upto_region 7 with (go_at_call 23; refine (bits_Mul.calls 1 n 0 n _ HML.out).mono ?_; rintro e w1 ⟨rfl, ⟨nd, rfl⟩⟩)
  rw [told_zero]
  refine wp_world (fun W1 => Aside0 (W1.heap[W.heap.size]? = some (.cells (told 0 n).toArray 3 (0, 0)) ∧ Below W.heap.size W W1)) ⟨?_, ?_⟩ (fun W1 H1 => ?_)
  · exact blk_new (W.drewN nd) _
  · exact below_alloc (pw_below_drewN (Below.refl _ _) nd) _
  obtain ⟨cc, hcc⟩ : ∃ cc, cc = Nat.min 1 n := ⟨_, rfl⟩
  have HCC := Aside0.mk hcc
  clear hcc
  have hcn : cc ≤ n ∧ cc ≤ 1 ∧ (0 < n → cc = 1) := by have := HCC.out; change cc = min 1 n at this; omega
  have HSRC := Aside0.mk (show 0 < (List.replicate cc (Value.int .i64 (-1))).length → (some (⟨W.heap.size, 0, none⟩ : Addr) = some ⟨W.heap.size, 0, none⟩ ∧ ∃ ad, some (⟨b, 0, none⟩ : Addr) = some ad ∧ ∀ j v, (List.replicate cc (Value.int .i64 (-1)))[j]? = some v → W1.cell? (ad.add j) = some v) from fun hp => ⟨rfl, _, rfl, fun j v hj => by
    rw [List.getElem?_replicate] at hj
    split at hj
    · injection hj with hj
      subst hj
      have : j = 0 := by omega
      subst this
      exact pw_cell_below H1.out.2 HBC.out
    · cases hj⟩)
  have HLEN := Aside0.mk (show 0 + (List.replicate cc (Value.int .i64 (-1))).length ≤ (told 0 n).length by rw [told_len 0 n (Nat.zero_le _), List.length_replicate]; omega)
  have HONE := Aside0.mk (show ∀ v ∈ List.replicate cc (Value.int .i64 (-1)), v.oneCell' = true from fun v hv => by rw [List.eq_of_mem_replicate hv]; rfl)
  go_wp2_with (refine wpList_copy_splice rfl (.tmp 31) (.tmp 32) 27 27 rfl 3 Try.underlying27 size3 (some ⟨W.heap.size, 0, none⟩) (some ⟨b, 0, none⟩) n n 1 1 rfl rfl W.heap.size 0 (told 0 n) 3 H1.out.1 (List.replicate cc (.int .i64 (-1))) (by rw [List.length_replicate, HCC.out]) HSRC.out HLEN.out HONE.out W.heap.size W H1.out.2 (Nat.le_refl _) ?_; intro w2 h2 hB2; have H2 := Aside0.mk (And.intro h2.out hB2); clear h2 hB2; rw [List.length_replicate])
  rw [told_more 0 n cc (by omega)] at H2
  clear hmk hw1 hw hw2 d1
  have hcn0 := hcn
  clear hcn
  go_loopg [8] n (fun gg s8 wz => ∃ kk : Nat, kk ≤ n ∧ n - kk ≤ gg ∧ s8 = .int .i64 kk ∧ Aside0 ((0 < n → 0 < kk) ∧ wz.heap[W.heap.size]? = some (.cells (told kk n).toArray 3 (0, 0)) ∧ Below W.heap.size W wz))
  case atStart => exact ⟨cc, by omega, by omega, by simp [goInt], ⟨by omega, by simpa using H2.out.1, H2.out.2⟩⟩
  case round =>
    obtain ⟨kk, hk, hg, rfl, HW⟩ := hrel
    by_cases hlt : kk < n
    · have d2 : ((kk : Int) < (n : Int)) = True := eq_true (by omega)
      have d3 : ((0 : Int) ≤ (kk : Int)) = True := eq_true (by omega)
      have d4 : ((kk : Int) ≤ (n : Int)) = True := eq_true (by omega)
      have hnk : ¬ (n = kk) := by omega
      obtain ⟨c2, hc2⟩ : ∃ c2, c2 = Nat.min kk (n - kk) := ⟨_, rfl⟩
      have hcm : kk + c2 ≤ n ∧ c2 ≤ kk ∧ (0 < kk → 0 < c2) := by change c2 = min kk (n - kk) at hc2; omega
      have HC2 := Aside0.mk hc2
      have HSR := Aside0.mk (show ∀ w0 : World, w0.heap[W.heap.size]? = some (.cells (told kk n).toArray 3 (0, 0)) → 0 < (List.replicate c2 (Value.int .i64 (-1))).length → (some (⟨W.heap.size, kk, none⟩ : Addr) = some ⟨W.heap.size, kk, none⟩ ∧ ∃ ad, some (⟨W.heap.size, 0, none⟩ : Addr) = some ad ∧ ∀ j v, (List.replicate c2 (Value.int .i64 (-1)))[j]? = some v → w0.cell? (ad.add j) = some v) from fun w0 hw0 hp => ⟨rfl, _, rfl, fun j v hj => by
        rw [List.getElem?_replicate] at hj
        split at hj
        · injection hj with hj
          subst hj
          rw [Go.WideShapes.add_plain]
          simpa using told_cell hw0 j (by omega)
        · cases hj⟩)
      have HLE := Aside0.mk (show kk + (List.replicate c2 (Value.int .i64 (-1))).length ≤ (told kk n).length by rw [told_len kk n hk, List.length_replicate]; omega)
      have HON := Aside0.mk (show ∀ v ∈ List.replicate c2 (Value.int .i64 (-1)), v.oneCell' = true from fun v hv => by rw [List.eq_of_mem_replicate hv]; rfl)
      have hgd := HW.out.2.1
      have hbd := HW.out.2.2
      have hlen : (List.replicate c2 (Value.int .i64 (-1))).length = Nat.min kk (n - kk) := by rw [List.length_replicate, HC2.out]
      have HX := Aside0.mk (And.intro hgd (And.intro hbd hlen))
      clear hgd hbd hlen hc2
      go_wp2
      go_region_law (refine step_copy_splice rfl (.tmp 41) (.tmp 44) 27 27 rfl 3 Try.underlying27 size3 (some ⟨W.heap.size, kk, none⟩) (some ⟨W.heap.size, 0, none⟩) (n - kk) (n - kk) kk n (by simp [Act.eval, Act.put]) (by simp [Act.eval, Act.put]) W.heap.size kk (told kk n) 3 HX.out.1 (List.replicate c2 (.int .i64 (-1))) HX.out.2.2 (fun hp => ⟨rfl, (HSR.out _ HX.out.1 hp).2⟩) HLE.out HON.out W.heap.size W HX.out.2.1.drew (Nat.le_refl _) ?_; intro w4 h4 hB4; have H4 := Aside0.mk (And.intro h4.out hB4); clear h4 hB4; rw [List.length_replicate])
      all_goals (
        go_wp2
        go_roundg (n - (kk + c2))
        case measure => have := HW.out.1; omega
        case rel =>
          refine ⟨kk + c2, by omega, by omega, by simp [goInt]; rw [IntKind.wrap_i64]; omega, ⟨fun h => by have := HW.out.1 h; omega, ?_, H4.out.2⟩⟩
          rw [← told_more kk n c2 (by omega)]
          exact H4.out.1)
    · have d2 : ((kk : Int) < (n : Int)) = False := eq_false (by omega)
      have hkn : kk = n := by omega
      have HKN := Aside0.mk hkn
      clear hkn hlt hk hg
      go_wp2
      go_ret
      refine ⟨W.heap.size, rfl, ?_, HW.out.2.2⟩
      have h := HW.out.2.1
      rw [HKN.out] at h
      have e : told n n = nums .i64 (List.replicate n (-1)) := by simp [told, nums]
      rw [e] at h
      refine Kd.R_of_own (enc := Value.int .i64) ?_ (fun _ _ => trivial)
      rw [List.length_replicate]
      exact ⟨by simp [encs], .inr ⟨W.heap.size, n, _, rfl, Nat.le_refl _, h, Nat.le_refl _, by unfold maxLen; omega, by simp [nums], by simp [nums, encs]⟩⟩
end Go.Proofs.Ytgnpmcnmcbgdcaa.Aw
