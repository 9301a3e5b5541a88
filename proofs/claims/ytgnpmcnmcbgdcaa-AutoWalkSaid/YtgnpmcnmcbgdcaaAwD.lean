/- What is done to each way of a place: the walk of auto.Walk's 'each', with each of the three functions that it is given. Condition: what is done at a way keeps what is said of the ways ahead. -/
import Derived.Test.YtgnpmcnmcbgdcaaAwC
set_option linter.unusedSimpArgs false
set_option linter.unusedVariables false
namespace Go.Proofs.Ytgnpmcnmcbgdcaa.Aw
open Go.RowKit Go.Proofs.YtgnpmcnmcbgdcaaW.PrintWords Go.Proofs.YtgnpmcnmcbgdcaaW.PrintLast Go.Proofs.YtgnpmcnmcbgdcaaW.PrintMore Go.Proofs.Ytgnpmcnmcbgdcaa.PAutoWalk

theorem esc_more (l : S36) (i : Nat) (h : i < l.f1.length) : l.f0 ++ (l.f1.take i).flatten ++ l.f1[i].take l.f1[i].length = l.f0 ++ (l.f1.take (i + 1)).flatten := by
  have e : l.f1.take (i + 1) = l.f1.take i ++ [l.f1[i]] := by rw [List.take_add_one, List.getElem?_eq_getElem h]; rfl
  rw [List.take_length, e, List.flatten_append, List.append_assoc]
  simp only [List.flatten_cons, List.flatten_nil, List.append_nil]

set_option maxHeartbeats 1000000 in
set_option maxRecDepth 100000 in
theorem each_ok (W : World) (ga gb : Nat) (T : List Nat) (hT : 36 ∉ T) (Inv : List S40 → World → Prop) (A0 A1 : Option Addr) (c0 c1 b0 o0 b1 o1 : Nat) (l : S36) (E : Nat → Option Addr) (ec eb eo : Nat → Nat)
    (h0 : 0 < l.f0.length → A0 = some ⟨b0, o0, none⟩) (h1 : 0 < l.f1.length → A1 = some ⟨b1, o1, none⟩) (hE : ∀ i (h : i < l.f1.length), 0 < l.f1[i].length → E i = some ⟨eb i, eo i, none⟩)
    (hesc : ∀ d w, Inv d w → ∀ i (h : i < l.f1.length), w.cell? ⟨b1, o1 + i, none⟩ = some (.slice (E i) l.f1[i].length (ec i)))
    (hmono : ∀ d w w', Inv d w → Below w.heap.size w w' → Inv d w')
    (hdo0 : ∀ i (h : i < l.f0.length) w, Inv (l.f0.take i) w → Calls Try.prog 10 #[.pointer (some ⟨b0, o0 + i * 9, none⟩), .pointer (some ⟨ga, 0, none⟩), .pointer (some ⟨gb, 0, none⟩)] w fun e w' => e = .returned (.tuple #[]) ∧ Aside0 (Inv (l.f0.take (i + 1)) w' ∧ KeepT T w w'))
    (hdo1 : ∀ i (h : i < l.f1.length) k (hk : k < l.f1[i].length) w, Inv (l.f0 ++ (l.f1.take i).flatten ++ l.f1[i].take k) w → Calls Try.prog 10 #[.pointer (some ⟨eb i, eo i + k * 9, none⟩), .pointer (some ⟨ga, 0, none⟩), .pointer (some ⟨gb, 0, none⟩)] w fun e w' => e = .returned (.tuple #[]) ∧ Aside0 (Inv (l.f0 ++ (l.f1.take i).flatten ++ l.f1[i].take (k + 1)) w' ∧ KeepT T w w'))
    (hl0 : l.f0.length ≤ 4611686018427387904) (hl1 : l.f1.length ≤ 4611686018427387904) (hl2 : ∀ i (h : i < l.f1.length), l.f1[i].length ≤ 4611686018427387904) (hI : Inv [] W) :
    Calls Try.prog 9 #[.agg #[.slice A0 l.f0.length c0, .slice A1 l.f1.length c1, .bool l.f2, .bool l.f3, .bool l.f4, .bool l.f5, .bool l.f6], .func (.func 10) #[] #[.pointer (some ⟨ga, 0, none⟩), .pointer (some ⟨gb, 0, none⟩)]] W fun e w' => e = .returned (.tuple #[]) ∧ Aside0 (Inv (l.f0 ++ l.f1.flatten) w' ∧ KeepT T W w') := by
  have H0 := Aside0.mk h0
  have H1 := Aside0.mk h1
  have HE := Aside0.mk hE
  have HES := Aside0.mk hesc
  have HMO := Aside0.mk hmono
  have HD0 := Aside0.mk hdo0
  have HD1 := Aside0.mk hdo1
  have HL2 := Aside0.mk hl2
  have HI := Aside0.mk hI
  have HTT := Aside0.mk hT
  obtain ⟨n0, hn0⟩ : ∃ n0, n0 = l.f0.length := ⟨_, rfl⟩
  obtain ⟨n1, hn1⟩ : ∃ n1, n1 = l.f1.length := ⟨_, rfl⟩
  have HN := Aside0.mk (And.intro hn0 hn1)
  rw [← hn0] at hl0 ⊢
  rw [← hn1] at hl1 ⊢
  clear h0 h1 hE hesc hmono hdo0 hdo1 hl2 hI hT hn0 hn1
  go_enter Try.func9, Try.ntmps9
  go_wp2
  go_loopg [11] n0 (fun gg s11 wz => ∃ i : Nat, i ≤ n0 ∧ n0 - i ≤ gg ∧ s11 = .int .i64 i ∧ Aside0 (Inv (l.f0.take i) wz ∧ wz.heap[W.heap.size]? = some (.cells #[.slice A0 n0 c0, .slice A1 n1 c1, .bool l.f2, .bool l.f3, .bool l.f4, .bool l.f5, .bool l.f6] 36 (0, 0)) ∧ KeepT T W wz))
  case atStart => exact ⟨0, Nat.zero_le _, Nat.le_of_eq (Nat.sub_zero _), rfl, ⟨HMO.out _ _ _ HI.out (below_alloc (Below.refl _ _) _), blk_new _ _, (KeepT.refl _ _).alloc _⟩⟩
  case round =>
    obtain ⟨i, hi, hg, rfl, HW⟩ := hrel
    have cl0 := (blk_cell HW.out.2.1 0).trans rfl
    have cl1 := (blk_cell HW.out.2.1 1).trans rfl
    by_cases hlt : i < n0
    · have d0 : ((i : Int) < (n0 : Int)) = True := eq_true (by omega)
      obtain rfl := H0.out (by have := HN.out.1; omega)
      have HC := Aside0.mk (HD0.out i (by have := HN.out.1; omega) wr HW.out.1)
      go_wp2_with (go_at_call 10; refine HC.out.mono ?_; rintro e w1 ⟨rfl, HP⟩)
      go_roundg (n0 - (i + 1))
      case measure => omega
      case rel => exact ⟨i + 1, by omega, by omega, by go_num, ⟨HP.out.1, HP.out.2.block _ _ _ HTT.out HW.out.2.1, HW.out.2.2.trans HP.out.2⟩⟩
    · have d0 : ((i : Int) < (n0 : Int)) = False := eq_false (by omega)
      have hin : i = l.f0.length := by have := HN.out.1; omega
      have hI1 := HW.out.1
      rw [hin, List.take_length] at hI1
      have HI1 := Aside0.mk hI1
      clear hin hI1 hlt hg hi
      go_wp2
      go_loopg [24] n1 (fun gg s24 wz => ∃ i : Nat, i ≤ n1 ∧ n1 - i ≤ gg ∧ s24 = .int .i64 i ∧ Aside0 (Inv (l.f0 ++ (l.f1.take i).flatten) wz ∧ wz.heap[W.heap.size]? = some (.cells #[.slice A0 n0 c0, .slice A1 n1 c1, .bool l.f2, .bool l.f3, .bool l.f4, .bool l.f5, .bool l.f6] 36 (0, 0)) ∧ KeepT T W wz))
      case atStart => exact ⟨0, Nat.zero_le _, Nat.le_of_eq (Nat.sub_zero _), rfl, ⟨by simpa using HI1.out, HW.out.2.1, HW.out.2.2⟩⟩
      case round =>
        clear cl0 cl1
        obtain ⟨j, hj, hg, rfl, HY⟩ := hrel
        by_cases hlt : j < n1
        · have d1 : ((j : Int) < (n1 : Int)) = True := eq_true (by omega)
          have hjl : j < l.f1.length := by have := HN.out.2; omega
          obtain rfl := H1.out (by omega)
          have hcell := HES.out _ _ HY.out.1 j hjl
          have HDJ := Aside0.mk (HD1.out j hjl)
          have HEJ := Aside0.mk (HE.out j hjl)
          have hlj := HL2.out j hjl
          have HEM := Aside0.mk (esc_more l j hjl)
          have HI2 := Aside0.mk (show Inv (l.f0 ++ (l.f1.take j).flatten ++ l.f1[j].take 0) wr by simpa using HY.out.1)
          generalize l.f1[j] = x at hcell HDJ HEJ hlj HEM HI2
          generalize E j = Ej at hcell HEJ
          obtain ⟨nx, hnx⟩ : ∃ nx, nx = x.length := ⟨_, rfl⟩
          rw [← hnx] at hcell HDJ HEJ hlj HEM
          have HNX := Aside0.mk hnx
          clear hnx hjl
          go_wp2
          go_loopg [30] nx (fun gg s30 wz => ∃ k : Nat, k ≤ nx ∧ nx - k ≤ gg ∧ s30 = .int .i64 k ∧ Aside0 (Inv (l.f0 ++ (l.f1.take j).flatten ++ x.take k) wz ∧ wz.heap[W.heap.size]? = some (.cells #[.slice A0 n0 c0, .slice (some ⟨b1, o1, none⟩) n1 c1, .bool l.f2, .bool l.f3, .bool l.f4, .bool l.f5, .bool l.f6] 36 (0, 0)) ∧ KeepT T W wz))
          case atStart => exact ⟨0, Nat.zero_le _, Nat.le_of_eq (Nat.sub_zero _), rfl, ⟨HI2.out, HY.out.2.1, HY.out.2.2⟩⟩
          case round =>
            obtain ⟨k, hk, hg2, rfl, HZ⟩ := hrel
            by_cases hkx : k < nx
            · have d2 : ((k : Int) < (nx : Int)) = True := eq_true (by omega)
              obtain rfl := HEJ.out (by omega)
              have HC := Aside0.mk (HDJ.out k hkx wr HZ.out.1)
              go_wp2_with (go_at_call 10; refine HC.out.mono ?_; rintro e w1 ⟨rfl, HP⟩)
              go_roundg (nx - (k + 1))
              case measure => omega
              case rel => exact ⟨k + 1, by omega, by omega, by go_num, ⟨HP.out.1, HP.out.2.block _ _ _ HTT.out HZ.out.2.1, HZ.out.2.2.trans HP.out.2⟩⟩
            · have d2 : ((k : Int) < (nx : Int)) = False := eq_false (by omega)
              have hkn : k = nx := by omega
              have HKN := Aside0.mk hkn
              clear hkn hkx hk hg2
              go_wp2
              go_roundg (n1 - (j + 1))
              case measure => omega
              case rel =>
                refine ⟨j + 1, by omega, by omega, by go_num, ⟨?_, HZ.out.2.1, HZ.out.2.2⟩⟩
                rw [← HEM.out, ← HKN.out]
                exact HZ.out.1
        · have d1 : ((j : Int) < (n1 : Int)) = False := eq_false (by omega)
          have hjn : j = l.f1.length := by have := HN.out.2; omega
          have hI3 := HY.out.1
          rw [hjn, List.take_length] at hI3
          have HI3 := Aside0.mk hI3
          clear hjn hI3 hlt hj hg
          go_wp2
          exact ⟨rfl, .tuple #[], (by simp [results, Try.results9, go_sem]), rfl, ⟨HI3.out, HY.out.2.2⟩⟩

set_option maxHeartbeats 1000000 in
set_option maxRecDepth 100000 in
theorem each_meet (W : World) (ga gb : Nat) (T : List Nat) (hT : 36 ∉ T) (Inv : List S40 → World → Prop) (A0 A1 : Option Addr) (c0 c1 b0 o0 b1 o1 : Nat) (l : S36) (E : Nat → Option Addr) (ec eb eo : Nat → Nat)
    (h0 : 0 < l.f0.length → A0 = some ⟨b0, o0, none⟩) (h1 : 0 < l.f1.length → A1 = some ⟨b1, o1, none⟩) (hE : ∀ i (h : i < l.f1.length), 0 < l.f1[i].length → E i = some ⟨eb i, eo i, none⟩)
    (hesc : ∀ d w, Inv d w → ∀ i (h : i < l.f1.length), w.cell? ⟨b1, o1 + i, none⟩ = some (.slice (E i) l.f1[i].length (ec i)))
    (hmono : ∀ d w w', Inv d w → Below w.heap.size w w' → Inv d w')
    (hdo0 : ∀ i (h : i < l.f0.length) w, Inv (l.f0.take i) w → Calls Try.prog 13 #[.pointer (some ⟨b0, o0 + i * 9, none⟩), .pointer (some ⟨ga, 0, none⟩)] w fun e w' => e = .returned (.tuple #[]) ∧ Aside0 (Inv (l.f0.take (i + 1)) w' ∧ KeepT T w w'))
    (hdo1 : ∀ i (h : i < l.f1.length) k (hk : k < l.f1[i].length) w, Inv (l.f0 ++ (l.f1.take i).flatten ++ l.f1[i].take k) w → Calls Try.prog 13 #[.pointer (some ⟨eb i, eo i + k * 9, none⟩), .pointer (some ⟨ga, 0, none⟩)] w fun e w' => e = .returned (.tuple #[]) ∧ Aside0 (Inv (l.f0 ++ (l.f1.take i).flatten ++ l.f1[i].take (k + 1)) w' ∧ KeepT T w w'))
    (hl0 : l.f0.length ≤ 4611686018427387904) (hl1 : l.f1.length ≤ 4611686018427387904) (hl2 : ∀ i (h : i < l.f1.length), l.f1[i].length ≤ 4611686018427387904) (hI : Inv [] W) :
    Calls Try.prog 9 #[.agg #[.slice A0 l.f0.length c0, .slice A1 l.f1.length c1, .bool l.f2, .bool l.f3, .bool l.f4, .bool l.f5, .bool l.f6], .func (.func 13) #[] #[.pointer (some ⟨ga, 0, none⟩)]] W fun e w' => e = .returned (.tuple #[]) ∧ Aside0 (Inv (l.f0 ++ l.f1.flatten) w' ∧ KeepT T W w') := by
  have H0 := Aside0.mk h0
  have H1 := Aside0.mk h1
  have HE := Aside0.mk hE
  have HES := Aside0.mk hesc
  have HMO := Aside0.mk hmono
  have HD0 := Aside0.mk hdo0
  have HD1 := Aside0.mk hdo1
  have HL2 := Aside0.mk hl2
  have HI := Aside0.mk hI
  have HTT := Aside0.mk hT
  obtain ⟨n0, hn0⟩ : ∃ n0, n0 = l.f0.length := ⟨_, rfl⟩
  obtain ⟨n1, hn1⟩ : ∃ n1, n1 = l.f1.length := ⟨_, rfl⟩
  have HN := Aside0.mk (And.intro hn0 hn1)
  rw [← hn0] at hl0 ⊢
  rw [← hn1] at hl1 ⊢
  clear h0 h1 hE hesc hmono hdo0 hdo1 hl2 hI hT hn0 hn1
  go_enter Try.func9, Try.ntmps9
  go_wp2
  go_loopg [11] n0 (fun gg s11 wz => ∃ i : Nat, i ≤ n0 ∧ n0 - i ≤ gg ∧ s11 = .int .i64 i ∧ Aside0 (Inv (l.f0.take i) wz ∧ wz.heap[W.heap.size]? = some (.cells #[.slice A0 n0 c0, .slice A1 n1 c1, .bool l.f2, .bool l.f3, .bool l.f4, .bool l.f5, .bool l.f6] 36 (0, 0)) ∧ KeepT T W wz))
  case atStart => exact ⟨0, Nat.zero_le _, Nat.le_of_eq (Nat.sub_zero _), rfl, ⟨HMO.out _ _ _ HI.out (below_alloc (Below.refl _ _) _), blk_new _ _, (KeepT.refl _ _).alloc _⟩⟩
  case round =>
    obtain ⟨i, hi, hg, rfl, HW⟩ := hrel
    have cl0 := (blk_cell HW.out.2.1 0).trans rfl
    have cl1 := (blk_cell HW.out.2.1 1).trans rfl
    by_cases hlt : i < n0
    · have d0 : ((i : Int) < (n0 : Int)) = True := eq_true (by omega)
      obtain rfl := H0.out (by have := HN.out.1; omega)
      have HC := Aside0.mk (HD0.out i (by have := HN.out.1; omega) wr HW.out.1)
      go_wp2_with (go_at_call 13; refine HC.out.mono ?_; rintro e w1 ⟨rfl, HP⟩)
      go_roundg (n0 - (i + 1))
      case measure => omega
      case rel => exact ⟨i + 1, by omega, by omega, by go_num, ⟨HP.out.1, HP.out.2.block _ _ _ HTT.out HW.out.2.1, HW.out.2.2.trans HP.out.2⟩⟩
    · have d0 : ((i : Int) < (n0 : Int)) = False := eq_false (by omega)
      have hin : i = l.f0.length := by have := HN.out.1; omega
      have hI1 := HW.out.1
      rw [hin, List.take_length] at hI1
      have HI1 := Aside0.mk hI1
      clear hin hI1 hlt hg hi
      go_wp2
      go_loopg [24] n1 (fun gg s24 wz => ∃ i : Nat, i ≤ n1 ∧ n1 - i ≤ gg ∧ s24 = .int .i64 i ∧ Aside0 (Inv (l.f0 ++ (l.f1.take i).flatten) wz ∧ wz.heap[W.heap.size]? = some (.cells #[.slice A0 n0 c0, .slice A1 n1 c1, .bool l.f2, .bool l.f3, .bool l.f4, .bool l.f5, .bool l.f6] 36 (0, 0)) ∧ KeepT T W wz))
      case atStart => exact ⟨0, Nat.zero_le _, Nat.le_of_eq (Nat.sub_zero _), rfl, ⟨by simpa using HI1.out, HW.out.2.1, HW.out.2.2⟩⟩
      case round =>
        clear cl0 cl1
        obtain ⟨j, hj, hg, rfl, HY⟩ := hrel
        by_cases hlt : j < n1
        · have d1 : ((j : Int) < (n1 : Int)) = True := eq_true (by omega)
          have hjl : j < l.f1.length := by have := HN.out.2; omega
          obtain rfl := H1.out (by omega)
          have hcell := HES.out _ _ HY.out.1 j hjl
          have HDJ := Aside0.mk (HD1.out j hjl)
          have HEJ := Aside0.mk (HE.out j hjl)
          have hlj := HL2.out j hjl
          have HEM := Aside0.mk (esc_more l j hjl)
          have HI2 := Aside0.mk (show Inv (l.f0 ++ (l.f1.take j).flatten ++ l.f1[j].take 0) wr by simpa using HY.out.1)
          generalize l.f1[j] = x at hcell HDJ HEJ hlj HEM HI2
          generalize E j = Ej at hcell HEJ
          obtain ⟨nx, hnx⟩ : ∃ nx, nx = x.length := ⟨_, rfl⟩
          rw [← hnx] at hcell HDJ HEJ hlj HEM
          have HNX := Aside0.mk hnx
          clear hnx hjl
          go_wp2
          go_loopg [30] nx (fun gg s30 wz => ∃ k : Nat, k ≤ nx ∧ nx - k ≤ gg ∧ s30 = .int .i64 k ∧ Aside0 (Inv (l.f0 ++ (l.f1.take j).flatten ++ x.take k) wz ∧ wz.heap[W.heap.size]? = some (.cells #[.slice A0 n0 c0, .slice (some ⟨b1, o1, none⟩) n1 c1, .bool l.f2, .bool l.f3, .bool l.f4, .bool l.f5, .bool l.f6] 36 (0, 0)) ∧ KeepT T W wz))
          case atStart => exact ⟨0, Nat.zero_le _, Nat.le_of_eq (Nat.sub_zero _), rfl, ⟨HI2.out, HY.out.2.1, HY.out.2.2⟩⟩
          case round =>
            obtain ⟨k, hk, hg2, rfl, HZ⟩ := hrel
            by_cases hkx : k < nx
            · have d2 : ((k : Int) < (nx : Int)) = True := eq_true (by omega)
              obtain rfl := HEJ.out (by omega)
              have HC := Aside0.mk (HDJ.out k hkx wr HZ.out.1)
              go_wp2_with (go_at_call 13; refine HC.out.mono ?_; rintro e w1 ⟨rfl, HP⟩)
              go_roundg (nx - (k + 1))
              case measure => omega
              case rel => exact ⟨k + 1, by omega, by omega, by go_num, ⟨HP.out.1, HP.out.2.block _ _ _ HTT.out HZ.out.2.1, HZ.out.2.2.trans HP.out.2⟩⟩
            · have d2 : ((k : Int) < (nx : Int)) = False := eq_false (by omega)
              have hkn : k = nx := by omega
              have HKN := Aside0.mk hkn
              clear hkn hkx hk hg2
              go_wp2
              go_roundg (n1 - (j + 1))
              case measure => omega
              case rel =>
                refine ⟨j + 1, by omega, by omega, by go_num, ⟨?_, HZ.out.2.1, HZ.out.2.2⟩⟩
                rw [← HEM.out, ← HKN.out]
                exact HZ.out.1
        · have d1 : ((j : Int) < (n1 : Int)) = False := eq_false (by omega)
          have hjn : j = l.f1.length := by have := HN.out.2; omega
          have hI3 := HY.out.1
          rw [hjn, List.take_length] at hI3
          have HI3 := Aside0.mk hI3
          clear hjn hI3 hlt hj hg
          go_wp2
          exact ⟨rfl, .tuple #[], (by simp [results, Try.results9, go_sem]), rfl, ⟨HI3.out, HY.out.2.2⟩⟩

set_option maxHeartbeats 1000000 in
set_option maxRecDepth 100000 in
theorem each_number (W : World) (ga gb : Nat) (T : List Nat) (hT : 36 ∉ T) (Inv : List S40 → World → Prop) (A0 A1 : Option Addr) (c0 c1 b0 o0 b1 o1 : Nat) (l : S36) (E : Nat → Option Addr) (ec eb eo : Nat → Nat)
    (h0 : 0 < l.f0.length → A0 = some ⟨b0, o0, none⟩) (h1 : 0 < l.f1.length → A1 = some ⟨b1, o1, none⟩) (hE : ∀ i (h : i < l.f1.length), 0 < l.f1[i].length → E i = some ⟨eb i, eo i, none⟩)
    (hesc : ∀ d w, Inv d w → ∀ i (h : i < l.f1.length), w.cell? ⟨b1, o1 + i, none⟩ = some (.slice (E i) l.f1[i].length (ec i)))
    (hmono : ∀ d w w', Inv d w → Below w.heap.size w w' → Inv d w')
    (hdo0 : ∀ i (h : i < l.f0.length) w, Inv (l.f0.take i) w → Calls Try.prog 15 #[.pointer (some ⟨b0, o0 + i * 9, none⟩), .pointer (some ⟨ga, 0, none⟩)] w fun e w' => e = .returned (.tuple #[]) ∧ Aside0 (Inv (l.f0.take (i + 1)) w' ∧ KeepT T w w'))
    (hdo1 : ∀ i (h : i < l.f1.length) k (hk : k < l.f1[i].length) w, Inv (l.f0 ++ (l.f1.take i).flatten ++ l.f1[i].take k) w → Calls Try.prog 15 #[.pointer (some ⟨eb i, eo i + k * 9, none⟩), .pointer (some ⟨ga, 0, none⟩)] w fun e w' => e = .returned (.tuple #[]) ∧ Aside0 (Inv (l.f0 ++ (l.f1.take i).flatten ++ l.f1[i].take (k + 1)) w' ∧ KeepT T w w'))
    (hl0 : l.f0.length ≤ 4611686018427387904) (hl1 : l.f1.length ≤ 4611686018427387904) (hl2 : ∀ i (h : i < l.f1.length), l.f1[i].length ≤ 4611686018427387904) (hI : Inv [] W) :
    Calls Try.prog 9 #[.agg #[.slice A0 l.f0.length c0, .slice A1 l.f1.length c1, .bool l.f2, .bool l.f3, .bool l.f4, .bool l.f5, .bool l.f6], .func (.func 15) #[] #[.pointer (some ⟨ga, 0, none⟩)]] W fun e w' => e = .returned (.tuple #[]) ∧ Aside0 (Inv (l.f0 ++ l.f1.flatten) w' ∧ KeepT T W w') := by
  have H0 := Aside0.mk h0
  have H1 := Aside0.mk h1
  have HE := Aside0.mk hE
  have HES := Aside0.mk hesc
  have HMO := Aside0.mk hmono
  have HD0 := Aside0.mk hdo0
  have HD1 := Aside0.mk hdo1
  have HL2 := Aside0.mk hl2
  have HI := Aside0.mk hI
  have HTT := Aside0.mk hT
  obtain ⟨n0, hn0⟩ : ∃ n0, n0 = l.f0.length := ⟨_, rfl⟩
  obtain ⟨n1, hn1⟩ : ∃ n1, n1 = l.f1.length := ⟨_, rfl⟩
  have HN := Aside0.mk (And.intro hn0 hn1)
  rw [← hn0] at hl0 ⊢
  rw [← hn1] at hl1 ⊢
  clear h0 h1 hE hesc hmono hdo0 hdo1 hl2 hI hT hn0 hn1
  go_enter Try.func9, Try.ntmps9
  go_wp2
  go_loopg [11] n0 (fun gg s11 wz => ∃ i : Nat, i ≤ n0 ∧ n0 - i ≤ gg ∧ s11 = .int .i64 i ∧ Aside0 (Inv (l.f0.take i) wz ∧ wz.heap[W.heap.size]? = some (.cells #[.slice A0 n0 c0, .slice A1 n1 c1, .bool l.f2, .bool l.f3, .bool l.f4, .bool l.f5, .bool l.f6] 36 (0, 0)) ∧ KeepT T W wz))
  case atStart => exact ⟨0, Nat.zero_le _, Nat.le_of_eq (Nat.sub_zero _), rfl, ⟨HMO.out _ _ _ HI.out (below_alloc (Below.refl _ _) _), blk_new _ _, (KeepT.refl _ _).alloc _⟩⟩
  case round =>
    obtain ⟨i, hi, hg, rfl, HW⟩ := hrel
    have cl0 := (blk_cell HW.out.2.1 0).trans rfl
    have cl1 := (blk_cell HW.out.2.1 1).trans rfl
    by_cases hlt : i < n0
    · have d0 : ((i : Int) < (n0 : Int)) = True := eq_true (by omega)
      obtain rfl := H0.out (by have := HN.out.1; omega)
      have HC := Aside0.mk (HD0.out i (by have := HN.out.1; omega) wr HW.out.1)
      go_wp2_with (go_at_call 15; refine HC.out.mono ?_; rintro e w1 ⟨rfl, HP⟩)
      go_roundg (n0 - (i + 1))
      case measure => omega
      case rel => exact ⟨i + 1, by omega, by omega, by go_num, ⟨HP.out.1, HP.out.2.block _ _ _ HTT.out HW.out.2.1, HW.out.2.2.trans HP.out.2⟩⟩
    · have d0 : ((i : Int) < (n0 : Int)) = False := eq_false (by omega)
      have hin : i = l.f0.length := by have := HN.out.1; omega
      have hI1 := HW.out.1
      rw [hin, List.take_length] at hI1
      have HI1 := Aside0.mk hI1
      clear hin hI1 hlt hg hi
      go_wp2
      go_loopg [24] n1 (fun gg s24 wz => ∃ i : Nat, i ≤ n1 ∧ n1 - i ≤ gg ∧ s24 = .int .i64 i ∧ Aside0 (Inv (l.f0 ++ (l.f1.take i).flatten) wz ∧ wz.heap[W.heap.size]? = some (.cells #[.slice A0 n0 c0, .slice A1 n1 c1, .bool l.f2, .bool l.f3, .bool l.f4, .bool l.f5, .bool l.f6] 36 (0, 0)) ∧ KeepT T W wz))
      case atStart => exact ⟨0, Nat.zero_le _, Nat.le_of_eq (Nat.sub_zero _), rfl, ⟨by simpa using HI1.out, HW.out.2.1, HW.out.2.2⟩⟩
      case round =>
        clear cl0 cl1
        obtain ⟨j, hj, hg, rfl, HY⟩ := hrel
        by_cases hlt : j < n1
        · have d1 : ((j : Int) < (n1 : Int)) = True := eq_true (by omega)
          have hjl : j < l.f1.length := by have := HN.out.2; omega
          obtain rfl := H1.out (by omega)
          have hcell := HES.out _ _ HY.out.1 j hjl
          have HDJ := Aside0.mk (HD1.out j hjl)
          have HEJ := Aside0.mk (HE.out j hjl)
          have hlj := HL2.out j hjl
          have HEM := Aside0.mk (esc_more l j hjl)
          have HI2 := Aside0.mk (show Inv (l.f0 ++ (l.f1.take j).flatten ++ l.f1[j].take 0) wr by simpa using HY.out.1)
          generalize l.f1[j] = x at hcell HDJ HEJ hlj HEM HI2
          generalize E j = Ej at hcell HEJ
          obtain ⟨nx, hnx⟩ : ∃ nx, nx = x.length := ⟨_, rfl⟩
          rw [← hnx] at hcell HDJ HEJ hlj HEM
          have HNX := Aside0.mk hnx
          clear hnx hjl
          go_wp2
          go_loopg [30] nx (fun gg s30 wz => ∃ k : Nat, k ≤ nx ∧ nx - k ≤ gg ∧ s30 = .int .i64 k ∧ Aside0 (Inv (l.f0 ++ (l.f1.take j).flatten ++ x.take k) wz ∧ wz.heap[W.heap.size]? = some (.cells #[.slice A0 n0 c0, .slice (some ⟨b1, o1, none⟩) n1 c1, .bool l.f2, .bool l.f3, .bool l.f4, .bool l.f5, .bool l.f6] 36 (0, 0)) ∧ KeepT T W wz))
          case atStart => exact ⟨0, Nat.zero_le _, Nat.le_of_eq (Nat.sub_zero _), rfl, ⟨HI2.out, HY.out.2.1, HY.out.2.2⟩⟩
          case round =>
            obtain ⟨k, hk, hg2, rfl, HZ⟩ := hrel
            by_cases hkx : k < nx
            · have d2 : ((k : Int) < (nx : Int)) = True := eq_true (by omega)
              obtain rfl := HEJ.out (by omega)
              have HC := Aside0.mk (HDJ.out k hkx wr HZ.out.1)
              go_wp2_with (go_at_call 15; refine HC.out.mono ?_; rintro e w1 ⟨rfl, HP⟩)
              go_roundg (nx - (k + 1))
              case measure => omega
              case rel => exact ⟨k + 1, by omega, by omega, by go_num, ⟨HP.out.1, HP.out.2.block _ _ _ HTT.out HZ.out.2.1, HZ.out.2.2.trans HP.out.2⟩⟩
            · have d2 : ((k : Int) < (nx : Int)) = False := eq_false (by omega)
              have hkn : k = nx := by omega
              have HKN := Aside0.mk hkn
              clear hkn hkx hk hg2
              go_wp2
              go_roundg (n1 - (j + 1))
              case measure => omega
              case rel =>
                refine ⟨j + 1, by omega, by omega, by go_num, ⟨?_, HZ.out.2.1, HZ.out.2.2⟩⟩
                rw [← HEM.out, ← HKN.out]
                exact HZ.out.1
        · have d1 : ((j : Int) < (n1 : Int)) = False := eq_false (by omega)
          have hjn : j = l.f1.length := by have := HN.out.2; omega
          have hI3 := HY.out.1
          rw [hjn, List.take_length] at hI3
          have HI3 := Aside0.mk hI3
          clear hjn hI3 hlt hj hg
          go_wp2
          exact ⟨rfl, .tuple #[], (by simp [results, Try.results9, go_sem]), rfl, ⟨HI3.out, HY.out.2.2⟩⟩
end Go.Proofs.Ytgnpmcnmcbgdcaa.Aw
