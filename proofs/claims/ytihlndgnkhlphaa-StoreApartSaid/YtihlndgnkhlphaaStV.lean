/- The statement StoreApart's walk: every text has one number, every number one text. Condition: texts are at most 2^63 - 1 bytes. -/
import Derived.Test.YtihlndgnkhlphaaStN
namespace Go.Proofs.Ytihlndgnkhlphaa.St
open Go.RowKit Go.Proofs.YtihlndgnkhlphaaW.PrintWords Go.Proofs.YtihlndgnkhlphaaW.PrintLast Go.Proofs.YtihlndgnkhlphaaW.PrintMore Go.Proofs.Ytihlndgnkhlphaa.PStorePlays

/-- What holds at each round's head of the first loop. -/
def ApartAt (b g : Nat) (w0 : World) (l : List ByteArray) (k : Nat) (wr : World) : Prop :=
  k ≤ l.length ∧ k ≤ 3000 ∧ ∃ L B, Own wr b g 20000 L B ∧ Fr b w0 wr ∧ L.length ≤ k ∧ ∀ j : Nat, j < k → ∃ n : Nat, L[n]? = l[j]?

/-- .. of the second one. -/
def ApartAt2 (b g : Nat) (w0 : World) (l : List ByteArray) (K k : Nat) (wr : World) : Prop :=
  k ≤ K ∧ K ≤ l.length ∧ ∃ L B, Own wr b g 20000 L B ∧ Fr b w0 wr ∧ ∀ j : Nat, j < K → ∃ n : Nat, L[n]? = l[j]?

theorem apart_more {L l : List ByteArray} {k : Nat} (h : ∀ j : Nat, j < k → ∃ n : Nat, L[n]? = l[j]?) (hk : k < l.length) : ∀ j : Nat, j < k + 1 → ∃ n : Nat, (L ++ [l[k]])[n]? = l[j]? := by
  intro j hj
  rcases Nat.lt_succ_iff_lt_or_eq.1 hj with h' | h'
  · obtain ⟨n, hn⟩ := h j h'
    rw [List.getElem?_eq_getElem (show j < l.length by omega)] at hn
    have hl := (List.getElem?_eq_some_iff.1 hn).1
    exact ⟨n, by rw [List.getElem?_append_left hl, hn, List.getElem?_eq_getElem (show j < l.length by omega)]⟩
  · subst h'
    exact ⟨L.length, by simp [List.getElem?_eq_getElem hk]⟩

set_option maxHeartbeats 1600000 in
set_option maxRecDepth 100000 in
theorem apart_walk (w : World) (A : Option Addr) (cap : Nat) (l : List ByteArray) (_hmax : l.length ≤ 9223372036854775807) (hA : ∀ (i : Nat) (k : ByteArray), l[i]? = some k → ∃ ad : Addr, A = some ad ∧ ad.block < w.heap.size ∧ w.cell? (ad.add i) = some (.string k)) (hk : ∀ k, k ∈ l → k.size ≤ 9223372036854775807) :
    Calls Try.prog 4 #[.slice A l.length cap] w fun e w' => e = .returned (.bool true) ∧ Below w.heap.size w w' := by
  have HA := Aside0.mk hA
  have HK := Aside0.mk hk
  clear hA hk
  have T0 : True := trivial
  go_enter Try.func4, Try.ntmps4
  go_wp2_with (first
    | (go_at_call 6; have t_ := T0; refine (shown_walk _).mono ?_; rintro e w1 ⟨rfl, hb1⟩; clear T0 t_)
    | (go_at_call 7; refine (new_spec w1 w1.heap.size (Nat.le_refl _) 20000 (by omega) (by omega)).mono ?_; rintro e w2 ⟨g, rfl, ho, hb2, _⟩; have H0 := Held.mk ho (Fr.of_below hb2 (Nat.le_refl _)); clear ho hb2))
  go_loopw [6] (fun i wr => ∃ k : Nat, i = .int .i64 (k : Int) ∧ ApartAt w1.heap.size g w1 l k wr) (fun i _ => l.length - (intOf i).toNat)
  case atStart => exact ⟨0, rfl, Nat.zero_le _, by omega, [], [], H0.own, H0.fr, by simp, fun j hj => by omega⟩
  case round =>
    obtain ⟨k, rfl, hl, h3, L, B, ho, hf, hLk, hin⟩ := hrel
    clear H0
    by_cases h1 : k < l.length
    · by_cases h2 : k < 3000
      · obtain ⟨ad, rfl, had, hc⟩ := HA.out k l[k] (List.getElem?_eq_getElem h1)
        have HC0 := Aside0.mk hc
        have hc' : wr.cell? (ad.add k) = some (.string l[k]) := (hf.below.cell (p := ad.add k) (by rw [add_block]; exact Nat.lt_of_lt_of_le had hb1.size)).trans ((hb1.cell (p := ad.add k) (by rw [add_block]; exact had)).trans hc)
        have hks := HK.out _ (List.getElem_mem h1)
        clear hc
        have HC := Aside0.mk (fun (wx : World) (hx : Fr w1.heap.size w1 wx) => ((hx.below.cell (p := ad.add k) (by rw [add_block]; exact Nat.lt_of_lt_of_le had hb1.size)).trans ((hb1.cell (p := ad.add k) (by rw [add_block]; exact had)).trans (HC0.out)) : wx.cell? (ad.add k) = some (.string l[k])))
        clear HC0
        have S0 := Held.mk ho hf
        have HI := Aside0.mk hin
        have HL := Aside0.mk hLk
        clear ho hf hin
        by_cases hex : ∃ n : Nat, L[n]? = some l[k]
        · obtain ⟨n, hn0⟩ := hex
          have hn := Aside0.mk hn0
          have hnl := (List.getElem?_eq_some_iff.1 hn0).1
          clear hn0
          have b0 : ((n : Int) == (L.length : Int)) = false := by simp; omega
          have b0' : (n == L.length) = false := by simp; omega
          have b1 : decide ((L.length : Int) < (n : Int)) = false := decide_eq_false (by omega)
          have b1' : decide (L.length < n) = false := decide_eq_false (by omega)
          go_wp2_with (first
            | (go_at_call 10; refine (len_spec S0.own).mono ?_; rintro e w' ⟨rfl, rfl⟩)
            | (go_at_call 11; have t_ := S0; refine (put_there_spec S0.own l[k] n hks hn.out).mono ?_; rintro e w3 ⟨rfl, ho3, hf3⟩; have S1 := Held.mk ho3 (S0.fr.trans hf3); have hc3 := HC.out _ S1.fr; clear S0 t_ ho3 hf3)
            | (go_at_call 12; refine (key_in_spec S1.own hn.out).mono ?_; rintro e w' ⟨rfl, rfl⟩)
            | (go_at_call 13; have t_ := S1; refine (find_there_spec S1.own l[k] n hks hn.out).mono ?_; rintro e w4 ⟨rfl, ho4, hf4⟩; have S2 := Held.mk ho4 (S1.fr.trans hf4); have hc4 := HC.out _ S2.fr; clear S1 t_ ho4 hf4 hc3))
          go_roundw
          case rel => exact ⟨k + 1, by go_num, by omega, by omega, L, B, S2.own, S2.fr, by omega, fun j hj => (Nat.lt_succ_iff_lt_or_eq.1 hj).elim (fun h => HI.out j h) (fun h => by subst h; exact ⟨n, by rw [hn.out, List.getElem?_eq_getElem h1]⟩)⟩
          case measure => simp [intOf]; omega
        · have hn : ∀ n : Nat, L[n]? ≠ some l[k] := fun n h => hex ⟨n, h⟩
          have hn' : (L ++ [l[k]])[L.length]? = some l[k] := by simp
          have HN := Aside0.mk hn'
          have HX := Aside0.mk hn
          clear hex hn hn'
          have b1 : decide ((L.length : Int) < (L.length : Int)) = false := by simp
          go_wp2_with (first
            | (go_at_call 10; refine (len_spec S0.own).mono ?_; rintro e w' ⟨rfl, rfl⟩)
            | (go_at_call 11; have t_ := S0; refine (put_new_spec S0.own l[k] hks HX.out (by show L.length < 20000; omega)).mono ?_; rintro e w3 ⟨rfl, ho3, hf3⟩; have S1 := Held.mk ho3 (S0.fr.trans hf3); have hc3 := HC.out _ S1.fr; clear S0 t_ ho3 hf3)
            | (go_at_call 12; refine (key_in_spec S1.own HN.out).mono ?_; rintro e w' ⟨rfl, rfl⟩)
            | (go_at_call 13; have t_ := S1; refine (find_there_spec S1.own l[k] L.length hks HN.out).mono ?_; rintro e w4 ⟨rfl, ho4, hf4⟩; have S2 := Held.mk ho4 (S1.fr.trans hf4); have hc4 := HC.out _ S2.fr; clear S1 t_ ho4 hf4 hc3))
          go_roundw
          case rel => exact ⟨k + 1, by go_num, by omega, by omega, _, _, S2.own, S2.fr, by simp; omega, apart_more HI.out h1⟩
          case measure => simp [intOf]; omega
      · have hs := Aside0.mk (show ApartAt2 w1.heap.size g w1 l k 0 wr from ⟨Nat.zero_le _, hl, L, B, ho, hf, hin⟩)
        have b0 : decide ((k : Int) < 3000) = false := decide_eq_false (by omega)
        clear ho hf hin
        go_wp2
        go_loopw [15] (fun i wr => ∃ m : Nat, i = .int .i64 (m : Int) ∧ ApartAt2 w1.heap.size g w1 l k m wr) (fun i _ => k - (intOf i).toNat)
        case atStart => exact ⟨0, rfl, hs.out⟩
        case round =>
          obtain ⟨m, rfl, hm, hkl, L2, B2, ho, hf, hin⟩ := hrel
          clear hs
          have S0 := Held.mk ho hf
          have HI := Aside0.mk hin
          clear ho hf hin
          by_cases hlt : m < k
          · obtain ⟨ad, rfl, had, hc⟩ := HA.out m l[m] (List.getElem?_eq_getElem (by omega))
            have HC0 := Aside0.mk hc
            clear hc
            have HC := Aside0.mk (fun (wx : World) (hx : Fr w1.heap.size w1 wx) => ((hx.below.cell (p := ad.add m) (by rw [add_block]; exact Nat.lt_of_lt_of_le had hb1.size)).trans ((hb1.cell (p := ad.add m) (by rw [add_block]; exact had)).trans (HC0.out)) : wx.cell? (ad.add m) = some (.string (l[m]'(by omega)))))
            clear HC0
            have hc' := HC.out _ S0.fr
            have hks := HK.out _ (List.getElem_mem (show m < l.length by omega))
            obtain ⟨n, hn0⟩ := HI.out m hlt
            rw [List.getElem?_eq_getElem (show m < l.length by omega)] at hn0
            have hn := Aside0.mk hn0
            clear hn0
            have hml : m < l.length := by omega
            have hm3 : m < 3000 := by omega
            go_wp2_with (first
              | (go_at_call 13; have t_ := S0; refine (find_there_spec S0.own _ n hks hn.out).mono ?_; rintro e w4 ⟨rfl, ho4, hf4⟩; have S2 := Held.mk ho4 (S0.fr.trans hf4); have hc4 := HC.out _ S2.fr; clear S0 t_ ho4 hf4 hc')
              | (go_at_call 12; refine (key_in_spec S2.own hn.out).mono ?_; rintro e w' ⟨rfl, rfl⟩))
            go_roundw
            case rel => exact ⟨m + 1, by go_num, by omega, hkl, _, _, S2.own, S2.fr, HI.out⟩
            case measure => simp [intOf]; omega
          · have bm0 : decide ((m : Int) < 3000) = false := decide_eq_false (by omega)
            have hml : m < l.length := by omega
            go_wp2
            go_ret
            exact ⟨rfl, hb1.trans (S0.fr.below.mono hb1.size)⟩
    · have hs := Aside0.mk (show ApartAt2 w1.heap.size g w1 l k 0 wr from ⟨Nat.zero_le _, hl, L, B, ho, hf, hin⟩)
      have b0 : decide ((k : Int) < (l.length : Int)) = false := decide_eq_false (by omega)
      have b1 : decide (k < l.length) = false := decide_eq_false h1
      clear ho hf hin
      go_wp2
      go_loopw [15] (fun i wr => ∃ m : Nat, i = .int .i64 (m : Int) ∧ ApartAt2 w1.heap.size g w1 l k m wr) (fun i _ => k - (intOf i).toNat)
      case atStart => exact ⟨0, rfl, hs.out⟩
      case round =>
        obtain ⟨m, rfl, hm, hkl, L2, B2, ho, hf, hin⟩ := hrel
        clear hs
        have S0 := Held.mk ho hf
        have HI := Aside0.mk hin
        clear ho hf hin
        by_cases hlt : m < k
        · obtain ⟨ad, rfl, had, hc⟩ := HA.out m l[m] (List.getElem?_eq_getElem (by omega))
          have HC0 := Aside0.mk hc
          clear hc
          have HC := Aside0.mk (fun (wx : World) (hx : Fr w1.heap.size w1 wx) => ((hx.below.cell (p := ad.add m) (by rw [add_block]; exact Nat.lt_of_lt_of_le had hb1.size)).trans ((hb1.cell (p := ad.add m) (by rw [add_block]; exact had)).trans (HC0.out)) : wx.cell? (ad.add m) = some (.string (l[m]'(by omega)))))
          clear HC0
          have hc' := HC.out _ S0.fr
          have hks := HK.out _ (List.getElem_mem (show m < l.length by omega))
          obtain ⟨n, hn0⟩ := HI.out m hlt
          rw [List.getElem?_eq_getElem (show m < l.length by omega)] at hn0
          have hn := Aside0.mk hn0
          clear hn0
          have hml : m < l.length := by omega
          have hm3 : m < 3000 := by omega
          go_wp2_with (first
            | (go_at_call 13; have t_ := S0; refine (find_there_spec S0.own _ n hks hn.out).mono ?_; rintro e w4 ⟨rfl, ho4, hf4⟩; have S2 := Held.mk ho4 (S0.fr.trans hf4); have hc4 := HC.out _ S2.fr; clear S0 t_ ho4 hf4 hc')
            | (go_at_call 12; refine (key_in_spec S2.own hn.out).mono ?_; rintro e w' ⟨rfl, rfl⟩))
          go_roundw
          case rel => exact ⟨m + 1, by go_num, by omega, hkl, _, _, S2.own, S2.fr, HI.out⟩
          case measure => simp [intOf]; omega
        · have bm0 : decide ((m : Int) < (l.length : Int)) = false := decide_eq_false (by omega)
          have bm1 : decide (m < l.length) = false := decide_eq_false (by omega)
          go_wp2
          go_ret
          exact ⟨rfl, hb1.trans (S0.fr.below.mono hb1.size)⟩
end Go.Proofs.Ytihlndgnkhlphaa.St
