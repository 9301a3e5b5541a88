/- The statement StorePlays' walk: whatever is put, asked and marked, in whatever order, all is answered as the document says. Condition: texts are at most 2^63 - 1 bytes. -/
import Derived.Test.YtihlndgnkhlphaaStE
namespace Go.Proofs.Ytihlndgnkhlphaa.St
open Go.RowKit Go.Proofs.YtihlndgnkhlphaaW.PrintWords Go.Proofs.YtihlndgnkhlphaaW.PrintLast Go.Proofs.YtihlndgnkhlphaaW.PrintMore Go.Proofs.Ytihlndgnkhlphaa.PStorePlays

/-- An act. -/
structure ActD where
  kind : Int
  n : Int
  key : ByteArray
  y : Int

theorem does_all (w : World) (b g h : Nat) (most : Int) (L : List ByteArray) (B : List Int) (a : ActD) (ho : Own w b g most L B) (hr : RIn w b h most (L.zip B)) (hk : a.key.size ≤ 9223372036854775807) :
    Calls Try.prog 9 #[.pointer (some ⟨g, 0, none⟩), .pointer (some ⟨h, 0, none⟩), .agg #[.int .i64 a.kind, .int .i64 a.n, .string a.key, .int .u64 a.y]] w (Did b w g h most) := by
  obtain ⟨kind, n, key, y⟩ := a
  by_cases h1 : kind = 1
  · subst h1
    by_cases hex : ∃ m : Nat, L[m]? = some key
    · obtain ⟨m, hm⟩ := hex
      exact does_put_there w b g h most L B n key y ho hr hk m hm
    · have hn : ∀ j : Nat, L[j]? ≠ some key := fun j hj => hex ⟨j, hj⟩
      by_cases hm : L.length < most.toNat
      · exact does_put_new w b g h most L B n key y ho hr hk hn hm
      · exact does_put_full w b g h most L B n key y ho hr hk hn hm
  by_cases h2 : kind = 2
  · subst h2
    by_cases hex : ∃ m : Nat, L[m]? = some key
    · obtain ⟨m, hm⟩ := hex
      exact does_find_there w b g h most L B n key y ho hr hk m hm
    · exact does_find_none w b g h most L B n key y ho hr hk (fun j hj => hex ⟨j, hj⟩)
  have split : (∃ m : Nat, n = (m : Int) ∧ m < L.length) ∨ ¬ (0 ≤ n ∧ n < L.length) := by
    by_cases hh : 0 ≤ n ∧ n < L.length
    · exact Or.inl ⟨n.toNat, by omega, by omega⟩
    · exact Or.inr hh
  by_cases h3 : kind = 3
  · subst h3
    rcases split with ⟨m, rfl, hm⟩ | hh
    · exact does_mark_in w b g h most L B m key y ho hr hk hm
    · exact does_mark_out w b g h most L B n key y ho hr hk hh
  by_cases h4 : kind = 4
  · subst h4
    rcases split with ⟨m, rfl, hm⟩ | hh
    · exact does_clear_in w b g h most L B m key y ho hr hk hm
    · exact does_clear_out w b g h most L B n key y ho hr hk hh
  by_cases h5 : kind = 5
  · subst h5
    rcases split with ⟨m, rfl, hm⟩ | hh
    · exact does_key_in w b g h most L B m key y ho hr hk hm
    · exact does_key_out w b g h most L B n key y ho hr hk hh
  exact does_other w b g h most L B n key y ho hr hk kind (by omega)

theorem r_start (w : World) (b : Nat) (hb : b ≤ w.heap.size) (most : Int) : RIn (w.alloc (.cells #[.int .i64 most, .slice none 0 0] 32)) b w.heap.size most [] := by
  have hB : Below w.heap.size w (w.alloc (.cells #[.int .i64 most, .slice none 0 0] 32)) := below_alloc (Below.refl _ _) _
  exact ⟨Nat.le_trans hb hB.size, .slice none 0 0, heap_alloc_new _ _, hb, own_nil _ _ _ _⟩

theorem RIn.len_cell {w : World} {b h : Nat} {most : Int} {L : List ByteArray} {B : List Int} (H : RIn w b h most (L.zip B)) (hl : B.length = L.length) : ∃ A c, w.cell? ⟨h, 1, none⟩ = some (.slice A L.length c) := by
  obtain ⟨A, c, _, h1, _⟩ := H.cells
  rw [zip_len hl] at h1
  exact ⟨A, c, h1⟩

/-- What holds at each round's head. -/
def PlaysAt (b g h : Nat) (w0 : World) (most : Int) (wr : World) : Prop := ∃ L B, Own wr b g most L B ∧ RIn wr b h most (L.zip B) ∧ Below b w0 wr

set_option maxHeartbeats 800000 in
set_option maxRecDepth 100000 in
theorem plays_walk (w : World) (most : Int) (A : Option Addr) (cap : Nat) (l : List ActD) (hlen : l.length ≤ 9223372036854775807)
    (hA : ∀ (i : Nat) (a : ActD), l[i]? = some a → ∃ b off : Nat, A = some ⟨b, off, none⟩ ∧ b < w.heap.size ∧ w.cell? ⟨b, off + i * 4, none⟩ = some (.int .i64 a.kind) ∧ w.cell? ⟨b, off + i * 4 + 1, none⟩ = some (.int .i64 a.n) ∧ w.cell? ⟨b, off + i * 4 + 2, none⟩ = some (.string a.key) ∧ w.cell? ⟨b, off + i * 4 + 3, none⟩ = some (.int .u64 a.y))
    (hk : ∀ a, a ∈ l → a.key.size ≤ 9223372036854775807) (h0 : 1 ≤ most) (h1 : most ≤ 20000) :
    Calls Try.prog 3 #[.int .i64 most, .slice A l.length cap] w fun e w' => e = .returned (.bool true) ∧ Below w.heap.size w w' := by
  have HA := Aside0.mk hA
  have HK := Aside0.mk hk
  have HT := Aside0.mk (show spinneretref18_Takes.f most = some true by unfold spinneretref18_Takes.f; rw [if_pos (by omega)]; simp [h1])
  clear hA hk
  go_enter Try.func3, Try.ntmps3
  go_wp2_with (first
    | (go_at_call 6; refine (shown_walk _).mono ?_; rintro e w1 ⟨rfl, hb1⟩)
    | (go_at_call 7; refine (new_spec w1 w1.heap.size (Nat.le_refl _) most h0 h1).mono ?_; rintro e w2 ⟨g, rfl, ho, hb2, _⟩)
    | (go_at_call 8; refine (spinneretref18_Takes.calls _ _ _ HT.out).mono ?_; rintro e w3 ⟨rfl, ⟨nd, rfl⟩⟩))
  have hst : PlaysAt w1.heap.size g w2.heap.size w1 most ((w2.drewN nd).alloc (.cells #[.int .i64 most, .slice none 0 0] 32)) := by
    have hB : Below w2.heap.size w2 ((w2.drewN nd).alloc (.cells #[.int .i64 most, .slice none 0 0] 32)) := below_alloc (pw_below_drewN (Below.refl _ _) nd) _
    refine ⟨[], [], ho.below hB, ?_, hb2.trans (hB.mono hb2.size)⟩
    exact r_start (w2.drewN nd) w1.heap.size hb2.size most
  have HS := Aside0.mk hst
  clear hst ho
  go_loopw [10] (fun i wr => ∃ k : Nat, i = .int .i64 (k : Int) ∧ k ≤ l.length ∧ PlaysAt w1.heap.size g w2.heap.size w1 most wr) (fun i _ => l.length - (intOf i).toNat)
  case atStart => exact ⟨0, rfl, Nat.zero_le _, HS.out⟩
  case round =>
    obtain ⟨k, rfl, hkl, L, B, ho, hr, hb⟩ := hrel
    clear HS
    have HO := Aside0.mk ho
    have HR := Aside0.mk hr
    clear ho hr
    by_cases hlt : k < l.length
    · obtain ⟨bA, off, rfl, hbA, k0, k1, k2, k3⟩ := HA.out k _ (List.getElem?_eq_getElem hlt)
      have HX := fun (p : Addr) (hp : p.block = bA) => ((hb.cell (p := p) (by rw [hp]; exact Nat.lt_of_lt_of_le hbA hb1.size)).trans (hb1.cell (p := p) (by rw [hp]; exact hbA)) : wr.cell? p = w.cell? p)
      have j0 := (HX ⟨bA, off + k * 4, none⟩ rfl).trans k0
      have j1 := (HX ⟨bA, off + k * 4 + 1, none⟩ rfl).trans k1
      have j2 := (HX ⟨bA, off + k * 4 + 2, none⟩ rfl).trans k2
      have j3 := (HX ⟨bA, off + k * 4 + 3, none⟩ rfl).trans k3
      have hks := HK.out _ (List.getElem_mem hlt)
      clear HX k0 k1 k2 k3
      go_wp2_with (first
        | (go_at_call 9; refine (does_all _ _ _ _ _ _ _ l[k] HO.out HR.out hks).mono ?_; rintro e w4 hd; obtain ⟨rfl, L2, B2, ho2, hr2, hb2'⟩ := hd; have HO2 := Aside0.mk ho2; have HR2 := Aside0.mk hr2; obtain ⟨A5, c5, hc5⟩ := hr2.len_cell ho2.len; clear ho2 hr2)
        | (go_at_call 10; refine (len_spec HO2.out).mono ?_; rintro e w5 ⟨rfl, rfl⟩))
      go_roundw
      case rel => exact ⟨k + 1, by go_num, by omega, L2, B2, HO2.out, HR2.out, hb.trans hb2'⟩
      case measure => simp [intOf]; omega
    · have b0 : decide ((k : Int) < (l.length : Int)) = false := decide_eq_false (by omega)
      have b1 : decide (k < l.length) = false := decide_eq_false hlt
      go_wp2
      go_ret
      exact ⟨rfl, hb1.trans (hb.mono hb1.size)⟩

set_option maxHeartbeats 400000 in
set_option maxRecDepth 100000 in
theorem plays_out (w : World) (most : Int) (v : Value) (h : most < 1 ∨ 20000 < most) :
    Calls Try.prog 3 #[.int .i64 most, v] w fun e w' => e = .returned (.bool true) ∧ Below w.heap.size w w' := by
  have HT := Aside0.mk (show spinneretref18_Takes.f most = some false by
    unfold spinneretref18_Takes.f
    rcases h with h | h
    · rw [if_neg (by omega)]
    · rw [if_pos (by omega), decide_eq_false (by omega)])
  have HN := Aside0.mk h
  clear h
  go_enter Try.func3, Try.ntmps3
  go_wp2_with (first
    | (go_at_call 6; refine (shown_walk _).mono ?_; rintro e w1 ⟨rfl, hb1⟩)
    | (go_at_call 7; refine (new_out w1 most HN.out).mono ?_; rintro e w2 ⟨rfl, rfl⟩)
    | (go_at_call 8; refine (spinneretref18_Takes.calls _ _ _ HT.out).mono ?_; rintro e w3 ⟨rfl, ⟨nd, rfl⟩⟩))
  go_ret
  exact ⟨rfl, pw_below_drewN hb1 nd⟩
end Go.Proofs.Ytihlndgnkhlphaa.St
