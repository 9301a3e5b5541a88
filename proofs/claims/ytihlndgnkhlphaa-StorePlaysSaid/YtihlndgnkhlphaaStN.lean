/- The document's example of a store, and the statement StoreNil's walk. No condition. -/
import Derived.Test.YtihlndgnkhlphaaStI
namespace Go.Proofs.Ytihlndgnkhlphaa.St
open Go.RowKit Go.Proofs.YtihlndgnkhlphaaW.PrintWords Go.Proofs.YtihlndgnkhlphaaW.PrintLast Go.Proofs.YtihlndgnkhlphaaW.PrintMore Go.Proofs.Ytihlndgnkhlphaa.PStorePlays

def sA : ByteArray := ⟨#[97]⟩
def sB : ByteArray := ⟨#[98]⟩
def sC : ByteArray := ⟨#[99]⟩
theorem nA : ∀ n : Nat, ([] : List ByteArray)[n]? ≠ some sA := by intro n; simp
theorem nB : ∀ n : Nat, ([sA] : List ByteArray)[n]? ≠ some sB := by
  intro n; cases n with
  | zero => simp [sA, sB]
  | succ n => simp
theorem nC : ∀ n : Nat, ([sA, sB] : List ByteArray)[n]? ≠ some sC := by
  intro n
  match n with
  | 0 => simp [sA, sC]
  | 1 => simp [sB, sC]
  | n + 2 => simp

/-- One step of a walk with a store: its state and what has stayed are handed on. -/
structure Held (b : Nat) (w0 w : World) (g : Nat) (most : Int) (L : List ByteArray) (B : List Int) : Prop where
  own : Own w b g most L B
  fr : Fr b w0 w

set_option maxHeartbeats 800000 in
set_option maxRecDepth 100000 in
theorem shown_walk (w : World) : Calls Try.prog 6 #[] w fun e w' => e = .returned (.bool true) ∧ Below w.heap.size w w' := by
  have hbit : Go.bits .andNot .u64 (Go.bits .or .u64 0 6) 2 = 4 := by decide
  have T0 : True := trivial
  go_enter Try.func6, Try.ntmps6
  go_wp2_with (first
    | (go_at_call 7; have t_ := T0; refine (new_spec w w.heap.size (Nat.le_refl _) 2 (by omega) (by omega)).mono ?_; rintro e w1 ⟨g, rfl, ho, hb, _⟩; have H1 := Held.mk ho (Fr.of_below hb (Nat.le_refl _)); clear ho hb T0 t_)
    | (go_at_call 11; have t_ := H1; refine (put_new_spec H1.own sA (by decide) nA (by decide)).mono ?_; rintro e w2 ⟨rfl, ho, hf⟩; have H2 := Held.mk ho (H1.fr.trans hf); clear ho hf H1 t_)
    | (go_at_call 11; have t_ := H2; refine (put_new_spec H2.own sB (by decide) nB (by decide)).mono ?_; rintro e w3 ⟨rfl, ho, hf⟩; have H3 := Held.mk ho (H2.fr.trans hf); clear ho hf H2 t_)
    | (go_at_call 11; have t_ := H3; refine (put_there_spec H3.own sA 0 (by decide) rfl).mono ?_; rintro e w4 ⟨rfl, ho, hf⟩; have H4 := Held.mk ho (H3.fr.trans hf); clear ho hf H3 t_)
    | (go_at_call 11; have t_ := H4; refine (put_full_spec H4.own sC (by decide) nC (by decide)).mono ?_; rintro e w5 ⟨rfl, ho, hf⟩; have H5 := Held.mk ho (H4.fr.trans hf); clear ho hf H4 t_)
    | (go_at_call 14; have t_ := H5; refine (mark_in_spec (n := 1) H5.own 6 rfl).mono ?_; rintro e w6 ⟨rfl, ho, hf⟩; have H6 := Held.mk ho (H5.fr.trans hf); clear ho hf H5 t_)
    | (go_at_call 15; have t_ := H6; refine (clear_in_spec (n := 1) H6.own 2 rfl).mono ?_; rintro e w7 ⟨rfl, ho, hf⟩; have H7 := Held.mk ho (H6.fr.trans hf); clear ho hf H6 t_)
    | (go_at_call 16; refine (bits_in_spec (n := 1) H7.own rfl).mono ?_; rintro e w8 ⟨rfl, rfl⟩)
    | (go_at_call 12; refine (key_out_spec (n := 2) H7.own (by decide)).mono ?_; rintro e w9 ⟨rfl, rfl⟩))
  go_ret
  exact ⟨rfl, H7.fr.below⟩

set_option maxHeartbeats 400000 in
set_option maxRecDepth 100000 in
theorem nil_walk (key : ByteArray) (n y : Int) (w : World) : Calls Try.prog 5 #[.string key, .int .i64 n, .int .u64 y] w fun e w' => e = .returned (.bool true) ∧ Below w.heap.size w w' := by
  have T0 : True := trivial
  go_enter Try.func5, Try.ntmps5
  go_wp2_with (first
    | (go_at_call 6; refine (shown_walk _).mono ?_; rintro e w1 ⟨rfl, hb⟩)
    | (go_at_call 11; refine (put_nil _ _).mono ?_; rintro e w' ⟨rfl, rfl⟩)
    | (go_at_call 13; refine (find_nil _ _).mono ?_; rintro e w' ⟨rfl, rfl⟩)
    | (go_at_call 12; refine (key_nil _ _).mono ?_; rintro e w' ⟨rfl, rfl⟩)
    | (go_at_call 14; refine (mark_nil _ _ _).mono ?_; rintro e w' ⟨rfl, rfl⟩)
    | (go_at_call 15; refine (clear_nil _ _ _).mono ?_; rintro e w' ⟨rfl, rfl⟩)
    | (go_at_call 16; refine (bits_nil _ _).mono ?_; rintro e w' ⟨rfl, rfl⟩)
    | (go_at_call 10; refine (len_nil _).mono ?_; rintro e w' ⟨rfl, rfl⟩))
  go_ret
  exact ⟨by first | rfl | simp, by repeat (first | exact hb | apply below_alloc)⟩
end Go.Proofs.Ytihlndgnkhlphaa.St
