-- PRINTED BY print.sh 35421559b90ae4d0a3588c463048766b98c2df88dd9212a6774a882060cdf62d: not written by this session
import Derived.Test.YtgnpmcnmcbgdcaaProg
import Derived.Below
import Derived.Deep.Draws
import Derived.Deep.AppendLies
import Derived.Maps.AppendAt
import Derived.OwnWalk
import Derived.Laws.BytesArg
import Derived.Laws.MakeOwn
import Derived.Laws.OwnMore
import Derived.Deep.OwnRows
import Derived.Tactics
import Derived.Lib.ConvBytes
import Derived.Laws.Slices
import Derived.WalkKit
import Derived.KernelRfl
import Derived.RowKit3
import Derived.Deep.LoopGhost
import Derived.Deep.QuietTactic
import Derived.BigQuiet
import Derived.WideLaws
import Derived.Deep.DeepCutAuto
import Derived.Deep.CutBlock
import Derived.Deep.RegionHeld3
import Derived.Laws.Rows
import Derived.Lib.AppendStr
import Derived.ArgAppend
import Derived.Laws.IdiomCopy
import Derived.OrdersHeld
import Derived.Laws.BitsLemmas
import Derived.RowKit
import Derived.Test.YtgnpmcnmcbgdcaaWWords
import Derived.Test.YtgnpmcnmcbgdcaaWLast
import Derived.Test.YtgnpmcnmcbgdcaaWTab
import Derived.Test.YtgnpmcnmcbgdcaaWFour
import Derived.Test.YtgnpmcnmcbgdcaaWQPut
import Derived.Test.YtgnpmcnmcbgdcaaWApart
import Derived.Test.YtgnpmcnmcbgdcaaWArr
import Derived.Test.YtgnpmcnmcbgdcaaWZeros
import Derived.Test.YtgnpmcnmcbgdcaaWFoot
import Derived.Test.YtgnpmcnmcbgdcaaWKept
import Derived.Test.YtgnpmcnmcbgdcaaWShare
import Derived.Test.YtgnpmcnmcbgdcaaWN
import Derived.Test.YtgnpmcnmcbgdcaaWFootNe
import Derived.Test.YtgnpmcnmcbgdcaaWAt
import Derived.Test.YtgnpmcnmcbgdcaaWEqStruct
import Derived.Test.YtgnpmcnmcbgdcaaWRepsOne
import Derived.Test.YtgnpmcnmcbgdcaaWInv
import Derived.Test.YtgnpmcnmcbgdcaaWInvWords
import Derived.Test.YtgnpmcnmcbgdcaaWGuard
import Derived.Test.YtgnpmcnmcbgdcaaWNEv
import Derived.Test.YtgnpmcnmcbgdcaaWMore
namespace Go.Proofs.Ytgnpmcnmcbgdcaa.PAutoWalk
open Go.RowKit Go.Proofs.YtgnpmcnmcbgdcaaW.PrintWords Go.Proofs.YtgnpmcnmcbgdcaaW.PrintLast Go.Proofs.YtgnpmcnmcbgdcaaW.PrintMore
attribute [local go_sem] max2_int min2_int max_two min_two max_three min_three max_four min_four   -- for this text's walks alone
set_option linter.unusedVariables false
set_option linter.unusedSimpArgs false



def errW : Option Int → Value
  | none => .nilIface
  | some c => .iface 0 (.int .i64 c)
theorem errW_none : errW none = .nilIface := rfl
theorem errW_some (c : Int) : errW (some c) = .iface 0 (.int .i64 c) := rfl

theorem info33 : (Try.prog.info? 33).map (fun i => (i.zero, i.size, i.bytes)) = some (some (.slice none 0 0), 1, 24) := by kernel_rfl
theorem info40 : (Try.prog.info? 40).map (fun i => (i.zero, i.size, i.bytes)) = some (some (.agg #[(.int .i64 0), (.int .i64 0), (.int .i64 0), (.int .i64 0), (.slice none 0 0), (.slice none 0 0), (.string ⟨#[]⟩), (.int .i64 0), (.int .i64 0)]), 9, 112) := by kernel_rfl
-- the values' own types
def rd_L1 (xs : List (List Int)) (i : Int) : (List Int) := xs.getD i.toNat ([] : List Int)
theorem at_L1 {w : World} {A : Option Addr} {n : Nat} {xs : List (List Int)} (h : Kd.C (Kd.slice 3 (Kd.int .i64)) w A n xs) (i : Int) (h0 : 0 ≤ i) (h1 : i < n) : ∃ ad A0 c0, A = some ad ∧ w.cell? (ad.add i.toNat) = some (.slice A0 (rd_L1 xs i).length c0) ∧ (rd_L1 xs i).length ≤ c0 ∧ (Kd.int .i64).C w A0 (rd_L1 xs i).length (rd_L1 xs i) := by
  obtain ⟨ad, c, e, _, hK, hc0⟩ := Kd.C_get h ([] : List Int) i h0 h1
  have hc : ∀ j u, c[j]? = some u → w.cell? (ad.add (i.toNat * 1 + j)) = some u := hc0
  obtain ⟨A0, c0, rfl, l0, g0⟩ := hK
  exact ⟨ad, A0, c0, e, by have hq := hc 0 _ rfl; rwa [Nat.mul_one, Nat.add_zero] at hq, l0, g0⟩

/-! #### struct type 38 -/
structure S38 where
  f0 : Int
  f1 : Int
  f2 : Int
  f3 : Int
  f4 : (List Int)
  f5 : (List Int)
  f6 : ByteArray
def z38 : S38 := ⟨(0 : Int), (0 : Int), (0 : Int), (0 : Int), ([] : List Int), ([] : List Int), (⟨#[]⟩ : ByteArray)⟩
def k38 : Kd S38 := Kd.iso (Kd.pair (Kd.int .i64) (Kd.pair (Kd.int .i64) (Kd.pair (Kd.int .i64) (Kd.pair (Kd.int .i64) (Kd.pair (Kd.slice 3 (Kd.int .i64)) (Kd.pair (Kd.slice 3 (Kd.int .i64)) Kd.string)))))) (fun x : S38 => (x.f0, x.f1, x.f2, x.f3, x.f4, x.f5, x.f6))
theorem k38_heap : Kd.Heap k38 := Kd.heap_iso _ (Kd.heap_pair (Kd.heap_int .i64) (Kd.heap_pair (Kd.heap_int .i64) (Kd.heap_pair (Kd.heap_int .i64) (Kd.heap_pair (Kd.heap_int .i64) (Kd.heap_pair (Kd.heap_slice 3 (Kd.heap_int .i64)) (Kd.heap_pair (Kd.heap_slice 3 (Kd.heap_int .i64)) Kd.heap_string))))))
theorem k38_open {w : World} {x : S38} {cs : List Value} (h : k38.K w x cs) : ∃ A4 c4 A5 c5, cs = [.int .i64 x.f0, .int .i64 x.f1, .int .i64 x.f2, .int .i64 x.f3, .slice A4 x.f4.length c4, .slice A5 x.f5.length c5, .string x.f6] ∧ x.f4.length ≤ c4 ∧ (Kd.int .i64).C w A4 x.f4.length x.f4 ∧ x.f5.length ≤ c5 ∧ (Kd.int .i64).C w A5 x.f5.length x.f5 := by
  obtain ⟨_, _, rfl, rfl, ⟨_, _, rfl, rfl, ⟨_, _, rfl, rfl, ⟨_, _, rfl, rfl, ⟨_, _, rfl, ⟨A4, c4, rfl, l4, g4⟩, ⟨_, _, rfl, ⟨A5, c5, rfl, l5, g5⟩, rfl⟩⟩⟩⟩⟩⟩ := h
  exact ⟨A4, c4, A5, c5, rfl, l4, g4, l5, g5⟩
theorem k38_openM {w : World} {base : Nat} {ok : Nat → Prop} {x : S38} {cs : List Value} (h : k38.M w base ok x cs) : ∃ v4 v5, cs = [.int .i64 x.f0, .int .i64 x.f1, .int .i64 x.f2, .int .i64 x.f3, v4, v5, .string x.f6] ∧ (Kd.int .i64).R 3 w base ok v4 x.f4 ∧ (Kd.int .i64).R 3 w base ok v5 x.f5 := by
  obtain ⟨_, _, rfl, rfl, ⟨_, _, rfl, rfl, ⟨_, _, rfl, rfl, ⟨_, _, rfl, rfl, ⟨_, _, rfl, ⟨v4, rfl, g4⟩, ⟨_, _, rfl, ⟨v5, rfl, g5⟩, rfl⟩⟩⟩⟩⟩⟩ := h
  exact ⟨v4, v5, rfl, g4, g5⟩
theorem k38_mk (w : World) (x : S38) {A4 : Option Addr} {c4 : Nat} (l4 : x.f4.length ≤ c4) (g4 : (Kd.int .i64).C w A4 x.f4.length x.f4) {A5 : Option Addr} {c5 : Nat} (l5 : x.f5.length ≤ c5) (g5 : (Kd.int .i64).C w A5 x.f5.length x.f5) : k38.K w x [.int .i64 x.f0, .int .i64 x.f1, .int .i64 x.f2, .int .i64 x.f3, .slice A4 x.f4.length c4, .slice A5 x.f5.length c5, .string x.f6] := ⟨[.int .i64 x.f0], [.int .i64 x.f1, .int .i64 x.f2, .int .i64 x.f3, .slice A4 x.f4.length c4, .slice A5 x.f5.length c5, .string x.f6], rfl, rfl, ⟨[.int .i64 x.f1], [.int .i64 x.f2, .int .i64 x.f3, .slice A4 x.f4.length c4, .slice A5 x.f5.length c5, .string x.f6], rfl, rfl, ⟨[.int .i64 x.f2], [.int .i64 x.f3, .slice A4 x.f4.length c4, .slice A5 x.f5.length c5, .string x.f6], rfl, rfl, ⟨[.int .i64 x.f3], [.slice A4 x.f4.length c4, .slice A5 x.f5.length c5, .string x.f6], rfl, rfl, ⟨[.slice A4 x.f4.length c4], [.slice A5 x.f5.length c5, .string x.f6], rfl, ⟨A4, c4, rfl, l4, g4⟩, ⟨[.slice A5 x.f5.length c5], [.string x.f6], rfl, ⟨A5, c5, rfl, l5, g5⟩, rfl⟩⟩⟩⟩⟩⟩
theorem k38_mkM (w : World) (base : Nat) (ok : Nat → Prop) (x : S38) {v4 : Value} (g4 : (Kd.int .i64).R 3 w base ok v4 x.f4) {v5 : Value} (g5 : (Kd.int .i64).R 3 w base ok v5 x.f5) : k38.M w base ok x [.int .i64 x.f0, .int .i64 x.f1, .int .i64 x.f2, .int .i64 x.f3, v4, v5, .string x.f6] := ⟨[.int .i64 x.f0], [.int .i64 x.f1, .int .i64 x.f2, .int .i64 x.f3, v4, v5, .string x.f6], rfl, rfl, ⟨[.int .i64 x.f1], [.int .i64 x.f2, .int .i64 x.f3, v4, v5, .string x.f6], rfl, rfl, ⟨[.int .i64 x.f2], [.int .i64 x.f3, v4, v5, .string x.f6], rfl, rfl, ⟨[.int .i64 x.f3], [v4, v5, .string x.f6], rfl, rfl, ⟨[v4], [v5, .string x.f6], rfl, ⟨v4, rfl, g4⟩, ⟨[v5], [.string x.f6], rfl, ⟨v5, rfl, g5⟩, rfl⟩⟩⟩⟩⟩⟩
theorem k38_openF {W : World} {ok : Nat → Prop} {x : S38} {cs : List Value} (h : Kd.FK k38 W ok x cs) : ∃ A4 c4 A5 c5, cs = [.int .i64 x.f0, .int .i64 x.f1, .int .i64 x.f2, .int .i64 x.f3, .slice A4 x.f4.length c4, .slice A5 x.f5.length c5, .string x.f6] ∧ x.f4.length ≤ c4 ∧ Kd.F (Kd.int .i64) W ok A4 x.f4.length x.f4 ∧ x.f5.length ≤ c5 ∧ Kd.F (Kd.int .i64) W ok A5 x.f5.length x.f5 := by
  obtain ⟨A4, c4, A5, c5, rfl, l4, _, l5, _⟩ := k38_open (Kd.FK_now h)
  exact ⟨A4, c4, A5, c5, rfl, l4, (fun W' hW => by obtain ⟨A4_, c4_, A5_, c5_, he, l4_, g4_, l5_, g5_⟩ := k38_open (h W' hW); injection (Option.some.inj (show some (Value.slice A4 x.f4.length c4) = some (Value.slice A4_ x.f4.length c4_) from congrArg (fun l => l[4]?) he)) with ha_ _ _; rw [ha_]; exact g4_), l5, (fun W' hW => by obtain ⟨A4_, c4_, A5_, c5_, he, l4_, g4_, l5_, g5_⟩ := k38_open (h W' hW); injection (Option.some.inj (show some (Value.slice A5 x.f5.length c5) = some (Value.slice A5_ x.f5.length c5_) from congrArg (fun l => l[5]?) he)) with ha_ _ _; rw [ha_]; exact g5_)⟩
theorem k38_mkF (W : World) (ok : Nat → Prop) (x : S38) {A4 : Option Addr} {c4 : Nat} (l4 : x.f4.length ≤ c4) (g4 : Kd.F (Kd.int .i64) W ok A4 x.f4.length x.f4) {A5 : Option Addr} {c5 : Nat} (l5 : x.f5.length ≤ c5) (g5 : Kd.F (Kd.int .i64) W ok A5 x.f5.length x.f5) : Kd.FK k38 W ok x [.int .i64 x.f0, .int .i64 x.f1, .int .i64 x.f2, .int .i64 x.f3, .slice A4 x.f4.length c4, .slice A5 x.f5.length c5, .string x.f6] := fun W2 hW => k38_mk W2 x l4 (g4 W2 hW) l5 (g5 W2 hW)
def rd_T38 (xs : List S38) (i : Int) : S38 := xs.getD i.toNat z38
theorem at_T38 {w : World} {A : Option Addr} {n : Nat} {xs : List S38} (h : Kd.C k38 w A n xs) (i : Int) (h0 : 0 ≤ i) (h1 : i < n) : ∃ ad A4 c4 A5 c5, A = some ad ∧ w.cell? (ad.add (i.toNat * 7)) = some (.int .i64 (rd_T38 xs i).f0) ∧ w.cell? ⟨(ad.add (i.toNat * 7)).block, (ad.add (i.toNat * 7)).off + 1, none⟩ = some (.int .i64 (rd_T38 xs i).f1) ∧ w.cell? ⟨(ad.add (i.toNat * 7)).block, (ad.add (i.toNat * 7)).off + 2, none⟩ = some (.int .i64 (rd_T38 xs i).f2) ∧ w.cell? ⟨(ad.add (i.toNat * 7)).block, (ad.add (i.toNat * 7)).off + 3, none⟩ = some (.int .i64 (rd_T38 xs i).f3) ∧ w.cell? ⟨(ad.add (i.toNat * 7)).block, (ad.add (i.toNat * 7)).off + 4, none⟩ = some (.slice A4 (rd_T38 xs i).f4.length c4) ∧ w.cell? ⟨(ad.add (i.toNat * 7)).block, (ad.add (i.toNat * 7)).off + 5, none⟩ = some (.slice A5 (rd_T38 xs i).f5.length c5) ∧ w.cell? ⟨(ad.add (i.toNat * 7)).block, (ad.add (i.toNat * 7)).off + 6, none⟩ = some (.string (rd_T38 xs i).f6) ∧ (rd_T38 xs i).f4.length ≤ c4 ∧ (Kd.int .i64).C w A4 (rd_T38 xs i).f4.length (rd_T38 xs i).f4 ∧ (rd_T38 xs i).f5.length ≤ c5 ∧ (Kd.int .i64).C w A5 (rd_T38 xs i).f5.length (rd_T38 xs i).f5 := by
  obtain ⟨ad, c, e, _, hK, hc0⟩ := Kd.C_get h z38 i h0 h1
  have hc : ∀ j u, c[j]? = some u → w.cell? (ad.add (i.toNat * 7 + j)) = some u := hc0
  obtain ⟨A4, c4, A5, c5, rfl, l4, g4, l5, g5⟩ := k38_open hK
  exact ⟨ad, A4, c4, A5, c5, e, hc 0 _ rfl, by rw [← add_field _ _ 1 (by omega)]; exact hc 1 _ rfl, by rw [← add_field _ _ 2 (by omega)]; exact hc 2 _ rfl, by rw [← add_field _ _ 3 (by omega)]; exact hc 3 _ rfl, by rw [← add_field _ _ 4 (by omega)]; exact hc 4 _ rfl, by rw [← add_field _ _ 5 (by omega)]; exact hc 5 _ rfl, by rw [← add_field _ _ 6 (by omega)]; exact hc 6 _ rfl, l4, g4, l5, g5⟩

/-! #### struct type 40 -/
structure S40 where
  f0 : S38
  f1 : Int
  f2 : Int
def z40 : S40 := ⟨z38, (0 : Int), (0 : Int)⟩
def k40 : Kd S40 := Kd.iso (Kd.pair k38 (Kd.pair (Kd.int .i64) (Kd.int .i64))) (fun x : S40 => (x.f0, x.f1, x.f2))
theorem k40_heap : Kd.Heap k40 := Kd.heap_iso _ (Kd.heap_pair k38_heap (Kd.heap_pair (Kd.heap_int .i64) (Kd.heap_int .i64)))
theorem k40_open {w : World} {x : S40} {cs : List Value} (h : k40.K w x cs) : ∃ A4 c4 A5 c5, cs = [.int .i64 x.f0.f0, .int .i64 x.f0.f1, .int .i64 x.f0.f2, .int .i64 x.f0.f3, .slice A4 x.f0.f4.length c4, .slice A5 x.f0.f5.length c5, .string x.f0.f6, .int .i64 x.f1, .int .i64 x.f2] ∧ x.f0.f4.length ≤ c4 ∧ (Kd.int .i64).C w A4 x.f0.f4.length x.f0.f4 ∧ x.f0.f5.length ≤ c5 ∧ (Kd.int .i64).C w A5 x.f0.f5.length x.f0.f5 := by
  obtain ⟨_, _, rfl, s0, ⟨_, _, rfl, rfl, rfl⟩⟩ := h
  obtain ⟨A4, c4, A5, c5, rfl, l4, g4, l5, g5⟩ := k38_open s0
  exact ⟨A4, c4, A5, c5, rfl, l4, g4, l5, g5⟩
theorem k40_openM {w : World} {base : Nat} {ok : Nat → Prop} {x : S40} {cs : List Value} (h : k40.M w base ok x cs) : ∃ v4 v5, cs = [.int .i64 x.f0.f0, .int .i64 x.f0.f1, .int .i64 x.f0.f2, .int .i64 x.f0.f3, v4, v5, .string x.f0.f6, .int .i64 x.f1, .int .i64 x.f2] ∧ (Kd.int .i64).R 3 w base ok v4 x.f0.f4 ∧ (Kd.int .i64).R 3 w base ok v5 x.f0.f5 := by
  obtain ⟨_, _, rfl, s0, ⟨_, _, rfl, rfl, rfl⟩⟩ := h
  obtain ⟨v4, v5, rfl, g4, g5⟩ := k38_openM s0
  exact ⟨v4, v5, rfl, g4, g5⟩
theorem k40_mk (w : World) (x : S40) {A4 : Option Addr} {c4 : Nat} (l4 : x.f0.f4.length ≤ c4) (g4 : (Kd.int .i64).C w A4 x.f0.f4.length x.f0.f4) {A5 : Option Addr} {c5 : Nat} (l5 : x.f0.f5.length ≤ c5) (g5 : (Kd.int .i64).C w A5 x.f0.f5.length x.f0.f5) : k40.K w x [.int .i64 x.f0.f0, .int .i64 x.f0.f1, .int .i64 x.f0.f2, .int .i64 x.f0.f3, .slice A4 x.f0.f4.length c4, .slice A5 x.f0.f5.length c5, .string x.f0.f6, .int .i64 x.f1, .int .i64 x.f2] := ⟨[.int .i64 x.f0.f0, .int .i64 x.f0.f1, .int .i64 x.f0.f2, .int .i64 x.f0.f3, .slice A4 x.f0.f4.length c4, .slice A5 x.f0.f5.length c5, .string x.f0.f6], [.int .i64 x.f1, .int .i64 x.f2], rfl, (k38_mk w x.f0 l4 g4 l5 g5), ⟨[.int .i64 x.f1], [.int .i64 x.f2], rfl, rfl, rfl⟩⟩
theorem k40_mkM (w : World) (base : Nat) (ok : Nat → Prop) (x : S40) {v4 : Value} (g4 : (Kd.int .i64).R 3 w base ok v4 x.f0.f4) {v5 : Value} (g5 : (Kd.int .i64).R 3 w base ok v5 x.f0.f5) : k40.M w base ok x [.int .i64 x.f0.f0, .int .i64 x.f0.f1, .int .i64 x.f0.f2, .int .i64 x.f0.f3, v4, v5, .string x.f0.f6, .int .i64 x.f1, .int .i64 x.f2] := ⟨[.int .i64 x.f0.f0, .int .i64 x.f0.f1, .int .i64 x.f0.f2, .int .i64 x.f0.f3, v4, v5, .string x.f0.f6], [.int .i64 x.f1, .int .i64 x.f2], rfl, (k38_mkM w base ok x.f0 g4 g5), ⟨[.int .i64 x.f1], [.int .i64 x.f2], rfl, rfl, rfl⟩⟩
theorem k40_openF {W : World} {ok : Nat → Prop} {x : S40} {cs : List Value} (h : Kd.FK k40 W ok x cs) : ∃ A4 c4 A5 c5, cs = [.int .i64 x.f0.f0, .int .i64 x.f0.f1, .int .i64 x.f0.f2, .int .i64 x.f0.f3, .slice A4 x.f0.f4.length c4, .slice A5 x.f0.f5.length c5, .string x.f0.f6, .int .i64 x.f1, .int .i64 x.f2] ∧ x.f0.f4.length ≤ c4 ∧ Kd.F (Kd.int .i64) W ok A4 x.f0.f4.length x.f0.f4 ∧ x.f0.f5.length ≤ c5 ∧ Kd.F (Kd.int .i64) W ok A5 x.f0.f5.length x.f0.f5 := by
  obtain ⟨A4, c4, A5, c5, rfl, l4, _, l5, _⟩ := k40_open (Kd.FK_now h)
  exact ⟨A4, c4, A5, c5, rfl, l4, (fun W' hW => by obtain ⟨A4_, c4_, A5_, c5_, he, l4_, g4_, l5_, g5_⟩ := k40_open (h W' hW); injection (Option.some.inj (show some (Value.slice A4 x.f0.f4.length c4) = some (Value.slice A4_ x.f0.f4.length c4_) from congrArg (fun l => l[4]?) he)) with ha_ _ _; rw [ha_]; exact g4_), l5, (fun W' hW => by obtain ⟨A4_, c4_, A5_, c5_, he, l4_, g4_, l5_, g5_⟩ := k40_open (h W' hW); injection (Option.some.inj (show some (Value.slice A5 x.f0.f5.length c5) = some (Value.slice A5_ x.f0.f5.length c5_) from congrArg (fun l => l[5]?) he)) with ha_ _ _; rw [ha_]; exact g5_)⟩
theorem k40_mkF (W : World) (ok : Nat → Prop) (x : S40) {A4 : Option Addr} {c4 : Nat} (l4 : x.f0.f4.length ≤ c4) (g4 : Kd.F (Kd.int .i64) W ok A4 x.f0.f4.length x.f0.f4) {A5 : Option Addr} {c5 : Nat} (l5 : x.f0.f5.length ≤ c5) (g5 : Kd.F (Kd.int .i64) W ok A5 x.f0.f5.length x.f0.f5) : Kd.FK k40 W ok x [.int .i64 x.f0.f0, .int .i64 x.f0.f1, .int .i64 x.f0.f2, .int .i64 x.f0.f3, .slice A4 x.f0.f4.length c4, .slice A5 x.f0.f5.length c5, .string x.f0.f6, .int .i64 x.f1, .int .i64 x.f2] := fun W2 hW => k40_mk W2 x l4 (g4 W2 hW) l5 (g5 W2 hW)
def rd_T40 (xs : List S40) (i : Int) : S40 := xs.getD i.toNat z40
theorem at_T40 {w : World} {A : Option Addr} {n : Nat} {xs : List S40} (h : Kd.C k40 w A n xs) (i : Int) (h0 : 0 ≤ i) (h1 : i < n) : ∃ ad A4 c4 A5 c5, A = some ad ∧ w.cell? (ad.add (i.toNat * 9)) = some (.int .i64 (rd_T40 xs i).f0.f0) ∧ w.cell? ⟨(ad.add (i.toNat * 9)).block, (ad.add (i.toNat * 9)).off + 1, none⟩ = some (.int .i64 (rd_T40 xs i).f0.f1) ∧ w.cell? ⟨(ad.add (i.toNat * 9)).block, (ad.add (i.toNat * 9)).off + 2, none⟩ = some (.int .i64 (rd_T40 xs i).f0.f2) ∧ w.cell? ⟨(ad.add (i.toNat * 9)).block, (ad.add (i.toNat * 9)).off + 3, none⟩ = some (.int .i64 (rd_T40 xs i).f0.f3) ∧ w.cell? ⟨(ad.add (i.toNat * 9)).block, (ad.add (i.toNat * 9)).off + 4, none⟩ = some (.slice A4 (rd_T40 xs i).f0.f4.length c4) ∧ w.cell? ⟨(ad.add (i.toNat * 9)).block, (ad.add (i.toNat * 9)).off + 5, none⟩ = some (.slice A5 (rd_T40 xs i).f0.f5.length c5) ∧ w.cell? ⟨(ad.add (i.toNat * 9)).block, (ad.add (i.toNat * 9)).off + 6, none⟩ = some (.string (rd_T40 xs i).f0.f6) ∧ w.cell? ⟨(ad.add (i.toNat * 9)).block, (ad.add (i.toNat * 9)).off + 7, none⟩ = some (.int .i64 (rd_T40 xs i).f1) ∧ w.cell? ⟨(ad.add (i.toNat * 9)).block, (ad.add (i.toNat * 9)).off + 8, none⟩ = some (.int .i64 (rd_T40 xs i).f2) ∧ (rd_T40 xs i).f0.f4.length ≤ c4 ∧ (Kd.int .i64).C w A4 (rd_T40 xs i).f0.f4.length (rd_T40 xs i).f0.f4 ∧ (rd_T40 xs i).f0.f5.length ≤ c5 ∧ (Kd.int .i64).C w A5 (rd_T40 xs i).f0.f5.length (rd_T40 xs i).f0.f5 := by
  obtain ⟨ad, c, e, _, hK, hc0⟩ := Kd.C_get h z40 i h0 h1
  have hc : ∀ j u, c[j]? = some u → w.cell? (ad.add (i.toNat * 9 + j)) = some u := hc0
  obtain ⟨A4, c4, A5, c5, rfl, l4, g4, l5, g5⟩ := k40_open hK
  exact ⟨ad, A4, c4, A5, c5, e, hc 0 _ rfl, by rw [← add_field _ _ 1 (by omega)]; exact hc 1 _ rfl, by rw [← add_field _ _ 2 (by omega)]; exact hc 2 _ rfl, by rw [← add_field _ _ 3 (by omega)]; exact hc 3 _ rfl, by rw [← add_field _ _ 4 (by omega)]; exact hc 4 _ rfl, by rw [← add_field _ _ 5 (by omega)]; exact hc 5 _ rfl, by rw [← add_field _ _ 6 (by omega)]; exact hc 6 _ rfl, by rw [← add_field _ _ 7 (by omega)]; exact hc 7 _ rfl, by rw [← add_field _ _ 8 (by omega)]; exact hc 8 _ rfl, l4, g4, l5, g5⟩

def rd_L5 (xs : List (List S40)) (i : Int) : (List S40) := xs.getD i.toNat ([] : List S40)
theorem at_L5 {w : World} {A : Option Addr} {n : Nat} {xs : List (List S40)} (h : Kd.C (Kd.slice 40 k40) w A n xs) (i : Int) (h0 : 0 ≤ i) (h1 : i < n) : ∃ ad A0 c0, A = some ad ∧ w.cell? (ad.add i.toNat) = some (.slice A0 (rd_L5 xs i).length c0) ∧ (rd_L5 xs i).length ≤ c0 ∧ k40.C w A0 (rd_L5 xs i).length (rd_L5 xs i) := by
  obtain ⟨ad, c, e, _, hK, hc0⟩ := Kd.C_get h ([] : List S40) i h0 h1
  have hc : ∀ j u, c[j]? = some u → w.cell? (ad.add (i.toNat * 1 + j)) = some u := hc0
  obtain ⟨A0, c0, rfl, l0, g0⟩ := hK
  exact ⟨ad, A0, c0, e, by have hq := hc 0 _ rfl; rwa [Nat.mul_one, Nat.add_zero] at hq, l0, g0⟩

/-! #### struct type 62 -/
structure S62 where
  f0 : Int
  f1 : Bool
def z62 : S62 := ⟨(0 : Int), false⟩
def k62 : Kd S62 := Kd.iso (Kd.pair (Kd.int .i64) Kd.bool) (fun x : S62 => (x.f0, x.f1))
theorem k62_heap : Kd.Heap k62 := Kd.heap_iso _ (Kd.heap_pair (Kd.heap_int .i64) Kd.heap_bool)
theorem k62_open {w : World} {x : S62} {cs : List Value} (h : k62.K w x cs) : cs = [.int .i64 x.f0, .bool x.f1] := by
  obtain ⟨_, _, rfl, rfl, rfl⟩ := h
  exact rfl
theorem k62_openM {w : World} {base : Nat} {ok : Nat → Prop} {x : S62} {cs : List Value} (h : k62.M w base ok x cs) : cs = [.int .i64 x.f0, .bool x.f1] := by
  obtain ⟨_, _, rfl, rfl, rfl⟩ := h
  exact rfl
theorem k62_mk (w : World) (x : S62)  : k62.K w x [.int .i64 x.f0, .bool x.f1] := ⟨[.int .i64 x.f0], [.bool x.f1], rfl, rfl, rfl⟩
theorem k62_mkM (w : World) (base : Nat) (ok : Nat → Prop) (x : S62)  : k62.M w base ok x [.int .i64 x.f0, .bool x.f1] := ⟨[.int .i64 x.f0], [.bool x.f1], rfl, rfl, rfl⟩
theorem k62_mkF (W : World) (ok : Nat → Prop) (x : S62) : Kd.FK k62 W ok x [.int .i64 x.f0, .bool x.f1] := fun W2 _ => k62_mk W2 x
def rd_T62 (xs : List S62) (i : Int) : S62 := xs.getD i.toNat z62
theorem at_T62 {w : World} {A : Option Addr} {n : Nat} {xs : List S62} (h : Kd.C k62 w A n xs) (i : Int) (h0 : 0 ≤ i) (h1 : i < n) : ∃ ad , A = some ad ∧ w.cell? (ad.add (i.toNat * 2)) = some (.int .i64 (rd_T62 xs i).f0) ∧ w.cell? ⟨(ad.add (i.toNat * 2)).block, (ad.add (i.toNat * 2)).off + 1, none⟩ = some (.bool (rd_T62 xs i).f1) := by
  obtain ⟨ad, c, e, _, hK, hc0⟩ := Kd.C_get h z62 i h0 h1
  have hc : ∀ j u, c[j]? = some u → w.cell? (ad.add (i.toNat * 2 + j)) = some u := hc0
  obtain rfl := k62_open hK
  exact ⟨ad, e, hc 0 _ rfl, by rw [← add_field _ _ 1 (by omega)]; exact hc 1 _ rfl⟩

def rd_L8 (xs : List (List (List S40))) (i : Int) : (List (List S40)) := xs.getD i.toNat ([] : List (List S40))
theorem at_L8 {w : World} {A : Option Addr} {n : Nat} {xs : List (List (List S40))} (h : Kd.C (Kd.slice 33 (Kd.slice 40 k40)) w A n xs) (i : Int) (h0 : 0 ≤ i) (h1 : i < n) : ∃ ad A0 c0, A = some ad ∧ w.cell? (ad.add i.toNat) = some (.slice A0 (rd_L8 xs i).length c0) ∧ (rd_L8 xs i).length ≤ c0 ∧ (Kd.slice 40 k40).C w A0 (rd_L8 xs i).length (rd_L8 xs i) := by
  obtain ⟨ad, c, e, _, hK, hc0⟩ := Kd.C_get h ([] : List (List S40)) i h0 h1
  have hc : ∀ j u, c[j]? = some u → w.cell? (ad.add (i.toNat * 1 + j)) = some u := hc0
  obtain ⟨A0, c0, rfl, l0, g0⟩ := hK
  exact ⟨ad, A0, c0, e, by have hq := hc 0 _ rfl; rwa [Nat.mul_one, Nat.add_zero] at hq, l0, g0⟩

/-! #### struct type 36 -/
structure S36 where
  f0 : (List S40)
  f1 : (List (List S40))
  f2 : Bool
  f3 : Bool
  f4 : Bool
  f5 : Bool
  f6 : Bool
def z36 : S36 := ⟨([] : List S40), ([] : List (List S40)), false, false, false, false, false⟩
def k36 : Kd S36 := Kd.iso (Kd.pair (Kd.slice 40 k40) (Kd.pair (Kd.slice 33 (Kd.slice 40 k40)) (Kd.pair Kd.bool (Kd.pair Kd.bool (Kd.pair Kd.bool (Kd.pair Kd.bool Kd.bool)))))) (fun x : S36 => (x.f0, x.f1, x.f2, x.f3, x.f4, x.f5, x.f6))
theorem k36_heap : Kd.Heap k36 := Kd.heap_iso _ (Kd.heap_pair (Kd.heap_slice 40 k40_heap) (Kd.heap_pair (Kd.heap_slice 33 (Kd.heap_slice 40 k40_heap)) (Kd.heap_pair Kd.heap_bool (Kd.heap_pair Kd.heap_bool (Kd.heap_pair Kd.heap_bool (Kd.heap_pair Kd.heap_bool Kd.heap_bool))))))
theorem k36_open {w : World} {x : S36} {cs : List Value} (h : k36.K w x cs) : ∃ A0 c0 A1 c1, cs = [.slice A0 x.f0.length c0, .slice A1 x.f1.length c1, .bool x.f2, .bool x.f3, .bool x.f4, .bool x.f5, .bool x.f6] ∧ x.f0.length ≤ c0 ∧ k40.C w A0 x.f0.length x.f0 ∧ x.f1.length ≤ c1 ∧ (Kd.slice 40 k40).C w A1 x.f1.length x.f1 := by
  obtain ⟨_, _, rfl, ⟨A0, c0, rfl, l0, g0⟩, ⟨_, _, rfl, ⟨A1, c1, rfl, l1, g1⟩, ⟨_, _, rfl, rfl, ⟨_, _, rfl, rfl, ⟨_, _, rfl, rfl, ⟨_, _, rfl, rfl, rfl⟩⟩⟩⟩⟩⟩ := h
  exact ⟨A0, c0, A1, c1, rfl, l0, g0, l1, g1⟩
theorem k36_openM {w : World} {base : Nat} {ok : Nat → Prop} {x : S36} {cs : List Value} (h : k36.M w base ok x cs) : ∃ v0 v1, cs = [v0, v1, .bool x.f2, .bool x.f3, .bool x.f4, .bool x.f5, .bool x.f6] ∧ k40.R 40 w base ok v0 x.f0 ∧ (Kd.slice 40 k40).R 33 w base ok v1 x.f1 := by
  obtain ⟨_, _, rfl, ⟨v0, rfl, g0⟩, ⟨_, _, rfl, ⟨v1, rfl, g1⟩, ⟨_, _, rfl, rfl, ⟨_, _, rfl, rfl, ⟨_, _, rfl, rfl, ⟨_, _, rfl, rfl, rfl⟩⟩⟩⟩⟩⟩ := h
  exact ⟨v0, v1, rfl, g0, g1⟩
theorem k36_mk (w : World) (x : S36) {A0 : Option Addr} {c0 : Nat} (l0 : x.f0.length ≤ c0) (g0 : k40.C w A0 x.f0.length x.f0) {A1 : Option Addr} {c1 : Nat} (l1 : x.f1.length ≤ c1) (g1 : (Kd.slice 40 k40).C w A1 x.f1.length x.f1) : k36.K w x [.slice A0 x.f0.length c0, .slice A1 x.f1.length c1, .bool x.f2, .bool x.f3, .bool x.f4, .bool x.f5, .bool x.f6] := ⟨[.slice A0 x.f0.length c0], [.slice A1 x.f1.length c1, .bool x.f2, .bool x.f3, .bool x.f4, .bool x.f5, .bool x.f6], rfl, ⟨A0, c0, rfl, l0, g0⟩, ⟨[.slice A1 x.f1.length c1], [.bool x.f2, .bool x.f3, .bool x.f4, .bool x.f5, .bool x.f6], rfl, ⟨A1, c1, rfl, l1, g1⟩, ⟨[.bool x.f2], [.bool x.f3, .bool x.f4, .bool x.f5, .bool x.f6], rfl, rfl, ⟨[.bool x.f3], [.bool x.f4, .bool x.f5, .bool x.f6], rfl, rfl, ⟨[.bool x.f4], [.bool x.f5, .bool x.f6], rfl, rfl, ⟨[.bool x.f5], [.bool x.f6], rfl, rfl, rfl⟩⟩⟩⟩⟩⟩
theorem k36_mkM (w : World) (base : Nat) (ok : Nat → Prop) (x : S36) {v0 : Value} (g0 : k40.R 40 w base ok v0 x.f0) {v1 : Value} (g1 : (Kd.slice 40 k40).R 33 w base ok v1 x.f1) : k36.M w base ok x [v0, v1, .bool x.f2, .bool x.f3, .bool x.f4, .bool x.f5, .bool x.f6] := ⟨[v0], [v1, .bool x.f2, .bool x.f3, .bool x.f4, .bool x.f5, .bool x.f6], rfl, ⟨v0, rfl, g0⟩, ⟨[v1], [.bool x.f2, .bool x.f3, .bool x.f4, .bool x.f5, .bool x.f6], rfl, ⟨v1, rfl, g1⟩, ⟨[.bool x.f2], [.bool x.f3, .bool x.f4, .bool x.f5, .bool x.f6], rfl, rfl, ⟨[.bool x.f3], [.bool x.f4, .bool x.f5, .bool x.f6], rfl, rfl, ⟨[.bool x.f4], [.bool x.f5, .bool x.f6], rfl, rfl, ⟨[.bool x.f5], [.bool x.f6], rfl, rfl, rfl⟩⟩⟩⟩⟩⟩
theorem k36_openF {W : World} {ok : Nat → Prop} {x : S36} {cs : List Value} (h : Kd.FK k36 W ok x cs) : ∃ A0 c0 A1 c1, cs = [.slice A0 x.f0.length c0, .slice A1 x.f1.length c1, .bool x.f2, .bool x.f3, .bool x.f4, .bool x.f5, .bool x.f6] ∧ x.f0.length ≤ c0 ∧ Kd.F k40 W ok A0 x.f0.length x.f0 ∧ x.f1.length ≤ c1 ∧ Kd.F (Kd.slice 40 k40) W ok A1 x.f1.length x.f1 := by
  obtain ⟨A0, c0, A1, c1, rfl, l0, _, l1, _⟩ := k36_open (Kd.FK_now h)
  exact ⟨A0, c0, A1, c1, rfl, l0, (fun W' hW => by obtain ⟨A0_, c0_, A1_, c1_, he, l0_, g0_, l1_, g1_⟩ := k36_open (h W' hW); injection (Option.some.inj (show some (Value.slice A0 x.f0.length c0) = some (Value.slice A0_ x.f0.length c0_) from congrArg (fun l => l[0]?) he)) with ha_ _ _; rw [ha_]; exact g0_), l1, (fun W' hW => by obtain ⟨A0_, c0_, A1_, c1_, he, l0_, g0_, l1_, g1_⟩ := k36_open (h W' hW); injection (Option.some.inj (show some (Value.slice A1 x.f1.length c1) = some (Value.slice A1_ x.f1.length c1_) from congrArg (fun l => l[1]?) he)) with ha_ _ _; rw [ha_]; exact g1_)⟩
theorem k36_mkF (W : World) (ok : Nat → Prop) (x : S36) {A0 : Option Addr} {c0 : Nat} (l0 : x.f0.length ≤ c0) (g0 : Kd.F k40 W ok A0 x.f0.length x.f0) {A1 : Option Addr} {c1 : Nat} (l1 : x.f1.length ≤ c1) (g1 : Kd.F (Kd.slice 40 k40) W ok A1 x.f1.length x.f1) : Kd.FK k36 W ok x [.slice A0 x.f0.length c0, .slice A1 x.f1.length c1, .bool x.f2, .bool x.f3, .bool x.f4, .bool x.f5, .bool x.f6] := fun W2 hW => k36_mk W2 x l0 (g0 W2 hW) l1 (g1 W2 hW)
def rd_T36 (xs : List S36) (i : Int) : S36 := xs.getD i.toNat z36
theorem at_T36 {w : World} {A : Option Addr} {n : Nat} {xs : List S36} (h : Kd.C k36 w A n xs) (i : Int) (h0 : 0 ≤ i) (h1 : i < n) : ∃ ad A0 c0 A1 c1, A = some ad ∧ w.cell? (ad.add (i.toNat * 7)) = some (.slice A0 (rd_T36 xs i).f0.length c0) ∧ w.cell? ⟨(ad.add (i.toNat * 7)).block, (ad.add (i.toNat * 7)).off + 1, none⟩ = some (.slice A1 (rd_T36 xs i).f1.length c1) ∧ w.cell? ⟨(ad.add (i.toNat * 7)).block, (ad.add (i.toNat * 7)).off + 2, none⟩ = some (.bool (rd_T36 xs i).f2) ∧ w.cell? ⟨(ad.add (i.toNat * 7)).block, (ad.add (i.toNat * 7)).off + 3, none⟩ = some (.bool (rd_T36 xs i).f3) ∧ w.cell? ⟨(ad.add (i.toNat * 7)).block, (ad.add (i.toNat * 7)).off + 4, none⟩ = some (.bool (rd_T36 xs i).f4) ∧ w.cell? ⟨(ad.add (i.toNat * 7)).block, (ad.add (i.toNat * 7)).off + 5, none⟩ = some (.bool (rd_T36 xs i).f5) ∧ w.cell? ⟨(ad.add (i.toNat * 7)).block, (ad.add (i.toNat * 7)).off + 6, none⟩ = some (.bool (rd_T36 xs i).f6) ∧ (rd_T36 xs i).f0.length ≤ c0 ∧ k40.C w A0 (rd_T36 xs i).f0.length (rd_T36 xs i).f0 ∧ (rd_T36 xs i).f1.length ≤ c1 ∧ (Kd.slice 40 k40).C w A1 (rd_T36 xs i).f1.length (rd_T36 xs i).f1 := by
  obtain ⟨ad, c, e, _, hK, hc0⟩ := Kd.C_get h z36 i h0 h1
  have hc : ∀ j u, c[j]? = some u → w.cell? (ad.add (i.toNat * 7 + j)) = some u := hc0
  obtain ⟨A0, c0, A1, c1, rfl, l0, g0, l1, g1⟩ := k36_open hK
  exact ⟨ad, A0, c0, A1, c1, e, hc 0 _ rfl, by rw [← add_field _ _ 1 (by omega)]; exact hc 1 _ rfl, by rw [← add_field _ _ 2 (by omega)]; exact hc 2 _ rfl, by rw [← add_field _ _ 3 (by omega)]; exact hc 3 _ rfl, by rw [← add_field _ _ 4 (by omega)]; exact hc 4 _ rfl, by rw [← add_field _ _ 5 (by omega)]; exact hc 5 _ rfl, by rw [← add_field _ _ 6 (by omega)]; exact hc 6 _ rfl, l0, g0, l1, g1⟩

end Go.Proofs.Ytgnpmcnmcbgdcaa.PAutoWalk
