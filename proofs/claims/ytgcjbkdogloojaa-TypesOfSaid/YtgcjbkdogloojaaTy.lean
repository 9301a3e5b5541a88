/- What types.Of tells of each type of variables: the walk of the function with its table (a map that the call makes). No condition. -/
import Derived.Test.YtgcjbkdogloojaaPTypesOfx1
import Derived.Test.YtgcjbkdogloojaaVm
import Derived.WalkMore
import Derived.WalkLawsBesides
import Derived.WalkSpells
import Derived.Maps.Own
namespace Go.Proofs.Ytgcjbkdogloojaa.Ty
open Go.RowKit Go.Proofs.YtgcjbkdogloojaaW.PrintWords Go.Proofs.YtgcjbkdogloojaaW.PrintLast Go.Proofs.YtgcjbkdogloojaaW.PrintMore Go.Proofs.Ytgcjbkdogloojaa.Vm

theorem run_insert_last {P : Program} (w : World) (mty kt et : TypeId) (r clock : Nat) (es : Array MapEntry) (q : IntKind) (k : Int) (val : Value) (hm : P.underlying mty = some (.map kt et)) (hk : P.underlying kt = some (.int q))
    (hr : w.heap.size = r) (hf : Instr.findNow (.int q) (.int q k) es.toList 0 = some none) :
    (Instr.mapUpdate mty (.map (some r)) (.int q k) val).run P (w.alloc (.map es clock)) = .ok () (w.alloc (.map (es.push { key := .int q k, val := val, born := clock }) (clock + 1))) := by
  subst hr
  have hb : (w.alloc (.map es clock)).heap[w.heap.size]? = some (.map es clock) := (MapKept.heap_alloc w _).1
  have hc : (Instr.checkKey false 10000 kt (.int q k)).run P (w.alloc (.map es clock)) = .ok () (w.alloc (.map es clock)) := MapKept.run_checkKey (k := .int q k) hk (by simp [MapKept.IsKey]) false 9999
  simp [Instr.mapUpdate, run_underlying hm, MapKept.run_getObj_map hb, hc, MapKept.run_findKey hk hf, MapKept.run_setObj_map _ hb, Result.andThen]
  have hp : (w.heap.push (.map es clock)).setIfInBounds w.heap.size (.map (es.push { key := .int q k, val := val, born := clock }) (clock + 1)) = w.heap.push (.map (es.push { key := .int q k, val := val, born := clock }) (clock + 1)) := by
    apply Array.ext'
    simp
  exact congrArg (fun h => ({ w with heap := h } : World)) hp

theorem run_look_there {P : Program} (w : World) (mty kt et : TypeId) (r clock : Nat) (es : Array MapEntry) (q : IntKind) (k : Int) (val : Value) (i : Nat) (hm : P.underlying mty = some (.map kt et)) (hk : P.underlying kt = some (.int q))
    (hb : w.heap[r]? = some (.map es clock)) (hf : Instr.findNow (.int q) (.int q k) es.toList 0 = some (some (i, val))) :
    (Instr.lookup mty (.map (some r)) (.int q k) true).run P w = .ok (.tuple #[val, .bool true]) w := by
  have hc : (Instr.checkKey es.isEmpty 10000 kt (.int q k)).run P w = .ok () w := MapKept.run_checkKey (k := .int q k) hk (by simp [MapKept.IsKey]) es.isEmpty 9999
  simp [Instr.lookup, run_underlying hm, MapKept.run_getObj_map hb, hc, MapKept.run_findKey hk hf, Result.andThen]

theorem run_look_none {P : Program} (w : World) (mty kt et : TypeId) (r clock : Nat) (es : Array MapEntry) (q : IntKind) (k : Int) (z : Value) (hm : P.underlying mty = some (.map kt et)) (hk : P.underlying kt = some (.int q))
    (hb : w.heap[r]? = some (.map es clock)) (hf : Instr.findNow (.int q) (.int q k) es.toList 0 = some none) (hz : (zeroValue et).run P w = .ok z w) :
    (Instr.lookup mty (.map (some r)) (.int q k) true).run P w = .ok (.tuple #[z, .bool false]) w := by
  have hc : (Instr.checkKey es.isEmpty 10000 kt (.int q k)).run P w = .ok () w := MapKept.run_checkKey (k := .int q k) hk (by simp [MapKept.IsKey]) es.isEmpty 9999
  simp [Instr.lookup, run_underlying hm, MapKept.run_getObj_map hb, hc, MapKept.run_findKey hk hf, hz, Result.andThen]

/-- the table, when it is whole -/
def table : Array MapEntry := #[⟨.int .i64 1, .agg #[.int .i64 1, .bool false], 0⟩, ⟨.int .i64 2, .agg #[.int .i64 1, .bool false], 1⟩, ⟨.int .i64 3, .agg #[.int .i64 8, .bool false], 2⟩, ⟨.int .i64 4, .agg #[.int .i64 16, .bool true], 3⟩, ⟨.int .i64 5, .agg #[.int .i64 32, .bool true], 4⟩, ⟨.int .i64 7, .agg #[.int .i64 8, .bool false], 5⟩, ⟨.int .i64 8, .agg #[.int .i64 8, .bool false], 6⟩, ⟨.int .i64 9, .agg #[.int .i64 8, .bool false], 7⟩]
theorem tbl (w : World) : ((w.alloc (.cells #[.int .i64 0, .bool false] 23)).alloc (.map table 8)).heap[w.heap.size + 1]? = some (.map table 8) := by
  have e : (w.alloc (.cells #[.int .i64 0, .bool false] 23)).heap.size = w.heap.size + 1 := by simp
  rw [← e]
  exact (MapKept.heap_alloc _ _).1
theorem zero23 (w : World) : (zeroValue 23).run Try.prog w = .ok (.agg #[.int .i64 0, .bool false]) w := by kernel_rfl
theorem ins1 (w : World) : (Instr.mapUpdate 38 (.map (some (w.heap.size + 1))) (.int .i64 1) (.agg #[.int .i64 1, .bool false])).run Try.prog ((w.alloc (.cells #[.int .i64 0, .bool false] 23)).alloc (.map #[] 0)) =
    .ok () ((w.alloc (.cells #[.int .i64 0, .bool false] 23)).alloc (.map #[⟨.int .i64 1, .agg #[.int .i64 1, .bool false], 0⟩] 1)) :=
  run_insert_last (w.alloc (.cells #[.int .i64 0, .bool false] 23)) 38 3 23 _ _ _ _ _ _ Try.underlying38 Try.underlying3 (by simp) rfl
theorem ins2 (w : World) : (Instr.mapUpdate 38 (.map (some (w.heap.size + 1))) (.int .i64 2) (.agg #[.int .i64 1, .bool false])).run Try.prog ((w.alloc (.cells #[.int .i64 0, .bool false] 23)).alloc (.map #[⟨.int .i64 1, .agg #[.int .i64 1, .bool false], 0⟩] 1)) =
    .ok () ((w.alloc (.cells #[.int .i64 0, .bool false] 23)).alloc (.map #[⟨.int .i64 1, .agg #[.int .i64 1, .bool false], 0⟩, ⟨.int .i64 2, .agg #[.int .i64 1, .bool false], 1⟩] 2)) :=
  run_insert_last (w.alloc (.cells #[.int .i64 0, .bool false] 23)) 38 3 23 _ _ _ _ _ _ Try.underlying38 Try.underlying3 (by simp) rfl
theorem ins3 (w : World) : (Instr.mapUpdate 38 (.map (some (w.heap.size + 1))) (.int .i64 3) (.agg #[.int .i64 8, .bool false])).run Try.prog ((w.alloc (.cells #[.int .i64 0, .bool false] 23)).alloc (.map #[⟨.int .i64 1, .agg #[.int .i64 1, .bool false], 0⟩, ⟨.int .i64 2, .agg #[.int .i64 1, .bool false], 1⟩] 2)) =
    .ok () ((w.alloc (.cells #[.int .i64 0, .bool false] 23)).alloc (.map #[⟨.int .i64 1, .agg #[.int .i64 1, .bool false], 0⟩, ⟨.int .i64 2, .agg #[.int .i64 1, .bool false], 1⟩, ⟨.int .i64 3, .agg #[.int .i64 8, .bool false], 2⟩] 3)) :=
  run_insert_last (w.alloc (.cells #[.int .i64 0, .bool false] 23)) 38 3 23 _ _ _ _ _ _ Try.underlying38 Try.underlying3 (by simp) rfl
theorem ins4 (w : World) : (Instr.mapUpdate 38 (.map (some (w.heap.size + 1))) (.int .i64 4) (.agg #[.int .i64 16, .bool true])).run Try.prog ((w.alloc (.cells #[.int .i64 0, .bool false] 23)).alloc (.map #[⟨.int .i64 1, .agg #[.int .i64 1, .bool false], 0⟩, ⟨.int .i64 2, .agg #[.int .i64 1, .bool false], 1⟩, ⟨.int .i64 3, .agg #[.int .i64 8, .bool false], 2⟩] 3)) =
    .ok () ((w.alloc (.cells #[.int .i64 0, .bool false] 23)).alloc (.map #[⟨.int .i64 1, .agg #[.int .i64 1, .bool false], 0⟩, ⟨.int .i64 2, .agg #[.int .i64 1, .bool false], 1⟩, ⟨.int .i64 3, .agg #[.int .i64 8, .bool false], 2⟩, ⟨.int .i64 4, .agg #[.int .i64 16, .bool true], 3⟩] 4)) :=
  run_insert_last (w.alloc (.cells #[.int .i64 0, .bool false] 23)) 38 3 23 _ _ _ _ _ _ Try.underlying38 Try.underlying3 (by simp) rfl
theorem ins5 (w : World) : (Instr.mapUpdate 38 (.map (some (w.heap.size + 1))) (.int .i64 5) (.agg #[.int .i64 32, .bool true])).run Try.prog ((w.alloc (.cells #[.int .i64 0, .bool false] 23)).alloc (.map #[⟨.int .i64 1, .agg #[.int .i64 1, .bool false], 0⟩, ⟨.int .i64 2, .agg #[.int .i64 1, .bool false], 1⟩, ⟨.int .i64 3, .agg #[.int .i64 8, .bool false], 2⟩, ⟨.int .i64 4, .agg #[.int .i64 16, .bool true], 3⟩] 4)) =
    .ok () ((w.alloc (.cells #[.int .i64 0, .bool false] 23)).alloc (.map #[⟨.int .i64 1, .agg #[.int .i64 1, .bool false], 0⟩, ⟨.int .i64 2, .agg #[.int .i64 1, .bool false], 1⟩, ⟨.int .i64 3, .agg #[.int .i64 8, .bool false], 2⟩, ⟨.int .i64 4, .agg #[.int .i64 16, .bool true], 3⟩, ⟨.int .i64 5, .agg #[.int .i64 32, .bool true], 4⟩] 5)) :=
  run_insert_last (w.alloc (.cells #[.int .i64 0, .bool false] 23)) 38 3 23 _ _ _ _ _ _ Try.underlying38 Try.underlying3 (by simp) rfl
theorem ins7 (w : World) : (Instr.mapUpdate 38 (.map (some (w.heap.size + 1))) (.int .i64 7) (.agg #[.int .i64 8, .bool false])).run Try.prog ((w.alloc (.cells #[.int .i64 0, .bool false] 23)).alloc (.map #[⟨.int .i64 1, .agg #[.int .i64 1, .bool false], 0⟩, ⟨.int .i64 2, .agg #[.int .i64 1, .bool false], 1⟩, ⟨.int .i64 3, .agg #[.int .i64 8, .bool false], 2⟩, ⟨.int .i64 4, .agg #[.int .i64 16, .bool true], 3⟩, ⟨.int .i64 5, .agg #[.int .i64 32, .bool true], 4⟩] 5)) =
    .ok () ((w.alloc (.cells #[.int .i64 0, .bool false] 23)).alloc (.map #[⟨.int .i64 1, .agg #[.int .i64 1, .bool false], 0⟩, ⟨.int .i64 2, .agg #[.int .i64 1, .bool false], 1⟩, ⟨.int .i64 3, .agg #[.int .i64 8, .bool false], 2⟩, ⟨.int .i64 4, .agg #[.int .i64 16, .bool true], 3⟩, ⟨.int .i64 5, .agg #[.int .i64 32, .bool true], 4⟩, ⟨.int .i64 7, .agg #[.int .i64 8, .bool false], 5⟩] 6)) :=
  run_insert_last (w.alloc (.cells #[.int .i64 0, .bool false] 23)) 38 3 23 _ _ _ _ _ _ Try.underlying38 Try.underlying3 (by simp) rfl
theorem ins8 (w : World) : (Instr.mapUpdate 38 (.map (some (w.heap.size + 1))) (.int .i64 8) (.agg #[.int .i64 8, .bool false])).run Try.prog ((w.alloc (.cells #[.int .i64 0, .bool false] 23)).alloc (.map #[⟨.int .i64 1, .agg #[.int .i64 1, .bool false], 0⟩, ⟨.int .i64 2, .agg #[.int .i64 1, .bool false], 1⟩, ⟨.int .i64 3, .agg #[.int .i64 8, .bool false], 2⟩, ⟨.int .i64 4, .agg #[.int .i64 16, .bool true], 3⟩, ⟨.int .i64 5, .agg #[.int .i64 32, .bool true], 4⟩, ⟨.int .i64 7, .agg #[.int .i64 8, .bool false], 5⟩] 6)) =
    .ok () ((w.alloc (.cells #[.int .i64 0, .bool false] 23)).alloc (.map #[⟨.int .i64 1, .agg #[.int .i64 1, .bool false], 0⟩, ⟨.int .i64 2, .agg #[.int .i64 1, .bool false], 1⟩, ⟨.int .i64 3, .agg #[.int .i64 8, .bool false], 2⟩, ⟨.int .i64 4, .agg #[.int .i64 16, .bool true], 3⟩, ⟨.int .i64 5, .agg #[.int .i64 32, .bool true], 4⟩, ⟨.int .i64 7, .agg #[.int .i64 8, .bool false], 5⟩, ⟨.int .i64 8, .agg #[.int .i64 8, .bool false], 6⟩] 7)) :=
  run_insert_last (w.alloc (.cells #[.int .i64 0, .bool false] 23)) 38 3 23 _ _ _ _ _ _ Try.underlying38 Try.underlying3 (by simp) rfl
theorem ins9 (w : World) : (Instr.mapUpdate 38 (.map (some (w.heap.size + 1))) (.int .i64 9) (.agg #[.int .i64 8, .bool false])).run Try.prog ((w.alloc (.cells #[.int .i64 0, .bool false] 23)).alloc (.map #[⟨.int .i64 1, .agg #[.int .i64 1, .bool false], 0⟩, ⟨.int .i64 2, .agg #[.int .i64 1, .bool false], 1⟩, ⟨.int .i64 3, .agg #[.int .i64 8, .bool false], 2⟩, ⟨.int .i64 4, .agg #[.int .i64 16, .bool true], 3⟩, ⟨.int .i64 5, .agg #[.int .i64 32, .bool true], 4⟩, ⟨.int .i64 7, .agg #[.int .i64 8, .bool false], 5⟩, ⟨.int .i64 8, .agg #[.int .i64 8, .bool false], 6⟩] 7)) =
    .ok () ((w.alloc (.cells #[.int .i64 0, .bool false] 23)).alloc (.map #[⟨.int .i64 1, .agg #[.int .i64 1, .bool false], 0⟩, ⟨.int .i64 2, .agg #[.int .i64 1, .bool false], 1⟩, ⟨.int .i64 3, .agg #[.int .i64 8, .bool false], 2⟩, ⟨.int .i64 4, .agg #[.int .i64 16, .bool true], 3⟩, ⟨.int .i64 5, .agg #[.int .i64 32, .bool true], 4⟩, ⟨.int .i64 7, .agg #[.int .i64 8, .bool false], 5⟩, ⟨.int .i64 8, .agg #[.int .i64 8, .bool false], 6⟩, ⟨.int .i64 9, .agg #[.int .i64 8, .bool false], 7⟩] 8)) :=
  run_insert_last (w.alloc (.cells #[.int .i64 0, .bool false] 23)) 38 3 23 _ _ _ _ _ _ Try.underlying38 Try.underlying3 (by simp) rfl

set_option maxHeartbeats 400000 in
set_option maxRecDepth 100000 in
theorem of1 (b : Int) (w : World) : Calls Try.prog 8 #[.int .i64 1, .int .i64 b] w fun e w' =>
    e = .returned (.tuple #[.agg #[.int .i64 1, .bool false], .int .i64 0]) ∧ Below w.heap.size w w' := by
  have hmm := @run_makeMap Try.prog
  have i1 := ins1 w
  have i2 := ins2 w
  have i3 := ins3 w
  have i4 := ins4 w
  have i5 := ins5 w
  have i7 := ins7 w
  have i8 := ins8 w
  have i9 := ins9 w
  have lk : (Instr.lookup 38 (.map (some (w.heap.size + 1))) (.int .i64 1) true).run Try.prog ((w.alloc (.cells #[.int .i64 0, .bool false] 23)).alloc (.map table 8)) = .ok (.tuple #[.agg #[.int .i64 1, .bool false], .bool true]) ((w.alloc (.cells #[.int .i64 0, .bool false] 23)).alloc (.map table 8)) :=
    run_look_there _ 38 3 23 _ 8 table _ _ _ _ Try.underlying38 Try.underlying3 (tbl w) rfl
  unfold table at lk
  go_enter Try.func8, Try.ntmps8
  go_wp2
  exact bodyPost_ret (v := .tuple #[.agg #[.int .i64 1, .bool false], .int .i64 0]) (by simp [results, Try.results8, go_sem]) rfl ⟨rfl, (((Below.refl _ _).alloc (Nat.le_refl _) _).alloc (by simp) _).alloc (by simp; omega) _⟩

set_option maxHeartbeats 400000 in
set_option maxRecDepth 100000 in
theorem of2 (b : Int) (w : World) : Calls Try.prog 8 #[.int .i64 2, .int .i64 b] w fun e w' =>
    e = .returned (.tuple #[.agg #[.int .i64 1, .bool false], .int .i64 0]) ∧ Below w.heap.size w w' := by
  have hmm := @run_makeMap Try.prog
  have i1 := ins1 w
  have i2 := ins2 w
  have i3 := ins3 w
  have i4 := ins4 w
  have i5 := ins5 w
  have i7 := ins7 w
  have i8 := ins8 w
  have i9 := ins9 w
  have lk : (Instr.lookup 38 (.map (some (w.heap.size + 1))) (.int .i64 2) true).run Try.prog ((w.alloc (.cells #[.int .i64 0, .bool false] 23)).alloc (.map table 8)) = .ok (.tuple #[.agg #[.int .i64 1, .bool false], .bool true]) ((w.alloc (.cells #[.int .i64 0, .bool false] 23)).alloc (.map table 8)) :=
    run_look_there _ 38 3 23 _ 8 table _ _ _ _ Try.underlying38 Try.underlying3 (tbl w) rfl
  unfold table at lk
  go_enter Try.func8, Try.ntmps8
  go_wp2
  exact bodyPost_ret (v := .tuple #[.agg #[.int .i64 1, .bool false], .int .i64 0]) (by simp [results, Try.results8, go_sem]) rfl ⟨rfl, (((Below.refl _ _).alloc (Nat.le_refl _) _).alloc (by simp) _).alloc (by simp; omega) _⟩

set_option maxHeartbeats 400000 in
set_option maxRecDepth 100000 in
theorem of3 (b : Int) (w : World) : Calls Try.prog 8 #[.int .i64 3, .int .i64 b] w fun e w' =>
    e = .returned (.tuple #[.agg #[.int .i64 8, .bool false], .int .i64 0]) ∧ Below w.heap.size w w' := by
  have hmm := @run_makeMap Try.prog
  have i1 := ins1 w
  have i2 := ins2 w
  have i3 := ins3 w
  have i4 := ins4 w
  have i5 := ins5 w
  have i7 := ins7 w
  have i8 := ins8 w
  have i9 := ins9 w
  have lk : (Instr.lookup 38 (.map (some (w.heap.size + 1))) (.int .i64 3) true).run Try.prog ((w.alloc (.cells #[.int .i64 0, .bool false] 23)).alloc (.map table 8)) = .ok (.tuple #[.agg #[.int .i64 8, .bool false], .bool true]) ((w.alloc (.cells #[.int .i64 0, .bool false] 23)).alloc (.map table 8)) :=
    run_look_there _ 38 3 23 _ 8 table _ _ _ _ Try.underlying38 Try.underlying3 (tbl w) rfl
  unfold table at lk
  go_enter Try.func8, Try.ntmps8
  go_wp2
  exact bodyPost_ret (v := .tuple #[.agg #[.int .i64 8, .bool false], .int .i64 0]) (by simp [results, Try.results8, go_sem]) rfl ⟨rfl, (((Below.refl _ _).alloc (Nat.le_refl _) _).alloc (by simp) _).alloc (by simp; omega) _⟩

set_option maxHeartbeats 400000 in
set_option maxRecDepth 100000 in
theorem of4 (b : Int) (w : World) : Calls Try.prog 8 #[.int .i64 4, .int .i64 b] w fun e w' =>
    e = .returned (.tuple #[.agg #[.int .i64 16, .bool true], .int .i64 0]) ∧ Below w.heap.size w w' := by
  have hmm := @run_makeMap Try.prog
  have i1 := ins1 w
  have i2 := ins2 w
  have i3 := ins3 w
  have i4 := ins4 w
  have i5 := ins5 w
  have i7 := ins7 w
  have i8 := ins8 w
  have i9 := ins9 w
  have lk : (Instr.lookup 38 (.map (some (w.heap.size + 1))) (.int .i64 4) true).run Try.prog ((w.alloc (.cells #[.int .i64 0, .bool false] 23)).alloc (.map table 8)) = .ok (.tuple #[.agg #[.int .i64 16, .bool true], .bool true]) ((w.alloc (.cells #[.int .i64 0, .bool false] 23)).alloc (.map table 8)) :=
    run_look_there _ 38 3 23 _ 8 table _ _ _ _ Try.underlying38 Try.underlying3 (tbl w) rfl
  unfold table at lk
  go_enter Try.func8, Try.ntmps8
  go_wp2
  exact bodyPost_ret (v := .tuple #[.agg #[.int .i64 16, .bool true], .int .i64 0]) (by simp [results, Try.results8, go_sem]) rfl ⟨rfl, (((Below.refl _ _).alloc (Nat.le_refl _) _).alloc (by simp) _).alloc (by simp; omega) _⟩

set_option maxHeartbeats 400000 in
set_option maxRecDepth 100000 in
theorem of5 (b : Int) (w : World) : Calls Try.prog 8 #[.int .i64 5, .int .i64 b] w fun e w' =>
    e = .returned (.tuple #[.agg #[.int .i64 32, .bool true], .int .i64 0]) ∧ Below w.heap.size w w' := by
  have hmm := @run_makeMap Try.prog
  have i1 := ins1 w
  have i2 := ins2 w
  have i3 := ins3 w
  have i4 := ins4 w
  have i5 := ins5 w
  have i7 := ins7 w
  have i8 := ins8 w
  have i9 := ins9 w
  have lk : (Instr.lookup 38 (.map (some (w.heap.size + 1))) (.int .i64 5) true).run Try.prog ((w.alloc (.cells #[.int .i64 0, .bool false] 23)).alloc (.map table 8)) = .ok (.tuple #[.agg #[.int .i64 32, .bool true], .bool true]) ((w.alloc (.cells #[.int .i64 0, .bool false] 23)).alloc (.map table 8)) :=
    run_look_there _ 38 3 23 _ 8 table _ _ _ _ Try.underlying38 Try.underlying3 (tbl w) rfl
  unfold table at lk
  go_enter Try.func8, Try.ntmps8
  go_wp2
  exact bodyPost_ret (v := .tuple #[.agg #[.int .i64 32, .bool true], .int .i64 0]) (by simp [results, Try.results8, go_sem]) rfl ⟨rfl, (((Below.refl _ _).alloc (Nat.le_refl _) _).alloc (by simp) _).alloc (by simp; omega) _⟩

set_option maxHeartbeats 400000 in
set_option maxRecDepth 100000 in
theorem of7 (b : Int) (w : World) : Calls Try.prog 8 #[.int .i64 7, .int .i64 b] w fun e w' =>
    e = .returned (.tuple #[.agg #[.int .i64 8, .bool false], .int .i64 0]) ∧ Below w.heap.size w w' := by
  have hmm := @run_makeMap Try.prog
  have i1 := ins1 w
  have i2 := ins2 w
  have i3 := ins3 w
  have i4 := ins4 w
  have i5 := ins5 w
  have i7 := ins7 w
  have i8 := ins8 w
  have i9 := ins9 w
  have lk : (Instr.lookup 38 (.map (some (w.heap.size + 1))) (.int .i64 7) true).run Try.prog ((w.alloc (.cells #[.int .i64 0, .bool false] 23)).alloc (.map table 8)) = .ok (.tuple #[.agg #[.int .i64 8, .bool false], .bool true]) ((w.alloc (.cells #[.int .i64 0, .bool false] 23)).alloc (.map table 8)) :=
    run_look_there _ 38 3 23 _ 8 table _ _ _ _ Try.underlying38 Try.underlying3 (tbl w) rfl
  unfold table at lk
  go_enter Try.func8, Try.ntmps8
  go_wp2
  exact bodyPost_ret (v := .tuple #[.agg #[.int .i64 8, .bool false], .int .i64 0]) (by simp [results, Try.results8, go_sem]) rfl ⟨rfl, (((Below.refl _ _).alloc (Nat.le_refl _) _).alloc (by simp) _).alloc (by simp; omega) _⟩

set_option maxHeartbeats 400000 in
set_option maxRecDepth 100000 in
theorem of8 (b : Int) (w : World) : Calls Try.prog 8 #[.int .i64 8, .int .i64 b] w fun e w' =>
    e = .returned (.tuple #[.agg #[.int .i64 8, .bool false], .int .i64 0]) ∧ Below w.heap.size w w' := by
  have hmm := @run_makeMap Try.prog
  have i1 := ins1 w
  have i2 := ins2 w
  have i3 := ins3 w
  have i4 := ins4 w
  have i5 := ins5 w
  have i7 := ins7 w
  have i8 := ins8 w
  have i9 := ins9 w
  have lk : (Instr.lookup 38 (.map (some (w.heap.size + 1))) (.int .i64 8) true).run Try.prog ((w.alloc (.cells #[.int .i64 0, .bool false] 23)).alloc (.map table 8)) = .ok (.tuple #[.agg #[.int .i64 8, .bool false], .bool true]) ((w.alloc (.cells #[.int .i64 0, .bool false] 23)).alloc (.map table 8)) :=
    run_look_there _ 38 3 23 _ 8 table _ _ _ _ Try.underlying38 Try.underlying3 (tbl w) rfl
  unfold table at lk
  go_enter Try.func8, Try.ntmps8
  go_wp2
  exact bodyPost_ret (v := .tuple #[.agg #[.int .i64 8, .bool false], .int .i64 0]) (by simp [results, Try.results8, go_sem]) rfl ⟨rfl, (((Below.refl _ _).alloc (Nat.le_refl _) _).alloc (by simp) _).alloc (by simp; omega) _⟩

set_option maxHeartbeats 400000 in
set_option maxRecDepth 100000 in
theorem of9 (b : Int) (w : World) : Calls Try.prog 8 #[.int .i64 9, .int .i64 b] w fun e w' =>
    e = .returned (.tuple #[.agg #[.int .i64 8, .bool false], .int .i64 0]) ∧ Below w.heap.size w w' := by
  have hmm := @run_makeMap Try.prog
  have i1 := ins1 w
  have i2 := ins2 w
  have i3 := ins3 w
  have i4 := ins4 w
  have i5 := ins5 w
  have i7 := ins7 w
  have i8 := ins8 w
  have i9 := ins9 w
  have lk : (Instr.lookup 38 (.map (some (w.heap.size + 1))) (.int .i64 9) true).run Try.prog ((w.alloc (.cells #[.int .i64 0, .bool false] 23)).alloc (.map table 8)) = .ok (.tuple #[.agg #[.int .i64 8, .bool false], .bool true]) ((w.alloc (.cells #[.int .i64 0, .bool false] 23)).alloc (.map table 8)) :=
    run_look_there _ 38 3 23 _ 8 table _ _ _ _ Try.underlying38 Try.underlying3 (tbl w) rfl
  unfold table at lk
  go_enter Try.func8, Try.ntmps8
  go_wp2
  exact bodyPost_ret (v := .tuple #[.agg #[.int .i64 8, .bool false], .int .i64 0]) (by simp [results, Try.results8, go_sem]) rfl ⟨rfl, (((Below.refl _ _).alloc (Nat.le_refl _) _).alloc (by simp) _).alloc (by simp; omega) _⟩

set_option maxHeartbeats 400000 in
set_option maxRecDepth 100000 in
theorem of6y (b : Int) (h0 : 1 ≤ b) (h1 : b ≤ 32) (w : World) : Calls Try.prog 8 #[.int .i64 6, .int .i64 b] w fun e w' =>
    e = .returned (.tuple #[.agg #[.int .i64 b, .bool false], .int .i64 0]) ∧ Below w.heap.size w w' := by
  have hmm := @run_makeMap Try.prog
  have i1 := ins1 w
  have i2 := ins2 w
  have i3 := ins3 w
  have i4 := ins4 w
  have i5 := ins5 w
  have i7 := ins7 w
  have i8 := ins8 w
  have i9 := ins9 w
  have hb0 : decide (1 ≤ b) = true := decide_eq_true h0
  have hb1 : decide (b ≤ 32) = true := decide_eq_true h1
  clear h0 h1
  go_enter Try.func8, Try.ntmps8
  go_wp2
  exact bodyPost_ret (v := .tuple #[.agg #[.int .i64 b, .bool false], .int .i64 0]) (by simp [results, Try.results8, go_sem]) rfl ⟨rfl, ((Below.refl _ _).alloc (Nat.le_refl _) _).alloc (by simp) _⟩

set_option maxHeartbeats 400000 in
set_option maxRecDepth 100000 in
theorem of6a (b : Int) (h0 : ¬ 1 ≤ b) (w : World) : Calls Try.prog 8 #[.int .i64 6, .int .i64 b] w fun e w' =>
    e = .returned (.tuple #[.agg #[.int .i64 0, .bool false], .int .i64 16]) ∧ Below w.heap.size w w' := by
  have hmm := @run_makeMap Try.prog
  have i1 := ins1 w
  have i2 := ins2 w
  have i3 := ins3 w
  have i4 := ins4 w
  have i5 := ins5 w
  have i7 := ins7 w
  have i8 := ins8 w
  have i9 := ins9 w
  have hb0 : decide (1 ≤ b) = false := decide_eq_false h0
  clear h0
  have lk : (Instr.lookup 38 (.map (some (w.heap.size + 1))) (.int .i64 6) true).run Try.prog ((w.alloc (.cells #[.int .i64 0, .bool false] 23)).alloc (.map table 8)) = .ok (.tuple #[.agg #[.int .i64 0, .bool false], .bool false]) ((w.alloc (.cells #[.int .i64 0, .bool false] 23)).alloc (.map table 8)) :=
    run_look_none _ 38 3 23 _ 8 table _ _ _ Try.underlying38 Try.underlying3 (tbl w) rfl (zero23 _)
  unfold table at lk
  go_enter Try.func8, Try.ntmps8
  go_wp2
  exact bodyPost_ret (v := .tuple #[.agg #[.int .i64 0, .bool false], .int .i64 16]) (by simp [results, Try.results8, go_sem]) rfl ⟨rfl, (((Below.refl _ _).alloc (Nat.le_refl _) _).alloc (by simp) _).alloc (by simp; omega) _⟩

set_option maxHeartbeats 400000 in
set_option maxRecDepth 100000 in
theorem of6b (b : Int) (h0 : 1 ≤ b) (h1 : ¬ b ≤ 32) (w : World) : Calls Try.prog 8 #[.int .i64 6, .int .i64 b] w fun e w' =>
    e = .returned (.tuple #[.agg #[.int .i64 0, .bool false], .int .i64 16]) ∧ Below w.heap.size w w' := by
  have hmm := @run_makeMap Try.prog
  have i1 := ins1 w
  have i2 := ins2 w
  have i3 := ins3 w
  have i4 := ins4 w
  have i5 := ins5 w
  have i7 := ins7 w
  have i8 := ins8 w
  have i9 := ins9 w
  have hb0 : decide (1 ≤ b) = true := decide_eq_true h0
  have hb1 : decide (b ≤ 32) = false := decide_eq_false h1
  clear h0 h1
  have lk : (Instr.lookup 38 (.map (some (w.heap.size + 1))) (.int .i64 6) true).run Try.prog ((w.alloc (.cells #[.int .i64 0, .bool false] 23)).alloc (.map table 8)) = .ok (.tuple #[.agg #[.int .i64 0, .bool false], .bool false]) ((w.alloc (.cells #[.int .i64 0, .bool false] 23)).alloc (.map table 8)) :=
    run_look_none _ 38 3 23 _ 8 table _ _ _ Try.underlying38 Try.underlying3 (tbl w) rfl (zero23 _)
  unfold table at lk
  go_enter Try.func8, Try.ntmps8
  go_wp2
  exact bodyPost_ret (v := .tuple #[.agg #[.int .i64 0, .bool false], .int .i64 16]) (by simp [results, Try.results8, go_sem]) rfl ⟨rfl, (((Below.refl _ _).alloc (Nat.le_refl _) _).alloc (by simp) _).alloc (by simp; omega) _⟩

theorem none_of (ty : Int) (h : ty < 1 ∨ 9 < ty) : Instr.findNow (.int .i64) (.int .i64 ty) table.toList 0 = some none := by
  have h1 : (ty == 1) = false := by simp; omega
  have h2 : (ty == 2) = false := by simp; omega
  have h3 : (ty == 3) = false := by simp; omega
  have h4 : (ty == 4) = false := by simp; omega
  have h5 : (ty == 5) = false := by simp; omega
  have h7 : (ty == 7) = false := by simp; omega
  have h8 : (ty == 8) = false := by simp; omega
  have h9 : (ty == 9) = false := by simp; omega
  simp [table, Instr.findNow, Instr.sameNow, h1, h2, h3, h4, h5, h7, h8, h9]

set_option maxHeartbeats 400000 in
set_option maxRecDepth 100000 in
theorem ofelse (ty b : Int) (h : ty < 1 ∨ 9 < ty) (w : World) : Calls Try.prog 8 #[.int .i64 ty, .int .i64 b] w fun e w' =>
    e = .returned (.tuple #[.agg #[.int .i64 0, .bool false], .int .i64 16]) ∧ Below w.heap.size w w' := by
  have hmm := @run_makeMap Try.prog
  have i1 := ins1 w
  have i2 := ins2 w
  have i3 := ins3 w
  have i4 := ins4 w
  have i5 := ins5 w
  have i7 := ins7 w
  have i8 := ins8 w
  have i9 := ins9 w
  have lk : (Instr.lookup 38 (.map (some (w.heap.size + 1))) (.int .i64 ty) true).run Try.prog ((w.alloc (.cells #[.int .i64 0, .bool false] 23)).alloc (.map table 8)) = .ok (.tuple #[.agg #[.int .i64 0, .bool false], .bool false]) ((w.alloc (.cells #[.int .i64 0, .bool false] 23)).alloc (.map table 8)) :=
    run_look_none _ 38 3 23 _ 8 table _ _ _ Try.underlying38 Try.underlying3 (tbl w) (none_of ty h) (zero23 _)
  unfold table at lk
  have h6 : (ty == 6) = false := by simp; omega
  clear h
  go_enter Try.func8, Try.ntmps8
  go_wp2
  exact bodyPost_ret (v := .tuple #[.agg #[.int .i64 0, .bool false], .int .i64 16]) (by simp [results, Try.results8, go_sem]) rfl ⟨rfl, (((Below.refl _ _).alloc (Nat.le_refl _) _).alloc (by simp) _).alloc (by simp; omega) _⟩

end Go.Proofs.Ytgcjbkdogloojaa.Ty
