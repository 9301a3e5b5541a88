/- What comes of tokens where one macro without parameters is known: the closure inside done. Condition: at most 8192 tokens come of them, at most 4000 uses. -/
import Derived.Test.YtlbiideeljbhlaaPrI
import Derived.Test.YtlbiideeljbhlaaPrL
set_option linter.unusedSimpArgs false
set_option linter.unusedVariables false
namespace Go.Proofs.Ytlbiideeljbhlaa.Pr
open Go.RowKit Go.BigFrame Go.Proofs.YtlbiideeljbhlaaW.PrintWords Go.Proofs.YtlbiideeljbhlaaW.PrintLast Go.Proofs.YtlbiideeljbhlaaW.PrintMore Go.Proofs.Ytlbiideeljbhlaa.PPrepSkips

section
open Go.WideElems Go.ChangeShapes Go.WideShapes Go.MapKept Go.ChangeMaps
theorem find_one (s k : ByteArray) (v : Value) (b : Nat) (w : World) : (Instr.findKey 9 (.string s) [⟨.string k, v, b⟩]).run Try.prog w = .ok (if s = k then some (0, v) else none) w := by
  have hs : Instr.sameNow TypeDesc.string (.string s) (.string k) = some (decide (s = k)) := by
    simp [Instr.sameNow]
    rw [Bool.eq_iff_iff, bytes_beq]; simp
  simp [Instr.findKey, run_underlying Try.underlying9, Result.andThen, Instr.findNow, hs]
  by_cases h : s = k <;> simp [h]
theorem look_one {W : World} {mb cl b : Nat} {k s : ByteArray} {v : Value} (hb : W.heap[mb]? = some (.map #[⟨.string k, v, b⟩] cl)) : (Instr.lookup 38 (.map (some mb)) (.string s) true).run Try.prog W = .ok (.tuple #[if s = k then v else .agg #[.bool false, .slice none 0 0, .slice none 0 0], .bool (decide (s = k))]) W := by
  simp [Instr.lookup, run_underlying Try.underlying38, MapKept.run_getObj_map hb, check9, find_one, Result.andThen]
  by_cases h : s = k
  · simp [h]
  · simp [h]
end

/-- What a token becomes where a macro is known. -/
def expT (nm : ByteArray) (body : List S26) (x : S26) : List S26 := if x.f0 = 1 ∧ x.f3 = nm then body.map (relab x) else [x]

theorem Told.cell {gq : Nat} {row : Option Nat} {W W' : World} (h : Told gq row W W') {k o : Nat} {v : Value} (hc : W.cell? ⟨k, o, none⟩ = some v) (hk : k ≠ gq) (hr : some k ≠ row) : W'.cell? ⟨k, o, none⟩ = some v :=
  (World.cell?_of_block (w := W) (a := ⟨k, o, none⟩) (h.block k (World.block_lt_of_cell? W _ hc) hk hr)).trans hc

/-- The macro that is known. -/
abbrev macV (Ab : Option Addr) (nb cb : Nat) : Value := .agg #[.bool false, .slice none 0 0, .slice Ab nb cb]

theorem plain_one {W : World} {mb cl bn : Nat} {nm : ByteArray} {Ab : Option Addr} {nb cb : Nat} (hb : W.heap[mb]? = some (.map #[⟨.string nm, macV Ab nb cb, bn⟩] cl)) (l : List S26) (hl : ∀ x, x ∈ l → ¬ (x.f0 = 1 ∧ x.f3 = nm)) : Plain W mb l := fun x hx => by
  by_cases h : x.f3 = nm
  · refine ⟨false, none, Ab, 0, 0, nb, cb, true, ⟨fun W' hB => ?_⟩, fun h1 => absurd ⟨h1, h⟩ (hl x hx)⟩
    have := look_one (s := x.f3) ((hB.block mb (blk_lt hb)).trans hb)
    simpa [h] using this
  · refine ⟨false, none, none, 0, 0, 0, 0, false, ⟨fun W' hB => ?_⟩, fun _ => rfl⟩
    have := look_one (s := x.f3) ((hB.block mb (blk_lt hb)).trans hb)
    simpa [h] using this

theorem C_told {gq : Nat} {row : Option Nat} {W W' : World} (h : Told gq row W W') {A : Option Addr} {l : List S26} (hC : k26.C W A l.length l) (hA : ∀ a, A = some a → a.block ≠ gq ∧ some a.block ≠ row) : k26.C W' A l.length l := by
  obtain ⟨h1, h2, h3⟩ := hC
  refine ⟨h1, h2, fun hp => ?_⟩
  obtain ⟨ad, e, hc⟩ := h3 hp
  refine ⟨ad, e, fun j p hj => ?_⟩
  obtain ⟨c, hl, hk, hcc⟩ := hc j p hj
  refine ⟨c, hl, hk, fun i u hu => ?_⟩
  have hcu := hcc i u hu
  have hb : (ad.add (j * k26.sz + i)).block = ad.block := by unfold Addr.add; split <;> rfl
  have hblk := h.block (ad.add (j * k26.sz + i)).block (World.block_lt_of_cell? W _ hcu) (by rw [hb]; exact (hA ad e).1) (by rw [hb]; exact (hA ad e).2)
  exact (World.cell?_of_block hblk).trans hcu
end Go.Proofs.Ytlbiideeljbhlaa.Pr
