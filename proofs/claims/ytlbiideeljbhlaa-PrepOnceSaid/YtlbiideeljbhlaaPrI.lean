/- What Macros and Inlines make of rows without directives, macros and inlines. Condition: at most 8193 tokens. -/
import Derived.Test.YtlbiideeljbhlaaPrH
import Derived.Laws.IdiomMaps
import Derived.StringKeys
set_option linter.unusedSimpArgs false
set_option linter.unusedVariables false
namespace Go.Proofs.Ytlbiideeljbhlaa.Pr
open Go.RowKit Go.BigFrame Go.Proofs.YtlbiideeljbhlaaW.PrintWords Go.Proofs.YtlbiideeljbhlaaW.PrintLast Go.Proofs.YtlbiideeljbhlaaW.PrintMore Go.Proofs.Ytlbiideeljbhlaa.PPrepSkips

section
open Go.WideElems Go.ChangeShapes Go.WideShapes Go.MapKept Go.ChangeMaps
theorem zero62 (w : World) : (zeroValue 62).run Try.prog w = .ok (.agg #[.bool false, .slice none 0 0, .slice none 0 0]) w := by kernel_rfl
theorem check9 (em : Bool) (s : ByteArray) (w : World) : (Instr.checkKey em 10000 9 (.string s)).run Try.prog w = .ok () w := by kernel_rfl
theorem find9 (s : ByteArray) (w : World) : (Instr.findKey 9 (.string s) []).run Try.prog w = .ok none w := by kernel_rfl
theorem look_none {W : World} {mb cl : Nat} (hb : W.heap[mb]? = some (.map #[] cl)) (s : ByteArray) : (Instr.lookup 38 (.map (some mb)) (.string s) true).run Try.prog W = .ok (.tuple #[.agg #[.bool false, .slice none 0 0, .slice none 0 0], .bool false]) W := by
  simp [Instr.lookup, run_underlying Try.underlying38, MapKept.run_getObj_map hb, check9, find9, Result.andThen]
end

theorem plain_empty {W : World} {mb cl : Nat} (hb : W.heap[mb]? = some (.map #[] cl)) (l : List S26) : Plain W mb l := fun x _ =>
  ⟨false, none, none, 0, 0, 0, 0, false, ⟨fun W' hB => look_none ((hB.block mb (blk_lt hb)).trans hb) x.f3⟩, fun _ => rfl⟩

theorem does_macros (w : World) (inl : Bool) (l : List S26) (en : S26) (hl : l.length ≤ 8192) (hmk : ∀ x, x ∈ l → isT 4 x ⟨#[35]⟩ = false) : Does 14 w inl l en l := fun W gq mb cl A c hB hq1 hm1 hq hm hA hc =>
  (macros_plain W w.heap.size gq mb inl 0 A l.length c l en hA rfl hl hq1 (plain_empty hm l) hmk hq).mono (by
    rintro e w' ⟨rfl, O, o, h1, h2, h3, h4⟩
    exact ⟨rfl, mb, _, 0, O, o, h1, h2, h3, h4⟩)
theorem does_inlines (w : World) (inl : Bool) (l : List S26) (en : S26) (hl : l.length ≤ 8192) (hmk : ∀ x, x ∈ l → isT 1 x ⟨#[105, 110, 108, 105, 110, 101]⟩ = false) : Does 20 w inl l en l := fun W gq mb cl A c hB hq1 hm1 hq hm hA hc =>
  (inlines_plain W w.heap.size gq mb inl 0 A l.length c l en hA rfl hl hq1 (plain_empty hm l) hmk hq).mono (by
    rintro e w' ⟨rfl, O, o, h1, h2, h3, h4⟩
    exact ⟨rfl, mb, _, 0, O, o, h1, h2, h3, h4⟩)

set_option maxHeartbeats 1000000 in
theorem macros_walk (w : World) (A : Option Addr) (n c : Nat) (l : List S26) (en : S26) (res : List S26) (hA : k26.C w A (l ++ [en]).length (l ++ [en])) (hn : n = l.length) (hn2 : n + 1 ≤ 2932031007401) (hc : n + 1 ≤ c) (h0 : ∀ x, x ∈ l → x.f0 ≠ 0) (h1 : en.f0 = 0) (hres : res.length ≤ 8192) (hdo : Does 14 w false l en res) :
    Calls Try.prog 9 #[.slice A (n + 1) c] w fun e w' => ∃ O o, e = .returned (.tuple #[.slice O (res.length + 1) o, .int .i64 0, .int .i64 0]) ∧ k26.R 26 w' w.heap.size (fun _ => True) (.slice O (res.length + 1) o) (res ++ [en]) ∧ Below w.heap.size w w' := by
  have HA := Aside0.mk (all_walk14 w false A n c l en res hA hn hn2 hc h0 h1 hres hdo)
  clear hA hn h0 h1 hdo
  go_enter Try.func9, Try.ntmps9
  go_wp2_with (go_at_call 13; refine HA.out.mono ?_; rintro e w1 ⟨O, o, rfl, hR, hB⟩; have H1 := Aside0.mk (And.intro hR hB); clear hR hB)
  refine bodyPost_ret (v := .tuple #[.slice O (res.length + 1) o, .int .i64 0, .int .i64 0]) (by simp [results, Try.results9, go_sem]) rfl ?_
  exact ⟨O, o, rfl, H1.out⟩

set_option maxHeartbeats 1000000 in
theorem inlines_walk (w : World) (A : Option Addr) (n c : Nat) (l : List S26) (en : S26) (res : List S26) (hA : k26.C w A (l ++ [en]).length (l ++ [en])) (hn : n = l.length) (hn2 : n + 1 ≤ 2932031007401) (hc : n + 1 ≤ c) (h0 : ∀ x, x ∈ l → x.f0 ≠ 0) (h1 : en.f0 = 0) (hres : res.length ≤ 8192) (hdo : Does 20 w true l en res) :
    Calls Try.prog 11 #[.slice A (n + 1) c] w fun e w' => ∃ O o, e = .returned (.tuple #[.slice O (res.length + 1) o, .int .i64 0, .int .i64 0]) ∧ k26.R 26 w' w.heap.size (fun _ => True) (.slice O (res.length + 1) o) (res ++ [en]) ∧ Below w.heap.size w w' := by
  have HA := Aside0.mk (all_walk20 w true A n c l en res hA hn hn2 hc h0 h1 hres hdo)
  clear hA hn h0 h1 hdo
  go_enter Try.func11, Try.ntmps11
  go_wp2_with (go_at_call 13; refine HA.out.mono ?_; rintro e w1 ⟨O, o, rfl, hR, hB⟩; have H1 := Aside0.mk (And.intro hR hB); clear hR hB)
  refine bodyPost_ret (v := .tuple #[.slice O (res.length + 1) o, .int .i64 0, .int .i64 0]) (by simp [results, Try.results11, go_sem]) rfl ?_
  exact ⟨O, o, rfl, H1.out⟩
end Go.Proofs.Ytlbiideeljbhlaa.Pr
