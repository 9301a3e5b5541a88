/- Macros of a row that defines one macro without parameters and uses it. Condition: at most 8192 tokens come of it, at most 4000 uses. -/
import Derived.Test.YtlbiideeljbhlaaPrU
set_option linter.unusedSimpArgs false
set_option linter.unusedVariables false
namespace Go.Proofs.Ytlbiideeljbhlaa.Pr
open Go.RowKit Go.BigFrame Go.Proofs.YtlbiideeljbhlaaW.PrintWords Go.Proofs.YtlbiideeljbhlaaW.PrintLast Go.Proofs.YtlbiideeljbhlaaW.PrintMore Go.Proofs.Ytlbiideeljbhlaa.PPrepSkips

theorem does_once (w : World) (h d z : S26) (body rest : List S26) (en : S26) (hn2 : (h :: d :: z :: (body ++ rest)).length ≤ 100000)
    (hh : isT 4 h ⟨#[35]⟩ = true) (hh2 : h.f2 = 1) (hd0 : d.f0 = 1) (hd3 : d.f3 = defS) (hd2 : d.f2 = 1) (hz0 : z.f0 = 1) (hz3 : z.f3 = zzS) (hz2 : z.f2 = 1)
    (hb2 : ∀ x, x ∈ body → x.f2 = 1 ∧ isT 4 x ⟨#[40]⟩ = false ∧ ¬ (x.f0 = 1 ∧ x.f3 = zzS)) (hr2 : ∀ x, x ∈ rest → x.f2 = 2 ∧ isT 4 x ⟨#[35]⟩ = false) (hrl : rest.length ≤ 4000) (hlen : (rest.flatMap (expT zzS body)).length ≤ 8192) (hbl : body.length ≤ 8192) :
    DoesM 14 w false (h :: d :: z :: (body ++ rest)) en (rest.flatMap (expT zzS body)) := by
  intro W gq mb cl A c hB hgq hmb hq hm hA hC hc
  obtain ⟨pb, po, HP⟩ := tok_cells hC
  obtain ⟨rfl, -⟩ := HP 0 (by simp)
  have := macros_once W w.heap.size gq mb cl _ c pb po h d z body rest en _ rfl hC rfl hn2 hc hgq hmb (hA _ rfl).1 (hA _ rfl).2 hh hh2 hd0 hd3 hd2 hz0 hz3 hz2 hb2 hr2 hrl hlen hbl hq hm
  refine this.mono ?_
  rintro e w' ⟨he, u, O, o, h1, h2, h3, h4⟩
  exact ⟨he, mb, _, u, O, o, h1, h2, h3, h4⟩
end Go.Proofs.Ytlbiideeljbhlaa.Pr
