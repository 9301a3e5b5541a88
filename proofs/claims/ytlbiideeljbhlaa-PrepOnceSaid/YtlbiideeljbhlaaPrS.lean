/- A directive that defines, and a row that begins with one: the closure inside Macros. Condition: at most 8192 tokens come of it, at most 4000 uses. -/
import Derived.Test.YtlbiideeljbhlaaPrQ
set_option linter.unusedSimpArgs false
set_option linter.unusedVariables false
namespace Go.Proofs.Ytlbiideeljbhlaa.Pr
open Go.RowKit Go.BigFrame Go.Proofs.YtlbiideeljbhlaaW.PrintWords Go.Proofs.YtlbiideeljbhlaaW.PrintLast Go.Proofs.YtlbiideeljbhlaaW.PrintMore Go.Proofs.Ytlbiideeljbhlaa.PPrepSkips

abbrev defS : ByteArray := ⟨#[100, 101, 102, 105, 110, 101]⟩
abbrev zzS : ByteArray := ⟨#[122, 122]⟩

theorem C_drop {w : World} {pb po : Nat} {l : List S26} (h : k26.C w (some ⟨pb, po, none⟩) l.length l) (k m : Nat) (hm : k + m ≤ l.length) : k26.C w (some ⟨pb, po + k * 5, none⟩) ((l.drop k).take m).length ((l.drop k).take m) := by
  obtain ⟨h1, h2, h3⟩ := h
  refine ⟨rfl, by rw [List.length_take, List.length_drop]; omega, fun hp => ?_⟩
  rw [List.length_take, List.length_drop] at hp
  obtain ⟨ad, e, hc⟩ := h3 (by omega)
  cases e
  refine ⟨_, rfl, fun j p hj => ?_⟩
  have hjm : j < m := by have := (List.getElem?_eq_some_iff.1 hj).1; rw [List.length_take] at this; omega
  rw [List.getElem?_take_of_lt hjm, List.getElem?_drop] at hj
  obtain ⟨c, hl, hk, hcc⟩ := hc (k + j) p hj
  refine ⟨c, hl, hk, fun i u hu => ?_⟩
  have := hcc i u hu
  rw [add_at] at this ⊢
  have e5 : k26.sz = 5 := rfl
  rw [e5] at this ⊢
  rw [show po + k * 5 + (j * 5 + i) = po + ((k + j) * 5 + i) by omega]
  exact this

set_option maxHeartbeats 4000000 in
set_option maxRecDepth 100000 in
theorem directive_define (w : World) (gq mb cl n pb po : Nat) (at_ uses : Int) (out : Value) (d z : S26) (body : List S26) (hA : k26.C w (some ⟨pb, po, none⟩) (d :: z :: body).length (d :: z :: body)) (hn : n = body.length + 2) (hn2 : n ≤ 100000)
    (hd0 : d.f0 = 1) (hd3 : d.f3 = defS) (hz0 : z.f0 = 1) (hz3 : z.f3 = zzS) (hbr : ∀ x, x ∈ body → isT 4 x ⟨#[40]⟩ = false) (A2 : Option Addr) (hA2 : A2 = (if n - 1 = 1 then some (⟨pb, po + 5, none⟩ : Addr) else some ⟨pb, po + 5 + 5, none⟩))
    (hq : w.heap[gq]? = some (.cells (wkC false mb (.slice none 0 0) uses out) 41 (0, 0))) (hm : w.heap[mb]? = some (.map #[] cl)) :
    Calls Try.prog 18 #[.pointer (some ⟨gq, 0, none⟩), .slice (some ⟨pb, po, none⟩) n n, .int .i64 at_] w fun e w' => e = .returned (.tuple #[]) ∧ (∃ cl', w'.heap[mb]? = some (.map #[⟨.string zzS, macV A2 (n - 1 - 1) (n - 1 - 1), cl'⟩] (cl' + 1))) ∧ (∀ base, base ≤ mb → Below base w w') ∧ Told mb none w w' := by
  obtain ⟨b', o', HP⟩ := tok_cells hA
  obtain ⟨e, q0, q1, q2, q3, q4⟩ := HP 0 (by simp)
  injection e with e
  injection e with e1 e2
  subst e1 e2
  rw [Nat.zero_mul, Nat.add_zero] at q0 q1 q2 q3 q4
  replace q0 : w.cell? ⟨pb, po, none⟩ = some (.int .i64 1) := by rw [← hd0]; exact q0
  replace q3 : w.cell? ⟨pb, po + 3, none⟩ = some (.string defS) := by rw [← hd3]; exact q3
  obtain ⟨_, r0, r1, r2, r3, r4⟩ := HP 1 (by simp)
  replace r0 : w.cell? ⟨pb, po + 5, none⟩ = some (.int .i64 1) := by rw [← hz0]; exact r0
  have hC1 := C_drop hA 1 (body.length + 1) (by simp; omega)
  have e5 : ((d :: z :: body).drop 1).take (body.length + 1) = z :: body := by simp
  rw [e5, Nat.one_mul] at hC1
  have HDF : Aside0 (∀ W, Below w.heap.size w W → Calls Try.prog 33 #[.pointer (some ⟨gq, 0, none⟩), .slice (some ⟨pb, po + 5, none⟩) (n - 1) (n - 1), .int .i64 at_] W fun e w' => e = .returned (.tuple #[]) ∧ (∃ cl', w'.heap[mb]? = some (.map #[⟨.string zzS, macV A2 (n - 1 - 1) (n - 1 - 1), cl'⟩] (cl' + 1))) ∧ (∀ base, base ≤ mb → Below base W w') ∧ Told mb none W w') := ⟨fun W hb =>
    define_walk W gq mb cl (n - 1) (n - 1) pb (po + 5) zzS at_ uses (.slice none 0 0) out (z :: body) (Kd.C_below hC1 hb) (by simp; omega) (Nat.le_refl _) (by omega) (by omega) (fun _ => ⟨hz0, hz3⟩) (fun h => by simpa using hbr _ (List.getElem_mem (by simpa using h))) (by simp [go_sem]) A2 hA2 (blk_below hq hb) ((hb.block mb (blk_lt hm)).trans hm)⟩
  have HQ := Aside0.mk hq
  have HM := Aside0.mk (blk_lt hm)
  have HKP : Aside0 (∀ W, Below w.heap.size w W → Calls Try.prog 16 #[.pointer (some ⟨gq, 0, none⟩)] W fun e w' => e = .returned (.bool true) ∧ Drawn0 W w') := ⟨fun W hb => kept_none W gq ((blk_cell (blk_below hq hb) 2).trans rfl)⟩
  have hn1 : (n = 1) = False := eq_false (by omega)
  have d0 : ((n : Int) > (0 : Int)) = True := eq_true (by omega)
  have d0' : ((0 : Int) < (n : Int)) = True := eq_true (by omega)
  have hn3 : 2 ≤ n := by omega
  have HR0 := Aside0.mk r0
  clear q1 q2 q4 r1 r2 r3 r4 HP hA hC1 e5 hq hm hd0 hd3 hz0 hz3 hA2 hn hbr r0
  go_enter Try.func18, Try.ntmps18
  go_upto_region 13 with fail
  go_upto_region 14 with (go_at_call 16; refine (HKP.out _ (Below.refl _ _)).mono ?_; rintro e w1 ⟨rfl, hD⟩; have HB1 := Aside0.mk hD.below; clear hD)
  have r0 := pw_cell_below HB1.out HR0.out
  have HDD := Aside0.mk (HDF.out w1 HB1.out)
  clear q0 q3
  go_wp2_with (go_at_call 33; refine HDD.out.mono ?_; rintro e w2 ⟨rfl, hm2, hb2, ht2⟩; have H2 := Aside0.mk (And.intro hm2 (And.intro hb2 ht2)); clear hm2 hb2 ht2)
  all_goals (
    refine ⟨rfl, .tuple #[], (by simp [results, Try.results18, go_sem]), rfl, H2.out.1, fun base hle => (HB1.out.mono (Nat.le_trans hle (Nat.le_of_lt HM.out))).trans (H2.out.2.1 base hle), ((Told.refl mb none w).below HB1.out).trans H2.out.2.2⟩)
end Go.Proofs.Ytlbiideeljbhlaa.Pr
