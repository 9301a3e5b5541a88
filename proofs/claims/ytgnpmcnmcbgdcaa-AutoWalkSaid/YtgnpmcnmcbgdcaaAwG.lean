/- What 'each' does at a place: with what is asked of each way, with what meets each way's place. Condition: rows within the form's reach. -/
import Derived.Test.YtgnpmcnmcbgdcaaAwE2
set_option linter.unusedSimpArgs false
set_option linter.unusedVariables false
namespace Go.Proofs.Ytgnpmcnmcbgdcaa.Aw
open Go.RowKit Go.Proofs.YtgnpmcnmcbgdcaaW.PrintWords Go.Proofs.YtgnpmcnmcbgdcaaW.PrintLast Go.Proofs.YtgnpmcnmcbgdcaaW.PrintMore Go.Proofs.Ytgnpmcnmcbgdcaa.PAutoWalk

theorem R_keepT {α : Type} {d : Kd α} {e base : Nat} {W W1 : World} {ok : Nat → Prop} {v : Value} {xs : List α} {T : List Nat} (h : d.R e W base ok v xs) (hk : KeepT T W W1) (ht : ∀ q, q ∈ e :: d.E → q ∉ T) : d.R e W1 base ok v xs := by
  refine Kd.R_mono (Kd.R_move (Kd.R_bound h) (fun k hk' => ?_)) (fun _ hk => hk.1)
  obtain ⟨_, _, _, q, hq, cells, hc⟩ := hk'
  rw [hk.block k cells q (ht q hq) hc, hc]

theorem each_ok_place (w W0 : World) (S : World → Prop) (g2 g7 g8 n c : Nat) (A A0 A1 : Option Addr) (c0 c1 b0 o0 b1 o1 : Nat) (l : S36) (E : Nat → Option Addr) (ec eb eo : Nat → Nat) (hPA : PlaceAt w l A0 A1 b0 o0 b1 o1 E ec eb eo)
    (hS4 : ∀ W, S W → W.cell? ⟨g2, 4, none⟩ = some (.slice A n c)) (hS7 : ∀ W, S W → W.cell? ⟨g7, 0, none⟩ = some (insideF g2)) (hSb : ∀ W, S W → Below w.heap.size w W) (hSm : ∀ W W', S W → KeepT [4] W W' → Below w.heap.size w W' → S W')
    (hg8 : w.heap.size ≤ g8) (hl0 : l.f0.length ≤ 4611686018427387904) (hl1 : l.f1.length ≤ 4611686018427387904) (hl2 : ∀ i (h : i < l.f1.length), l.f1[i].length ≤ 4611686018427387904) (b : Bool) (hI : S W0 ∧ W0.heap[g8]? = some (.cells #[.bool b] 4 (0, 0))) :
    Calls Try.prog 9 #[.agg #[.slice A0 l.f0.length c0, .slice A1 l.f1.length c1, .bool l.f2, .bool l.f3, .bool l.f4, .bool l.f5, .bool l.f6], .func (.func 10) #[] #[.pointer (some ⟨g8, 0, none⟩), .pointer (some ⟨g7, 0, none⟩)]] W0 fun e w' => e = .returned (.tuple #[]) ∧ Aside0 ((S w' ∧ w'.heap[g8]? = some (.cells #[.bool (b && (ways l).all (fun x => insideL n x.f1))] 4 (0, 0))) ∧ KeepT [4] W0 w') := by
  have hdo : ∀ (d : List S40) (x : S40) (pb po : Nat) (W : World), (S W ∧ W.heap[g8]? = some (.cells #[.bool (b && d.all (fun x => insideL n x.f1))] 4 (0, 0))) → w.cell? ⟨pb, po + 7, none⟩ = some (.int .i64 x.f1) → Calls Try.prog 10 #[.pointer (some ⟨pb, po, none⟩), .pointer (some ⟨g8, 0, none⟩), .pointer (some ⟨g7, 0, none⟩)] W fun e w' => e = .returned (.tuple #[]) ∧ Aside0 ((S w' ∧ w'.heap[g8]? = some (.cells #[.bool (b && (d ++ [x]).all (fun x => insideL n x.f1))] 4 (0, 0))) ∧ KeepT [4] W w') := by
    intro d x pb po W ⟨hs, h8⟩ hx
    refine (ok_walk W g2 g7 g8 pb po n c A _ x.f1 (hS4 W hs) (hS7 W hs) ((blk_cell h8 0).trans rfl) (blk_frozen h8 0) (pw_cell_below (hSb W hs) hx)).mono ?_
    rintro e w' ⟨rfl, nd, rfl⟩
    have h8' := blk_drewN h8 nd
    have hk : KeepT [4] W ((W.drewN nd).setCell ⟨g8, 0, none⟩ (.bool ((b && d.all fun x => insideL n x.f1) && insideL n x.f1))) := ((KeepT.refl _ _).drewN nd).set h8' (by decide) _ _
    refine ⟨rfl, ⟨⟨hSm W _ hs hk ((pw_below_drewN (hSb W hs) nd).setCell hg8 _), ?_⟩, hk⟩⟩
    have := blk_set h8' 0 (.bool ((b && d.all fun x => insideL n x.f1) && insideL n x.f1))
    rw [List.all_append, List.all_cons, List.all_nil, Bool.and_true, ← Bool.and_assoc]
    exact this
  refine each_ok W0 g8 g7 [4] (by decide) (fun d W => S W ∧ W.heap[g8]? = some (.cells #[.bool (b && d.all (fun x => insideL n x.f1))] 4 (0, 0))) A0 A1 c0 c1 b0 o0 b1 o1 l E ec eb eo hPA.h0 hPA.h1 hPA.hE (fun d W h i hi => pw_cell_below (hSb W h.1) (hPA.esc i hi).1) (fun d W W' h hb => ⟨hSm W W' h.1 (KeepT.below hb) (below_then (hSb W h.1) (hSb W h.1).size hb), blk_below h.2 hb⟩) (fun i h W hW => ?_) (fun i h k hk W hW => ?_) hl0 hl1 hl2 ⟨hI.1, by simpa using hI.2⟩
  · rw [flat_take l i h]
    exact hdo _ _ _ _ W hW (hPA.t0 i h)
  · rw [flat_take1 l _ i h k hk]
    exact hdo _ _ _ _ W hW (hPA.t1 i h k hk)

theorem each_meet_place (w W0 : World) (S : World → Prop) (g14 g15 gx g16 n b : Nat) (B A0 A1 : Option Addr) (c0 c1 b0 o0 b1 o1 : Nat) (l : S36) (E : Nat → Option Addr) (ec eb eo : Nat → Nat) (hPA : PlaceAt w l A0 A1 b0 o0 b1 o1 E ec eb eo)
    (hS16 : ∀ W, S W → W.cell? ⟨g16, 0, none⟩ = some (meetF g14 g15)) (hSb : ∀ W, S W → Below w.heap.size w W) (hSm : ∀ W W', S W → KeepT [3, 27] W W' → Below w.heap.size w W' → W'.heap[gx]? = W.heap[gx]? → S W')
    (hl0 : l.f0.length ≤ 4611686018427387904) (hl1 : l.f1.length ≤ 4611686018427387904) (hl2 : ∀ i (h : i < l.f1.length), l.f1[i].length ≤ 4611686018427387904) (s : List Int × List Int) (hG : Good n s) (hw : ∀ x, x ∈ ways l → insideL n x.f1 = true) (hn : n + 1 ≤ 17592186044416) (hI : S W0 ∧ ∃ O m o, MW w.heap.size W0 g14 g15 gx B O n b m o s) :
    Calls Try.prog 9 #[.agg #[.slice A0 l.f0.length c0, .slice A1 l.f1.length c1, .bool l.f2, .bool l.f3, .bool l.f4, .bool l.f5, .bool l.f6], .func (.func 13) #[] #[.pointer (some ⟨g16, 0, none⟩)]] W0 fun e w' => e = .returned (.tuple #[]) ∧ Aside0 ((S w' ∧ ∃ O m o, MW w.heap.size w' g14 g15 gx B O n b m o (meetsL s (ways l))) ∧ KeepT [3, 27] W0 w') := by
  have hdo : ∀ (d : List S40) (x : S40) (pb po : Nat) (W : World), (∀ y, y ∈ d → y ∈ ways l) → x ∈ ways l → (S W ∧ ∃ O m o, MW w.heap.size W g14 g15 gx B O n b m o (meetsL s d)) → w.cell? ⟨pb, po + 7, none⟩ = some (.int .i64 x.f1) → Calls Try.prog 13 #[.pointer (some ⟨pb, po, none⟩), .pointer (some ⟨g16, 0, none⟩)] W fun e w' => e = .returned (.tuple #[]) ∧ Aside0 ((S w' ∧ ∃ O m o, MW w.heap.size w' g14 g15 gx B O n b m o (meetsL s (d ++ [x]))) ∧ KeepT [3, 27] W w') := by
    intro d x pb po W hd hx ⟨hs, O, m, o, hM⟩ hc
    have hGd := (good_meets d hG (fun y hy => hw y (hd y hy))).1
    have hin := (insideL_iff n x.f1).1 (hw x hx)
    refine (meets_walk w.heap.size W g14 g15 gx g16 pb po B O n b m o _ hM x.f1 (pw_cell_below (hSb W hs) hc) (hS16 W hs) hin.1 hin.2 (by have := hM.lens.2; have := hGd.le; omega) (hSb W hs).size).mono ?_
    rintro e w' ⟨rfl, hP⟩
    rw [meetsL_snoc]
    exact ⟨rfl, ⟨⟨hSm W w' hs hP.keep ((hSb W hs).trans hP.below) hP.far, hP.ex⟩, hP.keep⟩⟩
  have m0 : ∀ i (h : i < l.f0.length), l.f0[i] ∈ ways l := fun i h => List.mem_append_left _ (List.getElem_mem h)
  have m1 : ∀ i (h : i < l.f1.length) k (hk : k < l.f1[i].length), l.f1[i][k] ∈ ways l := fun i h k hk => List.mem_append_right _ (List.mem_flatten.2 ⟨_, List.getElem_mem h, List.getElem_mem hk⟩)
  refine (each_meet W0 g16 0 [3, 27] (by decide) (fun d W => (∀ y, y ∈ d → y ∈ ways l) ∧ S W ∧ ∃ O m o, MW w.heap.size W g14 g15 gx B O n b m o (meetsL s d)) A0 A1 c0 c1 b0 o0 b1 o1 l E ec eb eo hPA.h0 hPA.h1 hPA.hE (fun d W h i hi => pw_cell_below (hSb W h.2.1) (hPA.esc i hi).1) (fun d W W' h hb => ⟨h.1, hSm W W' h.2.1 (KeepT.below hb) (below_then (hSb W h.2.1) (hSb W h.2.1).size hb) (hb.block gx ?_), ?_⟩) (fun i h W hW => ?_) (fun i h k hk W hW => ?_) hl0 hl1 hl2 ⟨fun y hy => by simp at hy, hI⟩).mono (fun e w' h => ⟨h.1, ⟨⟨h.2.out.1.2, h.2.out.2⟩⟩⟩)
  · obtain ⟨O, m, o, hM⟩ := h.2.2
    exact hM.far.1
  · obtain ⟨O, m, o, hM⟩ := h.2.2
    exact ⟨O, m, o, hM.on hb⟩
  · rw [flat_take l i h]
    refine (hdo _ _ _ _ W hW.1 (m0 i h) hW.2 (hPA.t0 i h)).mono (fun e w' h' => ⟨h'.1, ⟨⟨fun y hy => ?_, h'.2.out.1⟩, h'.2.out.2⟩⟩)
    rcases List.mem_append.1 hy with hy | hy
    · exact hW.1 y hy
    · rw [List.mem_singleton.1 hy]
      exact m0 i h
  · rw [flat_take1 l _ i h k hk]
    refine (hdo _ _ _ _ W hW.1 (m1 i h k hk) hW.2 (hPA.t1 i h k hk)).mono (fun e w' h' => ⟨h'.1, ⟨⟨fun y hy => ?_, h'.2.out.1⟩, h'.2.out.2⟩⟩)
    rcases List.mem_append.1 hy with hy | hy
    · exact hW.1 y hy
    · rw [List.mem_singleton.1 hy]
      exact m1 i h k hk
end Go.Proofs.Ytgnpmcnmcbgdcaa.Aw
