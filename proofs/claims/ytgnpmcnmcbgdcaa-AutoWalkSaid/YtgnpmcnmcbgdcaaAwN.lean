/- Like proctypes are like, by the reference's words. Condition: fewer than 2^63 entries. -/
import Derived.Test.YtgnpmcnmcbgdcaaAwM
set_option linter.unusedSimpArgs false
set_option linter.unusedVariables false
namespace Go.Proofs.Ytgnpmcnmcbgdcaa.Aw
open Go.RowKit Go.Proofs.YtgnpmcnmcbgdcaaW.PrintWords Go.Proofs.YtgnpmcnmcbgdcaaW.PrintLast Go.Proofs.YtgnpmcnmcbgdcaaW.PrintMore Go.Proofs.Ytgnpmcnmcbgdcaa.PAutoWalk

/-- A proctype's value. -/
abbrev prV (nm : ByteArray) (par st fi ac pr pv : Int) (Af Ai A : Option Addr) (nf cf ni ci n c : Nat) : Array Value := #[.string nm, .int .i64 par, .slice Af nf cf, .slice Ai ni ci, .slice A n c, .int .i64 st, .int .i64 fi, .int .i64 ac, .int .i64 pr, .int .i64 pv]

theorem types_walk (W : World) (A : Option Addr) (n c : Nat) (l : List S62) (hn : n = l.length) (hA : k62.C W A l.length l) (hc : l.length ≤ c) (hl : l.length ≤ 9223372036854775807) :
    ∀ W', Below W.heap.size W W' → Calls Try.prog 20 #[.slice A n c, .slice A n c] W' fun e w' => e = .returned (.bool true) ∧ Drawn0 W' w' := by
  intro W' hb
  subst hn
  exact spinneretref09_sameTypes.calls _ A c l A c l true W' (Kd.C_below hA hb) hc (Kd.C_below hA hb) hc (types_same l hl)
theorem nums_walk (W : World) (A : Option Addr) (n c : Nat) (l : List Int) (hn : n = l.length) (hA : k1.C W A l.length l) (hc : l.length ≤ c) (hl : l.length ≤ 9223372036854775807) :
    ∀ W', Below W.heap.size W W' → Calls Try.prog 21 #[.slice A n c, .slice A n c] W' fun e w' => e = .returned (.bool true) ∧ Drawn0 W' w' := by
  intro W' hb
  subst hn
  exact spinneretref09_sameNumbers.calls _ A c l A c l true W' (Kd.C_below hA hb) hc (Kd.C_below hA hb) hc (numbers_same l hl)
theorem locs_same (W : World) (A B : Option Addr) (n ca cb : Nat) (l : List S36) (hn : n = l.length) (hA : k36.C W A l.length l) (hB : k36.C W B l.length l) (hl : l.length ≤ 9223372036854775806) (hf : ∀ x, x ∈ l → FewL x) :
    ∀ W', Below W.heap.size W W' → Calls Try.prog 22 #[.slice A n ca, .slice B n cb] W' fun e w' => e = .returned (.bool true) ∧ Below W'.heap.size W' w' := by
  intro W' hb
  subst hn
  exact sameLocs_walk W' A B ca cb l (Kd.C_below hA hb) (Kd.C_below hB hb) hl hf

theorem blk_new' (W : World) (o : Obj) (o2 : Obj) : ((W.alloc o).alloc o2).heap[W.heap.size + 1]? = some o2 := by
  have h := blk_new (W.alloc o) o2
  rwa [show (W.alloc o).heap.size = W.heap.size + 1 by simp] at h

set_option maxHeartbeats 2000000 in
set_option maxRecDepth 100000 in
theorem sameProc_walk (W : World) (nm : ByteArray) (par st fi ac pr pv : Int) (Af Ai A B : Option Addr) (nf cf ni ci n c d : Nat) (fr : List S62) (ini : List Int) (locs : List S36)
    (hnf : nf = fr.length) (hF : k62.C W Af fr.length fr) (hcf : fr.length ≤ cf) (hlf : fr.length ≤ 9223372036854775807)
    (hni : ni = ini.length) (hI : k1.C W Ai ini.length ini) (hci : ini.length ≤ ci) (hli : ini.length ≤ 9223372036854775807)
    (hn : n = locs.length) (hA : k36.C W A locs.length locs) (hB : k36.C W B locs.length locs) (hl : locs.length ≤ 9223372036854775806) (hf : ∀ x, x ∈ locs → FewL x) :
    Calls Try.prog 6 #[.agg (prV nm par st fi ac pr pv Af Ai A nf cf ni ci n c), .agg (prV nm par st fi ac pr pv Af Ai B nf cf ni ci n d)] W fun e w' => e = .returned (.bool true) ∧ Below W.heap.size W w' := by
  have HT := Aside0.mk (types_walk W Af nf cf fr hnf hF hcf hlf)
  have HI := Aside0.mk (nums_walk W Ai ni ci ini hni hI hci hli)
  have HL := Aside0.mk (locs_same W A B n c d locs hn hA hB hl hf)
  clear hnf hF hcf hlf hni hI hci hli hn hA hB hl hf
  unfold prV
  go_enter Try.func6, Try.ntmps6
  go_upto_region 1 with fail
  obtain ⟨g2, hg2⟩ : ∃ g2, g2 = W.heap.size := ⟨_, rfl⟩
  rw [← hg2]
  refine wp_world (fun W1 => Aside0 (Below W.heap.size W W1 ∧ W1.heap[g2]? = some (.cells #[.string nm, .int .i64 par, .slice Af nf cf, .slice Ai ni ci, .slice A n c, .int .i64 st, .int .i64 fi, .int .i64 ac, .int .i64 pr, .int .i64 pv] 26 (0, 0)) ∧ W1.heap[g2 + 1]? = some (.cells #[.string nm, .int .i64 par, .slice Af nf cf, .slice Ai ni ci, .slice B n d, .int .i64 st, .int .i64 fi, .int .i64 ac, .int .i64 pr, .int .i64 pv] 26 (0, 0)))) ⟨below_alloc (below_alloc (Below.refl _ _) _) _, by rw [hg2]; exact blk_below (blk_new _ _) (below_alloc (Below.refl _ _) _), by rw [hg2]; exact blk_new' _ _ _⟩ (fun W1 H1 => ?_)
  clear hg2
  have y2 : W1.cell? ⟨g2, 2, none⟩ = some (.slice Af nf cf) := (blk_cell H1.out.2.1 2).trans rfl
  have u2 : W1.cell? ⟨g2 + 1, 2, none⟩ = some (.slice Af nf cf) := (blk_cell H1.out.2.2 2).trans rfl
  go_upto_region 2 with (go_at_call 20; refine (HT.out _ H1.out.1).mono ?_; rintro e w2 ⟨rfl, hD⟩; have HD := Aside0.mk hD.below; clear hD)
  clear y2 u2
  have H2 := Aside0.mk (And.intro (below_then H1.out.1 H1.out.1.size HD.out) (And.intro (blk_below H1.out.2.1 HD.out) (blk_below H1.out.2.2 HD.out)))
  clear H1 HD
  have y3 : w2.cell? ⟨g2, 3, none⟩ = some (.slice Ai ni ci) := (blk_cell H2.out.2.1 3).trans rfl
  have u3 : w2.cell? ⟨g2 + 1, 3, none⟩ = some (.slice Ai ni ci) := (blk_cell H2.out.2.2 3).trans rfl
  go_upto_region 3 with (go_at_call 21; refine (HI.out _ H2.out.1).mono ?_; rintro e w3 ⟨rfl, hD⟩; have HD := Aside0.mk hD.below; clear hD)
  clear y3 u3
  have H3 := Aside0.mk (And.intro (below_then H2.out.1 H2.out.1.size HD.out) (And.intro (blk_below H2.out.2.1 HD.out) (blk_below H2.out.2.2 HD.out)))
  clear H2 HD
  have y4 : w3.cell? ⟨g2, 4, none⟩ = some (.slice A n c) := (blk_cell H3.out.2.1 4).trans rfl
  have u4 : w3.cell? ⟨g2 + 1, 4, none⟩ = some (.slice B n d) := (blk_cell H3.out.2.2 4).trans rfl
  go_upto_region 4 with (go_at_call 22; refine (HL.out _ H3.out.1).mono ?_; rintro e w4 ⟨rfl, hD⟩; have HD := Aside0.mk hD; clear hD)
  clear y4 u4
  have H4 := Aside0.mk (And.intro (below_then H3.out.1 H3.out.1.size HD.out) (And.intro (blk_below H3.out.2.1 HD.out) (blk_below H3.out.2.2 HD.out)))
  clear H3 HD
  have y0 : w4.cell? ⟨g2, 0, none⟩ = some (.string nm) := (blk_cell H4.out.2.1 0).trans rfl
  have y1 : w4.cell? ⟨g2, 1, none⟩ = some (.int .i64 par) := (blk_cell H4.out.2.1 1).trans rfl
  have y5 : w4.cell? ⟨g2, 5, none⟩ = some (.int .i64 st) := (blk_cell H4.out.2.1 5).trans rfl
  have y6 : w4.cell? ⟨g2, 6, none⟩ = some (.int .i64 fi) := (blk_cell H4.out.2.1 6).trans rfl
  have y7 : w4.cell? ⟨g2, 7, none⟩ = some (.int .i64 ac) := (blk_cell H4.out.2.1 7).trans rfl
  have y8 : w4.cell? ⟨g2, 8, none⟩ = some (.int .i64 pr) := (blk_cell H4.out.2.1 8).trans rfl
  have y9 : w4.cell? ⟨g2, 9, none⟩ = some (.int .i64 pv) := (blk_cell H4.out.2.1 9).trans rfl
  have u0 : w4.cell? ⟨g2 + 1, 0, none⟩ = some (.string nm) := (blk_cell H4.out.2.2 0).trans rfl
  have u1 : w4.cell? ⟨g2 + 1, 1, none⟩ = some (.int .i64 par) := (blk_cell H4.out.2.2 1).trans rfl
  have u5 : w4.cell? ⟨g2 + 1, 5, none⟩ = some (.int .i64 st) := (blk_cell H4.out.2.2 5).trans rfl
  have u6 : w4.cell? ⟨g2 + 1, 6, none⟩ = some (.int .i64 fi) := (blk_cell H4.out.2.2 6).trans rfl
  have u7 : w4.cell? ⟨g2 + 1, 7, none⟩ = some (.int .i64 ac) := (blk_cell H4.out.2.2 7).trans rfl
  have u8 : w4.cell? ⟨g2 + 1, 8, none⟩ = some (.int .i64 pr) := (blk_cell H4.out.2.2 8).trans rfl
  have u9 : w4.cell? ⟨g2 + 1, 9, none⟩ = some (.int .i64 pv) := (blk_cell H4.out.2.2 9).trans rfl
  go_wp2
  go_ret
  exact ⟨rfl, H4.out.1⟩
end Go.Proofs.Ytgnpmcnmcbgdcaa.Aw
