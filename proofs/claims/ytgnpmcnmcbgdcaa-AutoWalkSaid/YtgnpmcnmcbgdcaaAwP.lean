/- How the places of a proctype are numbered by the reference: the walk of spinneretref09.Walk. Condition: rows within the form's reach. -/
import Derived.Test.YtgnpmcnmcbgdcaaAwO
import Derived.Deep.RegionLaw
import Derived.Deep.RegionHeld3
import Derived.StillTailTactics
set_option linter.unusedSimpArgs false
set_option linter.unusedVariables false
namespace Go.Proofs.Ytgnpmcnmcbgdcaa.Aw
open Go.RowKit Go.Proofs.YtgnpmcnmcbgdcaaW.PrintWords Go.Proofs.YtgnpmcnmcbgdcaaW.PrintLast Go.Proofs.YtgnpmcnmcbgdcaaW.PrintMore Go.Proofs.Ytgnpmcnmcbgdcaa.PAutoWalk

/-- The walk's own blocks. -/
structure RwS (w W : World) (P : Array Value) : Prop where
  b2 : W.heap[w.heap.size]? = some (.cells P 26 (0, 0))
  b4 : W.heap[w.heap.size + 1]? = some (.cells #[.string ⟨#[]⟩, .int .i64 0, .slice none 0 0, .slice none 0 0, .slice none 0 0, .int .i64 0, .int .i64 0, .int .i64 0, .int .i64 0, .int .i64 0] 26 (0, 0))
  below : Below w.heap.size w W
theorem RwS.on {w W W1 : World} {P : Array Value} (h : RwS w W P) (hb : Below W.heap.size W W1) : RwS w W1 P := ⟨blk_below h.b2 hb, blk_below h.b4 hb, below_then h.below h.below.size hb⟩
theorem RwS.keep {w W W1 : World} {P : Array Value} (h : RwS w W P) {T : List Nat} (h26 : 26 ∉ T) (hk : KeepT T W W1) (hb : Below w.heap.size w W1) : RwS w W1 P := ⟨hk.block _ _ _ h26 h.b2, hk.block _ _ _ h26 h.b4, hb⟩

theorem RwS.set {w W : World} {P : Array Value} (h : RwS w W P) {g : Nat} (h0 : w.heap.size + 1 < g) (i : Nat) (v : Value) : RwS w (W.setCell ⟨g, i, none⟩ v) P := ⟨blk_far (p := ⟨g, i, none⟩) h.b2 (by show w.heap.size ≠ g; omega) v, blk_far (p := ⟨g, i, none⟩) h.b4 (by show w.heap.size + 1 ≠ g; omega) v, h.below.setCell (by show w.heap.size ≤ g; omega) v⟩
theorem GW.set {base : Nat} {W : World} {g : Nat} {B O : Option Addr} {n b m o : Nat} {s : List Int × List Int} (h : GW base W g B O n b m o s) {g1 t : Nat} {cs : Array Value} (hb : W.heap[g1]? = some (.cells cs t (0, 0))) (ht : t ≠ 51) (ht3 : t ≠ 3) (i : Nat) (v : Value) : GW base (W.setCell ⟨g1, i, none⟩ v) g B O n b m o s := ⟨blk_far (p := ⟨g1, i, none⟩) h.blk (blk_ne h.blk hb (fun e => ht e.symm)) v, h.le, Kd.R_set h.num hb (by show ∀ q, q ∈ [3] → q ≠ t; intro q hq; simp at hq; omega) i v, Kd.R_set h.ord hb (by show ∀ q, q ∈ [3] → q ≠ t; intro q hq; simp at hq; omega) i v⟩

theorem fits_walk (W : World) (nm : ByteArray) (par st fi ac pr pv : Int) (Af Ai A Am : Option Addr) (nf cf ni ci n c m cm : Nat) (fr : List S62) (ini : List Int) (locs : List S36) (more : List Int)
    (hnf : nf = fr.length) (hF : k62.C W Af fr.length fr) (hcf : fr.length ≤ cf) (hni : ni = ini.length) (hI : k1.C W Ai ini.length ini) (hci : ini.length ≤ ci)
    (hn : n = locs.length) (hl : k36.C W A locs.length locs) (hcl : locs.length ≤ c) (hmm : m = more.length) (hm : k1.C W Am more.length more) (hcm : more.length ≤ cm) (hln : locs.length ≤ 2513169434843) (hmn : more.length ≤ 17592186043904) (hrow : ∀ l, l ∈ locs → l.f0.length ≤ 1256584717428 ∧ l.f1.length ≤ 5864062014634 ∧ ∀ r, r ∈ l.f1 → r.length ≤ 1256584717428) :
    ∀ W', Below W.heap.size W W' → Calls Try.prog 16 #[.agg #[.string nm, .int .i64 par, .slice Af nf cf, .slice Ai ni ci, .slice A n c, .int .i64 st, .int .i64 fi, .int .i64 ac, .int .i64 pr, .int .i64 pv], .slice Am m cm] W' fun e w' => e = .returned (.bool (okL locs (st :: fi :: more))) ∧ Below W'.heap.size W' w' := by
  intro W' hb
  subst hnf hni hn hmm
  obtain ⟨k, hk⟩ := fits_law nm par fr ini locs st fi ac pr pv more (by omega) (by omega) (fun l h => ⟨by have := (hrow l h).1; omega, by have := (hrow l h).2.1; omega, fun e he => by have := (hrow l h).2.2 e he; omega⟩)
  exact spinneretref09_fits.calls k nm par Af cf fr Ai ci ini A c locs st fi ac pr pv Am cm more _ W' (Kd.C_below hF hb) hcf (Kd.C_below hI hb) hci (Kd.C_below hl hb) hcl (Kd.C_below hm hb) hcm hk

theorem row_cell {w W : World} {b n : Nat} {rows : List (List S40)} (h : (kF w).C W (some ⟨b, 0, none⟩) n rows) (i : Nat) (hi : i < rows.length) : ∃ (E : Option Addr) (c eb eo : Nat), W.cell? ⟨b, i, none⟩ = some (.slice E rows[i].length c) ∧ (0 < rows[i].length → E = some ⟨eb, eo, none⟩) ∧ ∀ j (hj : j < rows[i].length), w.cell? ⟨eb, eo + j * 9 + 7, none⟩ = some (.int .i64 rows[i][j].f1) := by
  obtain ⟨b', o', r⟩ := row_at h (by show 0 < 1; decide)
  obtain ⟨e, cs, _, ⟨E, c, rfl, hlc, hC⟩, hcc⟩ := r i hi
  obtain ⟨eb, eo, re⟩ := row_at hC (by show 0 < 9; decide)
  injection e with e
  injection e with e1 e2
  subst e1 e2
  refine ⟨E, c, eb, eo, ?_, fun hp => (re 0 hp).1, fun j hj => ?_⟩
  · have := hcc 0 _ rfl
    simpa [kF, Kd.fixed, Kd.slice] using this
  · obtain ⟨_, cs, _, hK, hcc⟩ := re j hj
    exact hcc 7 _ (way_to hK)

set_option maxHeartbeats 8000000 in
set_option maxRecDepth 100000 in
theorem ref_walk (w : World) (nm : ByteArray) (par st fi ac pr pv : Int) (Af Ai A Am : Option Addr) (nf cf ni ci c cm : Nat) (fr : List S62) (ini : List Int) (locs : List S36) (more : List Int)
    (hnf : nf = fr.length) (hF : k62.C w Af fr.length fr) (hcf : fr.length ≤ cf) (hni : ni = ini.length) (hI : k1.C w Ai ini.length ini) (hci : ini.length ≤ ci)
    (hl : k36.C w A locs.length locs) (hcl : locs.length ≤ c) (hm : k1.C w Am more.length more) (hcm : more.length ≤ cm)
    (hln : locs.length ≤ 2513169434843) (hmn : more.length ≤ 17592186043904) (hrow : ∀ l, l ∈ locs → l.f0.length ≤ 1256584717428 ∧ l.f1.length ≤ 5864062014634 ∧ ∀ r, r ∈ l.f1 → r.length ≤ 1256584717428) :
    Calls Try.prog 5 #[.agg #[.string nm, .int .i64 par, .slice Af nf cf, .slice Ai ni ci, .slice A locs.length c, .int .i64 st, .int .i64 fi, .int .i64 ac, .int .i64 pr, .int .i64 pv], .slice Am more.length cm] w fun e w' => AutoPost w nm par st fi ac pr pv Af Ai nf cf ni ci locs more e w' := by
  obtain ⟨n, hn⟩ : ∃ n, n = locs.length := ⟨_, rfl⟩
  obtain ⟨m1, hm1⟩ : ∃ m1, m1 = more.length := ⟨_, rfl⟩
  have HFIT := Aside0.mk (fits_walk w nm par st fi ac pr pv Af Ai A Am nf cf ni ci n c m1 cm fr ini locs more hnf hF hcf hni hI hci hn hl hcl hm1 hm hcm hln hmn hrow)
  have HL := Aside0.mk hl
  have HM := Aside0.mk hm
  rw [← hn] at hln ⊢
  rw [← hm1] at hmn ⊢
  have HN := Aside0.mk hn
  have HM1 := Aside0.mk hm1
  have HROW := Aside0.mk hrow
  clear hl hm hn hm1 hrow hF hI hnf hni hcf hci hcl hcm
  go_enter Try.func5, Try.ntmps5
  go_upto_region 1 with fail
  refine wp_world (fun W => Aside0 (RwS w W #[.string nm, .int .i64 par, .slice Af nf cf, .slice Ai ni ci, .slice A n c, .int .i64 st, .int .i64 fi, .int .i64 ac, .int .i64 pr, .int .i64 pv])) ⟨⟨blk_alloc (blk_new _ _) _, blk_new' _ _ _, below_alloc (below_alloc (Below.refl _ _) _) _⟩⟩ (fun W1 H1 => ?_)
  obtain ⟨g2, hg2⟩ : ∃ g2, g2 = w.heap.size := ⟨_, rfl⟩
  have HG := Aside0.mk hg2
  rw [← hg2]
  have hb2 : W1.heap[g2]? = some (.cells #[.string nm, .int .i64 par, .slice Af nf cf, .slice Ai ni ci, .slice A n c, .int .i64 st, .int .i64 fi, .int .i64 ac, .int .i64 pr, .int .i64 pv] 26 (0, 0)) := by rw [HG.out]; exact H1.out.b2
  obtain ⟨z0, z1, z2, z3, z4, z5, z6, z7, z8, z9⟩ := cells10 hb2
  clear hg2 hb2
  obtain ⟨ok, hok⟩ : ∃ ok, ok = okL locs (st :: fi :: more) := ⟨_, rfl⟩
  have HOK := Aside0.mk hok
  rw [← hok] at HFIT
  clear hok
  go_upto_region 2 with (go_at_call 16; refine (HFIT.out _ H1.out.below).mono ?_; rintro e w2 ⟨rfl, hD⟩; have HD := Aside0.mk hD; clear hD)
  clear z0 z1 z2 z3 z4 z5 z6 z7 z8 z9
  have H2 := Aside0.mk (H1.out.on HD.out)
  clear H1 HD
  cases ok with
  | false =>
    have hb4 : w2.heap[g2 + 1]? = some (.cells #[.string ⟨#[]⟩, .int .i64 0, .slice none 0 0, .slice none 0 0, .slice none 0 0, .int .i64 0, .int .i64 0, .int .i64 0, .int .i64 0, .int .i64 0] 26 (0, 0)) := by rw [HG.out]; exact H2.out.b4
    obtain ⟨z0, z1, z2, z3, z4, z5, z6, z7, z8, z9⟩ := cells10 hb4
    obtain ⟨y0, y1, y2, y3, y4, y5, y6, y7, y8, y9⟩ := frozen10 hb4
    clear hb4
    go_wp2
    refine bodyPost_ret (v := .tuple #[.agg #[.string ⟨#[]⟩, .int .i64 0, .slice none 0 0, .slice none 0 0, .slice none 0 0, .int .i64 0, .int .i64 0, .int .i64 0, .int .i64 0, .int .i64 0], .slice none 0 0, .int .i64 16]) (by simp [results, Try.results5, go_sem, *]) rfl ?_
    unfold AutoPost
    rw [if_neg (by rw [← HOK.out]; decide)]
    refine ⟨rfl, ?_⟩
    have hle : w.heap.size ≤ g2 + 1 := by have := HG.out; omega
    repeat (first | refine Below.setCell ?_ hle _ | exact H2.out.below)
  | true =>
    have hok2 := HOK.out.symm
    have HOK2 := Aside0.mk hok2
    clear hok2
    have hlt2 : w2.heap.size ≥ g2 + 2 := by have := blk_lt H2.out.b4; have := HG.out; omega
    obtain ⟨g8, hg8⟩ : ∃ g8, g8 = w2.heap.size := ⟨_, rfl⟩
    have HG8 := Aside0.mk (show g2 + 2 ≤ g8 by omega)
    go_upto_region 5 with fail
    rw [← hg8]
    refine wp_world (fun W => Aside0 (RwS w W #[.string nm, .int .i64 par, .slice Af nf cf, .slice Ai ni ci, .slice A n c, .int .i64 st, .int .i64 fi, .int .i64 ac, .int .i64 pr, .int .i64 pv] ∧ W.heap[g8]? = some (.cells #[.slice none 0 0, .slice none 0 0] 51 (0, 0)))) ⟨H2.out.on (below_alloc (Below.refl _ _) _), by rw [hg8]; exact blk_new _ _⟩ (fun W3 H3 => ?_)
    clear hg8 hlt2 H2
    go_wp2
    go_loopg [9] n (fun gg s9 wz => ∃ (i c' : Nat) (A' : Option Addr), i ≤ n ∧ n - i ≤ gg ∧ s9 = .int .i64 i ∧ Aside0 (RwS w wz #[.string nm, .int .i64 par, .slice Af nf cf, .slice Ai ni ci, .slice A n c, .int .i64 st, .int .i64 fi, .int .i64 ac, .int .i64 pr, .int .i64 pv] ∧ wz.heap[g8]? = some (.cells #[.slice A' i c', .slice none 0 0] 51 (0, 0)) ∧ k1.R 3 wz w.heap.size (fun _ => True) (.slice A' i c') (List.replicate i (-1))))
    case atStart => exact ⟨0, 0, none, Nat.zero_le _, Nat.le_of_eq (Nat.sub_zero _), rfl, ⟨H3.out.1, H3.out.2, Kd.R_nil _ _ _ _ _⟩⟩
    case round =>
      clear H3
      obtain ⟨i, c', A', hi, hg, rfl, HW⟩ := hrel
      have c24 : wr.cell? ⟨g2, 4, none⟩ = some (.slice A n c) := by rw [HG.out]; exact (blk_cell HW.out.1.b2 4).trans rfl
      by_cases hlt : i < n
      · have d0 : ((i : Int) < (n : Int)) = True := eq_true (by omega)
        have c80 : wr.cell? ⟨g8, 0, none⟩ = some (.slice A' i c') := (blk_cell HW.out.2.1 0).trans rfl
        have hsz := HW.out.1.below.size
        go_wp2_with (at_builtin; refine Kd.R_append k1 (w0 := w) w.heap.size rfl (.tmp 40) (.tmp 41) 27 3 (.int .i64 0) 8 rfl Try.underlying27 info3 rfl (by decide) (by decide) (.slice A' i c') (List.replicate i (-1)) (-1) [.int .i64 (-1)] (fun _ => True) (fun k => True ∧ some k ≠ (Value.slice A' i c').ownBlock) rfl rfl rfl (fun k hk => hk) (fun _ _ => trivial) HW.out.2.2 HW.out.1.below hsz (by rw [List.length_replicate]; omega) ?_; intro v1 w3 hR3 hB3 hG3 _; have hK3 : KeepT [3] wr w3 := (KeepT.refl _ _).grown hG3 hG3.size (fun k hk => by obtain ⟨cs, hcs⟩ := Kd.R_typed HW.out.2.2 k hk; exact ⟨cs, 3, by decide, hcs⟩); obtain ⟨A3, c3, e3⟩ := Kd.R_slice hR3; rw [List.length_append, List.length_replicate, List.length_singleton] at e3; subst e3; have hb3 := hK3.block _ _ _ (by decide) HW.out.2.1; have H3 := Aside0.mk (And.intro hR3 (And.intro hB3 (And.intro hK3 hb3))); have f3 := blk_frozen hb3 0; have c3' : w3.cell? ⟨g8, 0, none⟩ = some (.slice A' i c') := (blk_cell hb3 0).trans rfl; clear hR3 hB3 hG3 hK3 hb3)
        go_roundg (n - (i + 1))
        case measure => omega
        case rel =>
          refine ⟨i + 1, c3, A3, by omega, by omega, by go_num, ⟨?_, blk_set H3.out.2.2.2 0 _, ?_⟩⟩
          · have h := HW.out.1.keep (T := [3]) (by decide) H3.out.2.2.1 H3.out.2.1
            have hle : w.heap.size ≤ g8 := by have := HG8.out; have := HG.out; omega
            exact ⟨blk_far (p := ⟨g8, 0, none⟩) h.b2 (by have := HG8.out; have := HG.out; show w.heap.size ≠ g8; omega) _, blk_far (p := ⟨g8, 0, none⟩) h.b4 (by have := HG8.out; have := HG.out; show w.heap.size + 1 ≠ g8; omega) _, h.below.setCell hle _⟩
          · rw [List.replicate_succ', ]
            exact Kd.R_set H3.out.1 H3.out.2.2.2 (by decide) 0 _
      · have d0 : ((i : Int) < (n : Int)) = False := eq_false (by omega)
        obtain rfl : n = i := by omega
        have hgw : GW w.heap.size wr g8 A' none n c' 0 0 (List.replicate n (-1), []) := ⟨HW.out.2.1, by have := HG8.out; have := HG.out; omega, Kd.R_mono HW.out.2.2 (fun k hk => by simp [Value.ownBlock]), Kd.R_nil _ _ _ _ _⟩
        have hsi : 0 ≤ st ∧ st < (n : Int) := by have h := ok_root HOK2.out (r := st) List.mem_cons_self; have := HN.out; omega
        have HMT := Aside0.mk (gmeet_walk w.heap.size wr g8 A' none n c' 0 0 _ hgw st hsi.1 hsi.2 (by omega) HW.out.1.below.size)
        have HGD := Aside0.mk (good_meet (good_new n) st hsi)
        clear hgw hsi
        have c25 : wr.cell? ⟨g2, 5, none⟩ = some (.int .i64 st) := by rw [HG.out]; exact (blk_cell HW.out.1.b2 5).trans rfl
        go_upto_region 10 with (go_at_call 17; refine HMT.out.mono ?_; rintro e w9 ⟨rfl, hP⟩; have HP9 := Aside0.mk hP; clear hP)
        have HA9 := Aside0.mk (HW.out.1.keep (T := [3, 51]) (by decide) HP9.out.keep (HW.out.1.below.trans HP9.out.below))
        obtain ⟨pb, po, hp⟩ := place_at HL.out
        have HP := Aside0.mk hp
        clear hp HMT c24 c25 hlt hg hi
        clear HW
        go_wp2
        go_loopg [10, 11] (m1 + 1) (fun gg s10 s11 wz => ∃ (k d : Nat) (s : List Int × List Int), k ≤ m1 + 1 ∧ m1 + 1 - k ≤ gg ∧ s11 = .int .i64 k ∧ s10 = .int .i64 d ∧ Aside0 (RwS w wz #[.string nm, .int .i64 par, .slice Af nf cf, .slice Ai ni ci, .slice A n c, .int .i64 st, .int .i64 fi, .int .i64 ac, .int .i64 pr, .int .i64 pv] ∧ (∃ O m o, GW w.heap.size wz g8 A' O n c' m o s) ∧ Good n s ∧ d ≤ s.2.length ∧ drainL locs (n + 1) s d = runL locs (List.replicate n (-1), []) ((st :: more).take (k + 1)) ∧ (m1 < k → s.2.length ≤ d)))
        case atStart => exact ⟨0, 0, _, Nat.zero_le _, Nat.le_of_eq (Nat.sub_zero _), rfl, rfl, ⟨HA9.out, HP9.out.ex, HGD.out.1, Nat.zero_le _, by rw [HN.out]; rfl, fun h => by omega⟩⟩
        case round =>
          clear HA9 HP9 HGD
          obtain ⟨k, d, s, hk, hg, rfl, rfl, HW⟩ := hrel
          by_cases hlt : k ≤ m1
          · have d2 : ((k : Int) ≤ (m1 : Int)) = True := eq_true (by omega)
            obtain ⟨S1, hS1⟩ : ∃ S1, S1 = drainL locs (n + 1) s d := ⟨_, rfl⟩
            have HS1 := Aside0.mk hS1
            have HDN := Aside0.mk (show d ≤ n from Nat.le_trans HW.out.2.2.2.1 HW.out.2.2.1.le)
            clear hS1
            go_wp2
            go_loopg [10] n (fun gg s10 wz => ∃ (e kk : Nat) (s2 : List Int × List Int), e ≤ n ∧ n - e ≤ gg ∧ s10 = .int .i64 e ∧ Aside0 (RwS w wz #[.string nm, .int .i64 par, .slice Af nf cf, .slice Ai ni ci, .slice A n c, .int .i64 st, .int .i64 fi, .int .i64 ac, .int .i64 pr, .int .i64 pv] ∧ (∃ O m o, GW w.heap.size wz g8 A' O n c' m o s2) ∧ Good n s2 ∧ e ≤ s2.2.length ∧ drainL locs kk s2 e = S1 ∧ n - e < kk))
            case atStart => exact ⟨d, n + 1, s, HDN.out, by omega, rfl, ⟨HW.out.1, HW.out.2.1, HW.out.2.2.1, HW.out.2.2.2.1, HS1.out.symm, by omega⟩⟩
            case round =>
              obtain ⟨e, kk, s2, hen, hg2, rfl, HV⟩ := hrel
              obtain ⟨O, m, o, hM⟩ := HV.out.2.1
              have hml := hM.lens.2
              have c81 : wr.cell? ⟨g8, 1, none⟩ = some (.slice O m o) := (blk_cell hM.blk 1).trans rfl
              have HMW := Aside0.mk hM
              have HML := Aside0.mk hml
              by_cases hem : e < m
              · have d3 : ((e : Int) < (m : Int)) = True := eq_true (by omega)
                obtain ⟨go, oo, rfl, hoc⟩ := int_cell (Kd.R_reads' hM.ord).2.2 e (by omega)
                have hin := HV.out.2.2.1.inn (s2.2[e]'(by omega)) (List.getElem_mem _)
                have HGD := Aside0.mk (show s2.2.getD e 0 = s2.2[e]'(by omega) by rw [List.getD_eq_getElem?_getD, List.getElem?_eq_getElem (by omega)]; rfl)
                generalize s2.2[e]'(by omega) = x at hoc hin HGD
                obtain ⟨xn, rfl⟩ : ∃ xn : Nat, x = (xn : Int) := ⟨x.toNat, by omega⟩
                have hxl : xn < locs.length := by have := HN.out; omega
                have d4 : ((xn : Int) < (n : Int)) = True := eq_true (by omega)
                obtain ⟨rfl, A0, c0, A1, c1, hlc0, hC0, hlc1, hC1, q0, q1, q2, q3, q4, q5, q6⟩ := HP.out xn hxl
                have hrw := HROW.out _ (List.getElem_mem hxl)
                have HGX := Aside0.mk (show locs.getD (s2.2.getD e 0).toNat z36 = locs[xn] by rw [HGD.out, Int.toNat_natCast, List.getD_eq_getElem?_getD, List.getElem?_eq_getElem hxl]; rfl)
                have hwy := ok_loc HOK2.out xn hxl
                rw [← HN.out] at hwy
                have HWY := Aside0.mk hwy
                have p0 := pw_cell_below HV.out.1.below q0
                have p1 := pw_cell_below HV.out.1.below q1
                have p2 := pw_cell_below HV.out.1.below q2
                have p3 := pw_cell_below HV.out.1.below q3
                have p4 := pw_cell_below HV.out.1.below q4
                have p5 := pw_cell_below HV.out.1.below q5
                have p6 := pw_cell_below HV.out.1.below q6
                have c24 : wr.cell? ⟨g2, 4, none⟩ = some (.slice (some ⟨pb, po, none⟩) n c) := by rw [HG.out]; exact (blk_cell HV.out.1.b2 4).trans rfl
                have HGW := Aside0.mk (good_meets (ways locs[xn]) HV.out.2.2.1 hwy)
                have HRW := Aside0.mk hrw
                have HCC := Aside0.mk (And.intro hlc0 (And.intro hC0 hC1))
                generalize locs[xn] = l at HGX HGW HWY HRW HCC p0 p1 p2 p3 p4 p5 p6
                obtain ⟨n0, hn0⟩ : ∃ n0, n0 = l.f0.length := ⟨_, rfl⟩
                obtain ⟨n1, hn1⟩ : ∃ n1, n1 = l.f1.length := ⟨_, rfl⟩
                rw [← hn0] at p0
                rw [← hn1] at p1
                have HNN := Aside0.mk (And.intro hn0 hn1)
                have hn1b : n1 ≤ 5864062014634 := by rw [hn1]; exact HRW.out.2.1
                have HLI : Aside0 (∀ W, Below wr.heap.size wr W → Calls Try.prog 18 #[.agg #[.slice A0 n0 c0, .slice A1 n1 c1, .bool l.f2, .bool l.f3, .bool l.f4, .bool l.f5, .bool l.f6]] W fun e w' => ∃ L c', e = .returned (.slice L (n1 + 1) c') ∧ (kF w).R 33 w' W.heap.size (fun _ => True) (.slice L (n1 + 1) c') (l.f0 :: l.f1) ∧ Below W.heap.size W w') := ⟨fun W hb => lists_walk w W A0 A1 n0 c0 n1 c1 l _ _ _ _ _ HNN.out.1 HNN.out.2 HCC.out.1 HCC.out.2.1 (reads_keep HCC.out.2.2 (below_then HV.out.1.below HV.out.1.below.size hb)) (by have := HRW.out.2.1; omega)⟩
                have HXN := Aside0.mk hin
                clear q0 q1 q2 q3 q4 q5 q6 hlc0 hC0 hlc1 hC1 hrw hxl hwy hM hml hin hn0 hn1
                go_wp2
                go_still_tail 11, (by kernel_rfl)
                change wpList _ _ _ _ _ wr.drew
                go_wp2_with (go_at_call 18; refine (HLI.out _ (below_drew (Below.refl _ _))).mono ?_; rintro e15 w15 ⟨L, cL, rfl, hR, hB⟩; have H15 := Aside0.mk (And.intro hR (below_drew_l hB)); clear hR hB)
                obtain ⟨rows, hrows⟩ : ∃ rows, rows = l.f0 :: l.f1 := ⟨_, rfl⟩
                rw [← hrows] at H15
                have HRL := Aside0.mk (show n1 + 1 = rows.length by rw [hrows, List.length_cons, ← HNN.out.2])
                have HRF := Aside0.mk (show rows.flatten = ways l by rw [hrows]; unfold ways; rw [List.flatten_cons])
                have HRB := Aside0.mk (show ∀ r, r ∈ rows → r.length ≤ 1256584717428 by
                  rw [hrows]
                  intro r hr
                  rcases List.mem_cons.1 hr with hr | hr
                  · rw [hr]; exact HRW.out.1
                  · exact HRW.out.2.2 r hr)
                clear hrows HLI
                obtain ⟨Lb, cb, eL, _, _, _, _⟩ := Kd.R_form H15.out.1 (by have := HRL.out; omega)
                injection eL with eL eL2 eL3
                subst eL
                subst eL3
                clear eL2
                have HES := Aside0.mk (show e < s2.2.length by have := HML.out; omega)
                obtain ⟨bs, hbs⟩ : ∃ bs, bs = wr.drew.heap.size := ⟨_, rfl⟩
                rw [← hbs] at H15
                have HS15 := Aside0.mk (HV.out.1.on H15.out.2)
                have HG15 := Aside0.mk (HMW.out.on H15.out.2)
                clear hbs p0 p1 p2 p3 p4 p5 p6 c24 c81 hoc
                go_wp2
                go_loopg [13] (n1 + 1) (fun gg s13 wz => ∃ (i : Nat), i ≤ n1 + 1 ∧ n1 + 1 - i ≤ gg ∧ s13 = .int .i64 i ∧ Aside0 (RwS w wz #[.string nm, .int .i64 par, .slice Af nf cf, .slice Ai ni ci, .slice (some ⟨pb, po, none⟩) n c, .int .i64 st, .int .i64 fi, .int .i64 ac, .int .i64 pr, .int .i64 pv] ∧ (∃ O m o, GW w.heap.size wz g8 A' O n c' m o (meetsL s2 (rows.take i).flatten)) ∧ Good n (meetsL s2 (rows.take i).flatten) ∧ (kF w).R 33 wz bs (fun _ => True) (.slice (some ⟨Lb, 0, none⟩) (n1 + 1) cL) rows))
                case atStart => exact ⟨0, Nat.zero_le _, Nat.le_of_eq (Nat.sub_zero _), rfl, ⟨HS15.out, ⟨_, _, _, HG15.out⟩, HV.out.2.2.1, H15.out.1⟩⟩
                case round =>
                  clear HS15 HG15 H15 HMW HML hem
                  obtain ⟨i, hi, hg3, rfl, HZ⟩ := hrel
                  by_cases hin1 : i < n1 + 1
                  · have d5 : ((i : Int) < ((n1 : Int) + 1)) = True := eq_true (by omega)
                    have hil : i < rows.length := by have := HRL.out; omega
                    obtain ⟨Ei, ci0, eb, eo, cc, hE, ht⟩ := row_cell (Kd.R_reads' HZ.out.2.2.2).2.2 i hil
                    have HTK := Aside0.mk (show (rows.take (i + 1)).flatten = (rows.take i).flatten ++ rows[i] by rw [List.take_add_one, List.getElem?_eq_getElem hil, List.flatten_append]; show _ ++ [rows[i]].flatten = _; rw [List.flatten_cons, List.flatten_nil, List.append_nil])
                    have HWR := Aside0.mk (show ∀ x, x ∈ rows[i] → insideL n x.f1 = true from fun x hx => HWY.out x (by rw [← HRF.out]; exact List.mem_flatten.2 ⟨_, List.getElem_mem hil, hx⟩))
                    have hrb := HRB.out _ (List.getElem_mem hil)
                    generalize rows[i] = row at cc hE ht HTK HWR hrb
                    obtain ⟨nr, hnr⟩ : ∃ nr, nr = row.length := ⟨_, rfl⟩
                    have HNR := Aside0.mk hnr
                    have HE := Aside0.mk hE
                    have HT := Aside0.mk ht
                    rw [← hnr] at hrb
                    obtain ⟨wo, hwo⟩ : ∃ wo, wo = wr := ⟨_, rfl⟩
                    subst hwo
                    have HCI := Aside0.mk cc
                    clear cc hE ht hnr hil
                    go_wp2
                    go_loopg [14] nr (fun gg s14 wz => ∃ (j : Nat), j ≤ nr ∧ nr - j ≤ gg ∧ s14 = .int .i64 j ∧ Aside0 (RwS w wz #[.string nm, .int .i64 par, .slice Af nf cf, .slice Ai ni ci, .slice (some ⟨pb, po, none⟩) n c, .int .i64 st, .int .i64 fi, .int .i64 ac, .int .i64 pr, .int .i64 pv] ∧ (∃ O m o, GW w.heap.size wz g8 A' O n c' m o (meetsL s2 ((rows.take i).flatten ++ row.take j))) ∧ Good n (meetsL s2 ((rows.take i).flatten ++ row.take j)) ∧ (kF w).R 33 wz bs (fun _ => True) (.slice (some ⟨Lb, 0, none⟩) (n1 + 1) cL) rows ∧ wz.cell? ⟨Lb, i, none⟩ = some (.slice Ei row.length ci0)))
                    case atStart => exact ⟨0, Nat.zero_le _, Nat.le_of_eq (Nat.sub_zero _), rfl, ⟨HZ.out.1, by rw [List.take_zero, List.append_nil]; exact HZ.out.2.1, by rw [List.take_zero, List.append_nil]; exact HZ.out.2.2.1, HZ.out.2.2.2, HCI.out⟩⟩
                    case round =>
                      clear HZ HCI
                      obtain ⟨j, hj, hg4, rfl, HU⟩ := hrel
                      have cc := HU.out.2.2.2.2
                      rw [← HNR.out] at cc
                      by_cases hjn : j < nr
                      · have d6 : ((j : Int) < (nr : Int)) = True := eq_true (by omega)
                        have hjl : j < row.length := by have := HNR.out; omega
                        obtain rfl := HE.out (by omega)
                        have htc := HT.out j hjl
                        have hxi := (insideL_iff n row[j].f1).1 (HWR.out _ (List.getElem_mem hjl))
                        have HTJ := Aside0.mk (show row.take (j + 1) = row.take j ++ [row[j]] by rw [List.take_add_one, List.getElem?_eq_getElem hjl]; rfl)
                        have ct := pw_cell_below HU.out.1.below htc
                        generalize row[j] = x at ct hxi HTJ
                        obtain ⟨O2, m2, o2, hM2⟩ := HU.out.2.1
                        have HMT := Aside0.mk (gmeet_walk w.heap.size wr g8 A' O2 n c' m2 o2 _ hM2 x.f1 hxi.1 hxi.2 (by have := hM2.lens.2; have := HU.out.2.2.1.le; omega) HU.out.1.below.size)
                        have HGX2 := Aside0.mk (good_meet HU.out.2.2.1 x.f1 hxi)
                        clear hM2 htc hjl
                        go_wp2_with (go_at_call 17; refine HMT.out.mono ?_; rintro e18 w18 ⟨rfl, hP⟩; have HP18 := Aside0.mk hP; clear hP)
                        go_roundg (nr - (j + 1))
                        case measure => omega
                        case rel =>
                          obtain ⟨cells, hcs⟩ := Kd.R_typed HU.out.2.2.2.1 Lb (by simp [Value.ownBlock])
                          have hsn : meetsL s2 ((rows.take i).flatten ++ row.take (j + 1)) = meetL (meetsL s2 ((rows.take i).flatten ++ row.take j)) x.f1 := by rw [HTJ.out, ← List.append_assoc, meetsL_snoc]
                          refine ⟨j + 1, by omega, by omega, by go_num, ⟨HU.out.1.keep (T := [3, 51]) (by decide) HP18.out.keep (HU.out.1.below.trans HP18.out.below), ?_, ?_, R_keepT HU.out.2.2.2.1 HP18.out.keep (by show ∀ q, q ∈ [33] → q ∉ [3, 51]; decide), ?_⟩⟩
                          · rw [hsn]; exact HP18.out.ex
                          · rw [hsn]; exact HGX2.out.1
                          · exact (World.cell?_of_block (w := wr) (a := ⟨Lb, i, none⟩) ((HP18.out.keep.block _ _ _ (by decide) hcs).trans hcs.symm)).trans HU.out.2.2.2.2
                      · have d6 : ((j : Int) < (nr : Int)) = False := eq_false (by omega)
                        obtain rfl : j = nr := by omega
                        have HU2 := Aside0.mk (show (∃ O m o, GW w.heap.size wr g8 A' O n c' m o (meetsL s2 (rows.take (i + 1)).flatten)) ∧ Good n (meetsL s2 (rows.take (i + 1)).flatten) by
                          have h1 := HU.out.2.1
                          have h2 := HU.out.2.2.1
                          rw [List.take_of_length_le (l := row) (by have := HNR.out; omega), ← HTK.out] at h1 h2
                          exact ⟨h1, h2⟩)
                        go_wp2
                        go_roundg (n1 + 1 - (i + 1))
                        case measure => omega
                        case rel => exact ⟨i + 1, by omega, by omega, by go_num, ⟨HU.out.1, HU2.out.1, HU2.out.2, HU.out.2.2.2.1⟩⟩
                  · have d5 : ((i : Int) < ((n1 : Int) + 1)) = False := eq_false (by omega)
                    obtain rfl : i = n1 + 1 := by omega
                    have HZ2 := Aside0.mk (show RwS w wr #[.string nm, .int .i64 par, .slice Af nf cf, .slice Ai ni ci, .slice (some ⟨pb, po, none⟩) n c, .int .i64 st, .int .i64 fi, .int .i64 ac, .int .i64 pr, .int .i64 pv] ∧ (∃ O m o, GW w.heap.size wr g8 A' O n c' m o (meetsL s2 (ways l))) ∧ Good n (meetsL s2 (ways l)) by
                      have h1 := HZ.out.2.1
                      have h2 := HZ.out.2.2.1
                      rw [List.take_of_length_le (by have := HRL.out; omega), HRF.out] at h1 h2
                      exact ⟨HZ.out.1, h1, h2⟩)
                    clear HZ
                    go_wp2
                    go_roundg (n - (e + 1))
                    case measure => have := HV.out.2.2.1.le; have := HES.out; omega
                    case rel =>
                      obtain ⟨k', rfl⟩ : ∃ k', kk = k' + 1 := ⟨kk - 1, by have := HV.out.2.2.2.2.2; omega⟩
                      have hdr := HV.out.2.2.2.2.1
                      rw [drain_step _ _ _ _ HES.out, HGX.out] at hdr
                      have hle := HV.out.2.2.1.le
                      have hes := HES.out
                      exact ⟨e + 1, k', meetsL s2 (ways l), by omega, by omega, by go_num, ⟨HZ2.out.1, HZ2.out.2.1, HZ2.out.2.2, by have := HGW.out.2; omega, hdr, by have := HV.out.2.2.2.2.2; omega⟩⟩
              · have d3 : ((e : Int) < (m : Int)) = False := eq_false (by omega)
                have hes : s2.2.length ≤ e := by omega
                have hS2 : s2 = S1 := by rw [← HV.out.2.2.2.2.1, drain_end _ _ _ _ hes]
                have HS2 := Aside0.mk (And.intro hS2 (show e = s2.2.length by have := HV.out.2.2.2.1; omega))
                clear hS2 hes hem hml hM hen
                by_cases hk1 : k < m1
                · have d8 : ((k : Int) < (m1 : Int)) = True := eq_true (by omega)
                  have hkl : k < more.length := by have := HM1.out; omega
                  obtain ⟨mb, mo, rfl, hmc⟩ := int_cell HM.out k hkl
                  have hri : 0 ≤ more[k] ∧ more[k] < (n : Int) := by have h := ok_root HOK2.out (r := more[k]) (List.mem_cons_of_mem _ (List.mem_cons_of_mem _ (List.getElem_mem hkl))); have := HN.out; omega
                  have HTM := Aside0.mk (show (st :: more).take (k + 1 + 1) = (st :: more).take (k + 1) ++ [more[k]] by
                    rw [List.take_succ_cons, List.take_succ_cons, List.take_add_one, List.getElem?_eq_getElem hkl]; rfl)
                  have cm1 := pw_cell_below HV.out.1.below hmc
                  generalize more[k] = r at cm1 hri HTM
                  have HMT := Aside0.mk (gmeet_walk w.heap.size wr g8 A' O n c' m o _ HMW.out r hri.1 hri.2 (by have := HML.out; have := HV.out.2.2.1.le; omega) HV.out.1.below.size)
                  have HGR := Aside0.mk (good_meet HV.out.2.2.1 r hri)
                  clear hmc hri hkl
                  go_wp2_with (go_at_call 17; refine HMT.out.mono ?_; rintro e25 w25 ⟨rfl, hP⟩; have HP25 := Aside0.mk hP; clear hP)
                  go_roundg (m1 + 1 - (k + 1))
                  case measure => omega
                  case rel =>
                    refine ⟨k + 1, e, meetL s2 r, by omega, by omega, by go_num, rfl, ⟨HV.out.1.keep (T := [3, 51]) (by decide) HP25.out.keep (HV.out.1.below.trans HP25.out.below), HP25.out.ex, HGR.out.1, by have := HGR.out.2; have := HS2.out.2; omega, ?_, fun h => by omega⟩⟩
                    rw [HTM.out, run_snoc, ← HW.out.2.2.2.2.1, ← HS1.out, ← HS2.out.1, HS2.out.2, HN.out]
                · have d8 : ((k : Int) < (m1 : Int)) = False := eq_false (by omega)
                  go_wp2
                  go_roundg (m1 + 1 - (k + 1))
                  case measure => omega
                  case rel =>
                    refine ⟨k + 1, e, s2, by omega, by omega, by go_num, rfl, ⟨HV.out.1, HV.out.2.1, HV.out.2.2.1, HV.out.2.2.2.1, ?_, fun h => by have := HS2.out.2; omega⟩⟩
                    rw [drain_end _ _ _ _ (by have := HS2.out.2; omega), HS2.out.1, HS1.out, HW.out.2.2.2.2.1]
                    rw [List.take_of_length_le (l := st :: more) (by rw [List.length_cons]; have := HM1.out; omega), List.take_of_length_le (l := st :: more) (by rw [List.length_cons]; have := HM1.out; omega)]
          · have d2 : ((k : Int) ≤ (m1 : Int)) = False := eq_false (by omega)
            have hk1 : k = m1 + 1 := by omega
            have hs : s = runL locs (List.replicate n (-1), []) (st :: more) := by
              have h := HW.out.2.2.2.2.1
              rw [drain_end _ _ _ _ (HW.out.2.2.2.2.2 (by omega)), List.take_of_length_le (l := st :: more) (by rw [List.length_cons]; have := HM1.out; omega)] at h
              exact h
            obtain ⟨O, m, o, hM⟩ := HW.out.2.1
            have hfi : 0 ≤ fi ∧ fi < (n : Int) := by have h := ok_root HOK2.out (r := fi) (List.mem_cons_of_mem _ List.mem_cons_self); have := HN.out; omega
            have hsi : 0 ≤ st ∧ st < (n : Int) := by have h := ok_root HOK2.out (r := st) List.mem_cons_self; have := HN.out; omega
            have HFS := Aside0.mk (And.intro hfi hsi)
            have HMT := Aside0.mk (gmeet_walk w.heap.size wr g8 A' O n c' m o _ hM fi hfi.1 hfi.2 (by have := hM.lens.2; have := HW.out.2.2.1.le; omega) HW.out.1.below.size)
            have HGR := Aside0.mk (good_meet HW.out.2.2.1 fi hfi)
            have HSS := Aside0.mk hs
            have c26 : wr.cell? ⟨g2, 6, none⟩ = some (.int .i64 fi) := by rw [HG.out]; exact (blk_cell HW.out.1.b2 6).trans rfl
            clear hs hM hfi hsi hk1
            go_upto_region 27 with (go_at_call 17; refine HMT.out.mono ?_; rintro e26 w26 ⟨rfl, hP⟩; have HP26 := Aside0.mk hP; clear hP)
            have HA := Aside0.mk (HW.out.1.keep (T := [3, 51]) (by decide) HP26.out.keep (HW.out.1.below.trans HP26.out.below))
            obtain ⟨sf, hsf⟩ : ∃ sf, sf = meetL s fi := ⟨_, rfl⟩
            have HNL := Aside0.mk (show numL locs st fi more = sf by unfold numL; rw [hsf, HSS.out, HN.out])
            have HGF := Aside0.mk (show Good n sf by rw [hsf]; exact HGR.out.1)
            obtain ⟨O2, m2, o2, hM⟩ := HP26.out.ex
            rw [← hsf] at hM
            obtain ⟨gn, cn, eN, _, _, _, _⟩ := Kd.R_form hM.num (by have := hM.lens.1; have := HFS.out.1; omega)
            injection eN with eN1 eN2 eN3
            subst eN1
            subst eN3
            clear eN2
            have HMM := Aside0.mk hM
            clear hM hsf HMT HP26 HGR HSS c26 hlt hg hk
            clear HW
            obtain ⟨num, ord⟩ := sf
            have hb2 : w26.heap[g2]? = some (.cells #[.string nm, .int .i64 par, .slice Af nf cf, .slice Ai ni ci, .slice A n c, .int .i64 st, .int .i64 fi, .int .i64 ac, .int .i64 pr, .int .i64 pv] 26 (0, 0)) := by rw [HG.out]; exact HA.out.b2
            obtain ⟨z0, z1, z2, z3, z4, z5, z6, z7, z8, z9⟩ := cells10 hb2
            clear hb2
            obtain ⟨g15, hg15⟩ : ∃ g15, g15 = w26.heap.size := ⟨_, rfl⟩
            have HG15 := Aside0.mk (show w.heap.size ≤ g15 ∧ g2 < g15 ∧ g2 + 1 < g15 ∧ g8 < g15 from ⟨by rw [hg15]; exact HA.out.below.size, by rw [hg15, HG.out]; exact blk_lt HA.out.b2, by rw [hg15, HG.out]; exact blk_lt HA.out.b4, by rw [hg15]; exact blk_lt HMM.out.blk⟩)
            go_upto_region 28 with fail
            rw [← hg15]
            refine wp_world (fun W => Aside0 (RwS w W #[.string nm, .int .i64 par, .slice Af nf cf, .slice Ai ni ci, .slice A n c, .int .i64 st, .int .i64 fi, .int .i64 ac, .int .i64 pr, .int .i64 pv] ∧ GW w.heap.size W g8 (some ⟨gn, 0, none⟩) O2 n c' m2 o2 (num, ord) ∧ W.heap[g15]? = some (.cells #[.string nm, .int .i64 par, .slice Af nf cf, .slice Ai ni ci, .slice A n c, .int .i64 st, .int .i64 fi, .int .i64 ac, .int .i64 pr, .int .i64 pv] 26 (0, 0)))) ⟨HA.out.on (below_alloc (Below.refl _ _) _), HMM.out.on (below_alloc (Below.refl _ _) _), by rw [hg15]; exact blk_new _ _⟩ (fun W28 H28 => ?_)
            clear z0 z1 z2 z3 z4 z5 z6 z7 z8 z9 HA HMM hg15
            have y4 := blk_frozen H28.out.2.2 4
            have z4 : W28.cell? ⟨g15, 4, none⟩ = some (.slice A n c) := (blk_cell H28.out.2.2 4).trans rfl
            go_upto_region 29 with fail
            have hlt15 : w.heap.size + 1 < g15 := by have := HG15.out.2.2.1; have := HG.out; omega
            refine wp_world (fun W => Aside0 (RwS w W #[.string nm, .int .i64 par, .slice Af nf cf, .slice Ai ni ci, .slice A n c, .int .i64 st, .int .i64 fi, .int .i64 ac, .int .i64 pr, .int .i64 pv] ∧ GW w.heap.size W g8 (some ⟨gn, 0, none⟩) O2 n c' m2 o2 (num, ord) ∧ W.heap[g15]? = some (.cells #[.string nm, .int .i64 par, .slice Af nf cf, .slice Ai ni ci, .slice none 0 0, .int .i64 st, .int .i64 fi, .int .i64 ac, .int .i64 pr, .int .i64 pv] 26 (0, 0)))) ⟨H28.out.1.set hlt15 4 _, H28.out.2.1.set H28.out.2.2 (by decide) (by decide) 4 _, blk_set H28.out.2.2 4 _⟩ (fun W29 H29 => ?_)
            clear y4 z4 H28
            obtain ⟨sn, rfl⟩ : ∃ sn : Nat, st = (sn : Int) := ⟨st.toNat, by have := HFS.out.2; omega⟩
            obtain ⟨fn, rfl⟩ : ∃ fn : Nat, fi = (fn : Int) := ⟨fi.toNat, by have := HFS.out.1; omega⟩
            have d5 : ((sn : Int) < (n : Int)) = True := eq_true HFS.out.2.2
            have d6 : ((fn : Int) < (n : Int)) = True := eq_true HFS.out.1.2
            have hlnn : n = num.length := H29.out.2.1.lens.1
            have HLNN := Aside0.mk hlnn
            obtain ⟨_, _, en, q0⟩ := int_cell (Kd.R_reads' H29.out.2.1.num).2.2 sn (by show sn < num.length; have := hlnn; have := HFS.out.2.2; omega)
            cases en
            rw [Nat.zero_add] at q0
            have HV0 := Aside0.mk (show num.getD ((sn : Nat) : Int).toNat 0 = num[sn]'(by have := hlnn; have := HFS.out.2.2; omega) by rw [Int.toNat_natCast, List.getD_eq_getElem?_getD, List.getElem?_eq_getElem (by have := hlnn; have := HFS.out.2.2; omega)]; rfl)
            generalize num[sn]'(by have := hlnn; have := HFS.out.2.2; omega) = v0 at q0 HV0
            have c80 : W29.cell? ⟨g8, 0, none⟩ = some (.slice (some ⟨gn, 0, none⟩) n c') := (blk_cell H29.out.2.1.blk 0).trans rfl
            have c25 : W29.cell? ⟨g2, 5, none⟩ = some (.int .i64 sn) := by rw [HG.out]; exact (blk_cell H29.out.1.b2 5).trans rfl
            have y5 := blk_frozen H29.out.2.2 5
            have z5 : W29.cell? ⟨g15, 5, none⟩ = some (.int .i64 (sn : Int)) := (blk_cell H29.out.2.2 5).trans rfl
            clear hlnn
            go_still_tail 8, (by kernel_rfl)
            change wpList _ _ _ _ _ W29.drew
            go_upto_region 30 with fail
            have hb29 := blk_set H29.out.2.2 5 (.int .i64 v0)
            refine wp_world (fun W => Aside0 (RwS w W #[.string nm, .int .i64 par, .slice Af nf cf, .slice Ai ni ci, .slice A n c, .int .i64 sn, .int .i64 fn, .int .i64 ac, .int .i64 pr, .int .i64 pv] ∧ GW w.heap.size W g8 (some ⟨gn, 0, none⟩) O2 n c' m2 o2 (num, ord) ∧ W.heap[g15]? = some (.cells #[.string nm, .int .i64 par, .slice Af nf cf, .slice Ai ni ci, .slice none 0 0, .int .i64 v0, .int .i64 fn, .int .i64 ac, .int .i64 pr, .int .i64 pv] 26 (0, 0)))) ⟨(H29.out.1.set hlt15 5 _).on (below_drew (Below.refl _ _)), (H29.out.2.1.set H29.out.2.2 (by decide) (by decide) 5 _).on (below_drew (Below.refl _ _)), hb29⟩ (fun W30 H30 => ?_)
            clear hb29 y5 z5 c80 c25 q0 H29
            obtain ⟨_, _, en, q0⟩ := int_cell (Kd.R_reads' H30.out.2.1.num).2.2 fn (by show fn < num.length; have := HLNN.out; have := HFS.out.1.2; omega)
            cases en
            rw [Nat.zero_add] at q0
            have HV1 := Aside0.mk (show num.getD ((fn : Nat) : Int).toNat 0 = num[fn]'(by have := HLNN.out; have := HFS.out.1.2; omega) by rw [Int.toNat_natCast, List.getD_eq_getElem?_getD, List.getElem?_eq_getElem (by have := HLNN.out; have := HFS.out.1.2; omega)]; rfl)
            generalize num[fn]'(by have := HLNN.out; have := HFS.out.1.2; omega) = v1 at q0 HV1
            have c80 : W30.cell? ⟨g8, 0, none⟩ = some (.slice (some ⟨gn, 0, none⟩) n c') := (blk_cell H30.out.2.1.blk 0).trans rfl
            have c26 : W30.cell? ⟨g2, 6, none⟩ = some (.int .i64 fn) := by rw [HG.out]; exact (blk_cell H30.out.1.b2 6).trans rfl
            have y6 := blk_frozen H30.out.2.2 6
            have z6 : W30.cell? ⟨g15, 6, none⟩ = some (.int .i64 (fn : Int)) := (blk_cell H30.out.2.2 6).trans rfl
            go_still_tail 8, (by kernel_rfl)
            change wpList _ _ _ _ _ W30.drew
            go_upto_region 31 with fail
            have hb30 := blk_set H30.out.2.2 6 (.int .i64 v1)
            refine wp_world (fun W => Aside0 (RwS w W #[.string nm, .int .i64 par, .slice Af nf cf, .slice Ai ni ci, .slice A n c, .int .i64 sn, .int .i64 fn, .int .i64 ac, .int .i64 pr, .int .i64 pv] ∧ GW w.heap.size W g8 (some ⟨gn, 0, none⟩) O2 n c' m2 o2 (num, ord) ∧ W.heap[g15]? = some (.cells #[.string nm, .int .i64 par, .slice Af nf cf, .slice Ai ni ci, .slice none 0 0, .int .i64 v0, .int .i64 v1, .int .i64 ac, .int .i64 pr, .int .i64 pv] 26 (0, 0)))) ⟨(H30.out.1.set hlt15 6 _).on (below_drew (Below.refl _ _)), (H30.out.2.1.set H30.out.2.2 (by decide) (by decide) 6 _).on (below_drew (Below.refl _ _)), hb30⟩ (fun W31 H31 => ?_)
            clear hb30 y6 z6 c80 c26 q0 H30 d5 d6
            have HLM := Aside0.mk (show m2 = ord.length from H31.out.2.1.lens.2)
            have HORD := Aside0.mk (show ∀ x, x ∈ ord → 0 ≤ x ∧ x < (n : Int) from HGF.out.inn)
            have hmn2 : m2 ≤ n := by have h := HGF.out.le; have h2 := HLM.out; have : ord.length ≤ n := h; omega
            go_wp2
            go_loopg [16] m2 (fun gg s16 wz => ∃ (i c3 : Nat) (A3 : Option Addr), i ≤ m2 ∧ m2 - i ≤ gg ∧ s16 = .int .i64 i ∧ Aside0 (RwS w wz #[.string nm, .int .i64 par, .slice Af nf cf, .slice Ai ni ci, .slice A n c, .int .i64 sn, .int .i64 fn, .int .i64 ac, .int .i64 pr, .int .i64 pv] ∧ GW w.heap.size wz g8 (some ⟨gn, 0, none⟩) O2 n c' m2 o2 (num, ord) ∧ wz.heap[g15]? = some (.cells #[.string nm, .int .i64 par, .slice Af nf cf, .slice Ai ni ci, .slice A3 i c3, .int .i64 v0, .int .i64 v1, .int .i64 ac, .int .i64 pr, .int .i64 pv] 26 (0, 0)) ∧ (k36m w).R 36 wz w.heap.size (fun _ => True) (.slice A3 i c3) ((ord.take i).map fun x => rePlace num (locs.getD x.toNat z36))))
            case atStart => exact ⟨0, 0, none, Nat.zero_le _, Nat.le_of_eq (Nat.sub_zero _), rfl, ⟨H31.out.1, H31.out.2.1, H31.out.2.2, Kd.R_nil _ _ _ _ _⟩⟩
            case round =>
              clear H31
              obtain ⟨i, c3, A3, hi, hg, rfl, HW⟩ := hrel
              have c81 : wr.cell? ⟨g8, 1, none⟩ = some (.slice O2 m2 o2) := (blk_cell HW.out.2.1.blk 1).trans rfl
              by_cases hlt : i < m2
              · have d7 : ((i : Int) < (m2 : Int)) = True := eq_true (by omega)
                have hil : i < ord.length := by have := HLM.out; omega
                obtain ⟨go, oo, rfl, hoc⟩ := int_cell (Kd.R_reads' HW.out.2.1.ord).2.2 i hil
                have hin := HORD.out _ (List.getElem_mem hil)
                have HTK := Aside0.mk (show ord.take (i + 1) = ord.take i ++ [ord[i]] by rw [List.take_add_one, List.getElem?_eq_getElem hil]; rfl)
                generalize ord[i] = x at hoc hin HTK
                obtain ⟨xn, rfl⟩ : ∃ xn : Nat, x = (xn : Int) := ⟨x.toNat, by omega⟩
                have hxl : xn < locs.length := by have := HN.out; omega
                have d4 : ((xn : Int) < (n : Int)) = True := eq_true (by omega)
                obtain ⟨rfl, A0, c0, A1, c1, hlc0, hC0, hlc1, hC1, q0, q1, q2, q3, q4, q5, q6⟩ := HP.out xn hxl
                obtain ⟨b0, o0, b1, o1, E, ec, eb, eo, hPA⟩ := place_of hC0 hC1
                have hrw := HROW.out _ (List.getElem_mem hxl)
                have HGX := Aside0.mk (show locs.getD ((xn : Nat) : Int).toNat z36 = locs[xn] by rw [Int.toNat_natCast, List.getD_eq_getElem?_getD, List.getElem?_eq_getElem hxl]; rfl)
                have hwy := ok_loc HOK2.out xn hxl
                rw [← HN.out] at hwy
                have p0 := pw_cell_below HW.out.1.below q0
                have p1 := pw_cell_below HW.out.1.below q1
                have p2 := pw_cell_below HW.out.1.below q2
                have p3 := pw_cell_below HW.out.1.below q3
                have p4 := pw_cell_below HW.out.1.below q4
                have p5 := pw_cell_below HW.out.1.below q5
                have p6 := pw_cell_below HW.out.1.below q6
                have c24 : wr.cell? ⟨g2, 4, none⟩ = some (.slice (some ⟨pb, po, none⟩) n c) := by rw [HG.out]; exact (blk_cell HW.out.1.b2 4).trans rfl
                have HWY := Aside0.mk hwy
                have HPA := Aside0.mk hPA
                have HC0 := Aside0.mk hC0
                have HRW := Aside0.mk hrw
                generalize locs[xn] = l at HGX HWY HPA HC0 HRW p0 p1 p2 p3 p4 p5 p6
                obtain ⟨n0, hn0⟩ : ∃ n0, n0 = l.f0.length := ⟨_, rfl⟩
                obtain ⟨n1, hn1⟩ : ∃ n1, n1 = l.f1.length := ⟨_, rfl⟩
                rw [← hn0] at p0
                rw [← hn1] at p1
                have HNN := Aside0.mk (And.intro hn0 hn1)
                have HXN := Aside0.mk hin
                clear q0 q1 q2 q3 q4 q5 q6 hlc0 hC0 hlc1 hC1 hrw hPA hwy hin hn0 hn1 hil hxl
                -- region 34 (drawn: loads, an alloc, a store): go_still_tail 11 is refused by the kernel (the alloc is free)
                have SB := Aside0.mk (fun (W : World) (hb : Below wr.heap.size wr W) => (⟨pw_cell_below hb c24, pw_cell_below hb c81, pw_cell_below hb hoc, pw_cell_below hb p0, pw_cell_below hb p1, pw_cell_below hb p2, pw_cell_below hb p3, pw_cell_below hb p4, pw_cell_below hb p5, pw_cell_below hb p6⟩ : W.cell? ⟨g2, 4, none⟩ = some (.slice (some ⟨pb, po, none⟩) n c) ∧ W.cell? ⟨g8, 1, none⟩ = some (.slice (some ⟨go, oo, none⟩) m2 o2) ∧ W.cell? ⟨go, oo + i, none⟩ = some (.int .i64 (xn : Int)) ∧ W.cell? ⟨pb, po + xn * 7, none⟩ = some (.slice A0 n0 c0) ∧ W.cell? ⟨pb, po + xn * 7 + 1, none⟩ = some (.slice A1 n1 c1) ∧ W.cell? ⟨pb, po + xn * 7 + 2, none⟩ = some (.bool l.f2) ∧ W.cell? ⟨pb, po + xn * 7 + 3, none⟩ = some (.bool l.f3) ∧ W.cell? ⟨pb, po + xn * 7 + 4, none⟩ = some (.bool l.f4) ∧ W.cell? ⟨pb, po + xn * 7 + 5, none⟩ = some (.bool l.f5) ∧ W.cell? ⟨pb, po + xn * 7 + 6, none⟩ = some (.bool l.f6)))
                go_wp2
                go_region_held3 (fun W => W.cell? ⟨g2, 4, none⟩ = some (.slice (some ⟨pb, po, none⟩) n c) ∧ W.cell? ⟨g8, 1, none⟩ = some (.slice (some ⟨go, oo, none⟩) m2 o2) ∧ W.cell? ⟨go, oo + i, none⟩ = some (.int .i64 (xn : Int)) ∧ W.cell? ⟨pb, po + xn * 7, none⟩ = some (.slice A0 n0 c0) ∧ W.cell? ⟨pb, po + xn * 7 + 1, none⟩ = some (.slice A1 n1 c1) ∧ W.cell? ⟨pb, po + xn * 7 + 2, none⟩ = some (.bool l.f2) ∧ W.cell? ⟨pb, po + xn * 7 + 3, none⟩ = some (.bool l.f3) ∧ W.cell? ⟨pb, po + xn * 7 + 4, none⟩ = some (.bool l.f4) ∧ W.cell? ⟨pb, po + xn * 7 + 5, none⟩ = some (.bool l.f5) ∧ W.cell? ⟨pb, po + xn * 7 + 6, none⟩ = some (.bool l.f6))
                  ((refine SB.out _ ?_; (repeat (first | with_reducible exact Below.refl _ _ | with_reducible apply below_drew | with_reducible apply below_alloc))))
                  (fail)
                obtain ⟨g17, hg17⟩ : ∃ g17, g17 = wr.heap.size := ⟨_, rfl⟩
                rw [← hg17]
                have HG17 := Aside0.mk hg17
                have hW1 : Below wr.heap.size wr (wr.alloc (.cells #[.slice A0 n0 c0, .slice A1 n1 c1, .bool l.f2, .bool l.f3, .bool l.f4, .bool l.f5, .bool l.f6] 36)).drew ∧ (wr.alloc (.cells #[.slice A0 n0 c0, .slice A1 n1 c1, .bool l.f2, .bool l.f3, .bool l.f4, .bool l.f5, .bool l.f6] 36)).drew.heap[g17]? = some (.cells #[.slice A0 n0 c0, .slice A1 n1 c1, .bool l.f2, .bool l.f3, .bool l.f4, .bool l.f5, .bool l.f6] 36 (0, 0)) := ⟨below_drew (below_alloc (Below.refl _ _) _), by rw [hg17]; exact blk_new _ _⟩
                obtain ⟨W1, hW1e⟩ : ∃ W1, W1 = (wr.alloc (.cells #[.slice A0 n0 c0, .slice A1 n1 c1, .bool l.f2, .bool l.f3, .bool l.f4, .bool l.f5, .bool l.f6] 36)).drew := ⟨_, rfl⟩
                rw [← hW1e] at hW1 ⊢
                have H1 := Aside0.mk hW1
                clear hg17 hW1 hW1e SB hoc c24 c81 p0 p1 p2 p3 p4 p5 p6
                have l0 : W1.cell? ⟨g17, 0, none⟩ = some (.slice A0 n0 c0) := (blk_cell H1.out.2 0).trans rfl
                have l1 : W1.cell? ⟨g17, 1, none⟩ = some (.slice A1 n1 c1) := (blk_cell H1.out.2 1).trans rfl
                have l2 : W1.cell? ⟨g17, 2, none⟩ = some (.bool l.f2) := (blk_cell H1.out.2 2).trans rfl
                have l3 : W1.cell? ⟨g17, 3, none⟩ = some (.bool l.f3) := (blk_cell H1.out.2 3).trans rfl
                have l4 : W1.cell? ⟨g17, 4, none⟩ = some (.bool l.f4) := (blk_cell H1.out.2 4).trans rfl
                have l5 : W1.cell? ⟨g17, 5, none⟩ = some (.bool l.f5) := (blk_cell H1.out.2 5).trans rfl
                have l6 : W1.cell? ⟨g17, 6, none⟩ = some (.bool l.f6) := (blk_cell H1.out.2 6).trans rfl
                go_upto_region 36 with fail
                obtain ⟨g18, hg18⟩ : ∃ g18, g18 = W1.heap.size := ⟨_, rfl⟩
                rw [← hg18]
                have HG18 := Aside0.mk (show g17 < g18 ∧ wr.heap.size ≤ g18 ∧ wr.heap.size ≤ g17 from ⟨by rw [hg18]; exact blk_lt H1.out.2, by rw [hg18]; exact H1.out.1.size, by rw [HG17.out]; exact Nat.le_refl _⟩)
                refine wp_world (fun W => Aside0 (Below wr.heap.size wr W ∧ W.heap[g17]? = some (.cells #[.slice A0 n0 c0, .slice A1 n1 c1, .bool l.f2, .bool l.f3, .bool l.f4, .bool l.f5, .bool l.f6] 36 (0, 0)) ∧ W.heap[g18]? = some (.cells #[.slice A0 n0 c0, .slice A1 n1 c1, .bool l.f2, .bool l.f3, .bool l.f4, .bool l.f5, .bool l.f6] 36 (0, 0)))) ⟨below_alloc H1.out.1 _, blk_alloc H1.out.2 _, by rw [hg18]; exact blk_new _ _⟩ (fun W2 H2 => ?_)
                clear hg18 l0 l1 l2 l3 l4 l5 l6 H1
                have HRN : Aside0 (∀ W, Below wr.heap.size wr W → ∀ (A : Option Addr) (k ca : Nat) (row : List S40), k = row.length → k40.C w A row.length row → row.length ≤ 1256584717428 → (∀ x, x ∈ row → 0 ≤ x.f1 ∧ x.f1 < n) → Calls Try.prog 19 #[.slice A k ca, .slice (some ⟨gn, 0, none⟩) n c'] W fun e w' => ∃ AO cO, e = .returned (.slice AO k cO) ∧ (k40m w).R 40 w' W.heap.size (fun _ => True) (.slice AO k cO) (reWays num row) ∧ Below W.heap.size W w') := ⟨fun W hb A k ca row hk hC hlr hin => by
                  subst hk
                  have h := renamed_walk w W A ca row (reads_keep hC (below_then HW.out.1.below HW.out.1.below.size hb)) hlr (some ⟨gn, 0, none⟩) n c' num (by have h := Kd.R_reads' (Kd.R_below HW.out.2.1.num hb); have h2 := h.2.2; rw [← h.1] at h2; exact h2) hin
                  refine h.mono ?_
                  rintro e w' ⟨v, rfl, hR, hB⟩
                  obtain ⟨AO, cO, e1⟩ := Kd.R_slice hR
                  subst e1
                  rw [show (reWays num row).length = row.length from List.length_map _] at hR ⊢
                  exact ⟨AO, cO, rfl, hR, hB⟩⟩
                have HIN : Aside0 (∀ x, x ∈ ways l → 0 ≤ x.f1 ∧ x.f1 < (n : Int)) := ⟨fun x hx => of_decide_eq_true (HWY.out x hx)⟩
                have c80 : W2.cell? ⟨g8, 0, none⟩ = some (.slice (some ⟨gn, 0, none⟩) n c') := (blk_cell (blk_below HW.out.2.1.blk H2.out.1) 0).trans rfl
                have l0 : W2.cell? ⟨g17, 0, none⟩ = some (.slice A0 n0 c0) := (blk_cell H2.out.2.1 0).trans rfl
                have HB2 := Aside0.mk H2.out.1
                have HCL : Aside0 (∀ W, Below W2.heap.size W2 W → Calls Try.prog 19 #[.slice A0 n0 c0, .slice (some ⟨gn, 0, none⟩) n c'] W fun e w' => ∃ AO cO, e = .returned (.slice AO n0 cO) ∧ (k40m w).R 40 w' W.heap.size (fun _ => True) (.slice AO n0 cO) (reWays num l.f0) ∧ Below W.heap.size W w') := ⟨fun W hb => HRN.out W (below_then HB2.out HB2.out.size hb) A0 n0 c0 l.f0 HNN.out.1 HC0.out HRW.out.1 (fun x hx => HIN.out x (List.mem_append_left _ hx))⟩
                go_still_tail 6, (by kernel_rfl)
                change wpList _ _ _ _ _ W2.drew
                go_upto_region 37 with (go_at_call 19; refine (HCL.out _ (below_drew (Below.refl _ _))).mono ?_; rintro e w3 ⟨AO, cO, rfl, hR, hB⟩; have HB3 := Aside0.mk ((below_drew (Below.refl W2.heap.size W2)).trans hB); have HR3 := Aside0.mk hR; clear hR hB; have hb3 := blk_below H2.out.2.2 HB3.out; have c180 : w3.cell? ⟨g18, 0, none⟩ = some (.slice A0 n0 c0) := (blk_cell hb3 0).trans rfl; have f180 := blk_frozen hb3 0)
                refine wp_world (fun W => Aside0 (Below wr.heap.size wr W ∧ W.heap[g17]? = some (.cells #[.slice A0 n0 c0, .slice A1 n1 c1, .bool l.f2, .bool l.f3, .bool l.f4, .bool l.f5, .bool l.f6] 36 (0, 0)) ∧ W.heap[g18]? = some (.cells #[.slice AO n0 cO, .slice A1 n1 c1, .bool l.f2, .bool l.f3, .bool l.f4, .bool l.f5, .bool l.f6] 36 (0, 0)) ∧ (k40m w).R 40 W wr.heap.size (fun _ => True) (.slice AO n0 cO) (reWays num l.f0) ∧ g18 < W.heap.size)) ⟨(below_then HB2.out HB2.out.size HB3.out).setCell HG18.out.2.1 _, blk_far (p := ⟨g18, 0, none⟩) (blk_below H2.out.2.1 HB3.out) (Nat.ne_of_lt HG18.out.1) _, blk_set hb3 0 _, Kd.R_set (Kd.R_lower HR3.out (by show wr.heap.size ≤ W2.drew.heap.size; exact HB2.out.size)) hb3 (by show ∀ q, q ∈ [40] → q ≠ 36; decide) 0 _, blk_lt (blk_set hb3 0 (.slice AO n0 cO))⟩ (fun W3 H3 => ?_)
                clear c180 f180 hb3 HB3 HR3 HCL HB2 H2 l0 c80
                have f181 := blk_frozen H3.out.2.2.1 1
                have c181 : W3.cell? ⟨g18, 1, none⟩ = some (.slice A1 n1 c1) := (blk_cell H3.out.2.2.1 1).trans rfl
                go_upto_region 38 with fail
                refine wp_world (fun W => Aside0 (Below wr.heap.size wr W ∧ W.heap[g17]? = some (.cells #[.slice A0 n0 c0, .slice A1 n1 c1, .bool l.f2, .bool l.f3, .bool l.f4, .bool l.f5, .bool l.f6] 36 (0, 0)) ∧ W.heap[g18]? = some (.cells #[.slice AO n0 cO, .slice none 0 0, .bool l.f2, .bool l.f3, .bool l.f4, .bool l.f5, .bool l.f6] 36 (0, 0)) ∧ (k40m w).R 40 W wr.heap.size (fun _ => True) (.slice AO n0 cO) (reWays num l.f0) ∧ g18 < W.heap.size)) ⟨H3.out.1.setCell HG18.out.2.1 _, blk_far (p := ⟨g18, 1, none⟩) H3.out.2.1 (Nat.ne_of_lt HG18.out.1) _, blk_set H3.out.2.2.1 1 _, Kd.R_set H3.out.2.2.2.1 H3.out.2.2.1 (by show ∀ q, q ∈ [40] → q ≠ 36; decide) 1 _, blk_lt (blk_set H3.out.2.2.1 1 (.slice none 0 0))⟩ (fun W4 H4 => ?_)
                clear f181 c181 H3
                go_wp2
                have hn1b : n1 ≤ 5864062014634 := by rw [HNN.out.2]; exact HRW.out.2.1
                obtain ⟨wo, hwo⟩ : ∃ wo, wo = wr := ⟨_, rfl⟩
                subst hwo
                go_loopg [19] n1 (fun gg s19 wz => ∃ (j c5 : Nat) (A5 : Option Addr), j ≤ n1 ∧ n1 - j ≤ gg ∧ s19 = .int .i64 j ∧ Aside0 (Below wo.heap.size wo wz ∧ wz.heap[g17]? = some (.cells #[.slice A0 n0 c0, .slice A1 n1 c1, .bool l.f2, .bool l.f3, .bool l.f4, .bool l.f5, .bool l.f6] 36 (0, 0)) ∧ wz.heap[g18]? = some (.cells #[.slice AO n0 cO, .slice A5 j c5, .bool l.f2, .bool l.f3, .bool l.f4, .bool l.f5, .bool l.f6] 36 (0, 0)) ∧ (k40m w).R 40 wz wo.heap.size (fun _ => True) (.slice AO n0 cO) (reWays num l.f0) ∧ Kd.S (k33m w) 33 wz wo.heap.size (fun k => some k ≠ (Value.slice AO n0 cO).ownBlock) (.slice A5 j c5) ((l.f1.take j).map (reWays num))))
                case atStart => exact ⟨0, 0, none, Nat.zero_le _, Nat.le_of_eq (Nat.sub_zero _), rfl, ⟨H4.out.1, H4.out.2.1, H4.out.2.2.1, H4.out.2.2.2.1, Kd.S_nil _ _ _ _ _⟩⟩
                case round =>
                  clear H4
                  obtain ⟨j, c5, A5, hj, hg3, rfl, HZ⟩ := hrel
                  have l1 : wr.cell? ⟨g17, 1, none⟩ = some (.slice A1 n1 c1) := (blk_cell HZ.out.2.1 1).trans rfl
                  by_cases hjn : j < n1
                  · have d7 : ((j : Int) < (n1 : Int)) = True := eq_true (by omega)
                    have hjl : j < l.f1.length := by have := HNN.out.2; omega
                    obtain rfl := HPA.out.h1 (by omega)
                    have hec := HPA.out.esc j hjl
                    have HBW := Aside0.mk (below_then HW.out.1.below HW.out.1.below.size HZ.out.1)
                    have ce := pw_cell_below HBW.out hec.1
                    have hlr := HRW.out.2.2 _ (List.getElem_mem hjl)
                    have HTJ := Aside0.mk (show (l.f1.take (j + 1)).map (reWays num) = (l.f1.take j).map (reWays num) ++ [reWays num l.f1[j]] by rw [List.take_add_one, List.getElem?_eq_getElem hjl, List.map_append]; rfl)
                    have HEC := Aside0.mk hec.2.2
                    have HRI := Aside0.mk (show ∀ x, x ∈ l.f1[j] → 0 ≤ x.f1 ∧ x.f1 < (n : Int) from fun x hx => HIN.out x (List.mem_append_right _ (List.mem_flatten.2 ⟨_, List.getElem_mem hjl, hx⟩)))
                    generalize l.f1[j] = row at ce hlr HTJ HEC HRI
                    obtain ⟨nr, hnr⟩ : ∃ nr, nr = row.length := ⟨_, rfl⟩
                    rw [← hnr] at ce
                    have HNR := Aside0.mk hnr
                    have HLR := Aside0.mk hlr
                    have HCL : Aside0 (∀ W, Below wr.heap.size wr W → Calls Try.prog 19 #[.slice (E j) nr (ec j), .slice (some ⟨gn, 0, none⟩) n c'] W fun e w' => ∃ AO cO, e = .returned (.slice AO nr cO) ∧ (k40m w).R 40 w' W.heap.size (fun _ => True) (.slice AO nr cO) (reWays num row) ∧ Below W.heap.size W w') := ⟨fun W hb => HRN.out W (below_then HZ.out.1 HZ.out.1.size hb) (E j) nr (ec j) row HNR.out HEC.out HLR.out HRI.out⟩
                    generalize E j = Ej at ce HCL
                    generalize ec j = cj at ce HCL
                    have c80 : wr.cell? ⟨g8, 0, none⟩ = some (.slice (some ⟨gn, 0, none⟩) n c') := (blk_cell (blk_below HW.out.2.1.blk HZ.out.1) 0).trans rfl
                    clear hec hjl hnr hlr
                    clear HEC HRI HLR
                    go_upto_region 41 with fail
                    go_still_tail 9, (by kernel_rfl)
                    change wpList _ _ _ _ _ wr.drew
                    go_upto_region 42 with (go_at_call 19; refine (HCL.out _ (below_drew (Below.refl _ _))).mono ?_; rintro e w5 ⟨Am2, cm2, rfl, hR, hB⟩; have HB5 := Aside0.mk ((below_drew (Below.refl wr.heap.size wr)).trans hB); have HR5 := Aside0.mk hR; clear hR hB)
                    have hb5 := blk_below HZ.out.2.2.1 HB5.out
                    have c181 : w5.cell? ⟨g18, 1, none⟩ = some (.slice A5 j c5) := (blk_cell hb5 1).trans rfl
                    have hg17 := blk_below HZ.out.2.1 HB5.out
                    have H17 := Aside0.mk hg17
                    clear hg17
                    have HLJ := Aside0.mk (show ((l.f1.take j).map (reWays num)).length = j by rw [List.length_map, List.length_take]; have := HNN.out.2; omega)
                    go_wp2_with (at_builtin; refine Kd.S_append (k33m w) (w0 := wo) (W := w5) wo.heap.size rfl (.tmp 183) (.tmp 185) 34 33 (.slice none 0 0) 24 rfl Try.underlying34 info33 rfl (k33m_sz w) (by decide) (.slice A5 j c5) ((l.f1.take j).map (reWays num)) (reWays num row) [Value.slice Am2 nr cm2] (fun k => some k ≠ (Value.slice AO n0 cO).ownBlock) (fun k => wr.heap.size ≤ k) rfl rfl ⟨_, rfl, Kd.R_lower (Kd.R_mono (Kd.R_bound HR5.out) (fun k hk => hk.2.1)) HZ.out.1.size⟩ (fun k hk => ⟨fun e => by have := Kd.R_lt HZ.out.2.2.2.1 k e.symm; omega, fun e => by have := Kd.S_lt HZ.out.2.2.2.2 k e.symm; omega⟩) (fun k hk e => by have := Kd.R_lt HZ.out.2.2.2.1 k e.symm; have := HB5.out.size; omega) (Kd.S_below (Kd.S_mono (Kd.S_bound HZ.out.2.2.2.2) (fun k hk => ⟨hk.1, fun h => by have := hk.2.2.1; omega⟩)) HB5.out) (below_then HZ.out.1 HZ.out.1.size HB5.out) (Nat.le_trans HZ.out.1.size HB5.out.size) (by rw [HLJ.out]; have := HRW.out.2.1; have := HNN.out.2; omega) ?_; intro v1 w6 hR8 hB8 hg8 hat8; obtain ⟨A8, c8, e8⟩ := Kd.S_slice hR8; rw [List.length_append, HLJ.out, List.length_singleton] at e8; subst e8; have hb18 := blk_grown hb5 hg8 (Kd.S_ne (Kd.S_below HZ.out.2.2.2.2 HB5.out) hb5 (by decide)); have hb17 := blk_grown H17.out hg8 (Kd.S_ne (Kd.S_below HZ.out.2.2.2.2 HB5.out) H17.out (by decide)); have c181' : w6.cell? ⟨g18, 1, none⟩ = some (.slice A5 j c5) := (blk_cell hb18 1).trans rfl; have f181' := blk_frozen hb18 1; have HR8 := Aside0.mk (And.intro hR8 (And.intro hB8 (And.intro (Kd.R_over' (Kd.R_below HZ.out.2.2.2.1 HB5.out) (Kd.S_typed (Kd.S_below HZ.out.2.2.2.2 HB5.out)) (by show ∀ q, q ∈ [40] → q ≠ 33; decide) hg8) (And.intro hb18 hb17)))); clear hR8 hB8 hg8 hat8 hb18 hb17)
                    go_roundg (n1 - (j + 1))
                    case measure => omega
                    case rel =>
                      refine ⟨j + 1, c8, A8, by omega, by omega, by go_num, ⟨HR8.out.2.1.setCell HG18.out.2.1 _, blk_far (p := ⟨g18, 1, none⟩) HR8.out.2.2.2.2 (Nat.ne_of_lt HG18.out.1) _, blk_set HR8.out.2.2.2.1 1 _, Kd.R_set HR8.out.2.2.1 HR8.out.2.2.2.1 (by show ∀ q, q ∈ [40] → q ≠ 36; decide) 1 _, ?_⟩⟩
                      rw [HTJ.out]
                      exact Kd.S_set HR8.out.1 HR8.out.2.2.2.1 (by show ∀ q, q ∈ [33, 40] → q ≠ 36; decide) 1 _
                  · have d7 : ((j : Int) < (n1 : Int)) = False := eq_false (by omega)
                    have hS := HZ.out.2.2.2.2
                    rw [show l.f1.take j = l.f1 from List.take_of_length_le (by have := HNN.out.2; omega)] at hS
                    obtain rfl : j = n1 := by omega
                    have HSS := Aside0.mk hS
                    have l0 : wr.cell? ⟨g18, 0, none⟩ = some (.slice AO n0 cO) := (blk_cell HZ.out.2.2.1 0).trans rfl
                    have m1' : wr.cell? ⟨g18, 1, none⟩ = some (.slice A5 j c5) := (blk_cell HZ.out.2.2.1 1).trans rfl
                    have l2 : wr.cell? ⟨g18, 2, none⟩ = some (.bool l.f2) := (blk_cell HZ.out.2.2.1 2).trans rfl
                    have l3 : wr.cell? ⟨g18, 3, none⟩ = some (.bool l.f3) := (blk_cell HZ.out.2.2.1 3).trans rfl
                    have l4 : wr.cell? ⟨g18, 4, none⟩ = some (.bool l.f4) := (blk_cell HZ.out.2.2.1 4).trans rfl
                    have l5 : wr.cell? ⟨g18, 5, none⟩ = some (.bool l.f5) := (blk_cell HZ.out.2.2.1 5).trans rfl
                    have l6 : wr.cell? ⟨g18, 6, none⟩ = some (.bool l.f6) := (blk_cell HZ.out.2.2.1 6).trans rfl
                    have hb15 := blk_below HW.out.2.2.1 HZ.out.1
                    have c154 : wr.cell? ⟨g15, 4, none⟩ = some (.slice A3 i c3) := (blk_cell hb15 4).trans rfl
                    clear hS hjn hj hg3
                    have HSW := Aside0.mk HW.out.1.below.size
                    have HMM := Aside0.mk (k36m_mkM w wr w.heap.size (fun k => wo.heap.size ≤ k) (rePlace num l) (Kd.R_lower (Kd.R_mono (Kd.R_bound HZ.out.2.2.2.1) (fun k hk => hk.2.1)) HSW.out) (Kd.R_lower (Kd.R_mono (Kd.R_bound (Kd.S_R HSS.out)) (fun k hk => hk.2.1)) HSW.out))
                    have HRI := Aside0.mk (Kd.R_below HW.out.2.2.2 HZ.out.1)
                    have HGZ := Aside0.mk (HW.out.2.1.on HZ.out.1)
                    have HAZ := Aside0.mk (HW.out.1.on HZ.out.1)
                    have HB15 := Aside0.mk hb15
                    clear hb15
                    have HLI := Aside0.mk (show ((ord.take i).map fun x => rePlace num (locs.getD x.toNat z36)).length = i by rw [List.length_map, List.length_take]; have := HLM.out; omega)
                    have HTI := Aside0.mk (show ((ord.take (i + 1)).map fun x => rePlace num (locs.getD x.toNat z36)) = ((ord.take i).map fun x => rePlace num (locs.getD x.toNat z36)) ++ [rePlace num l] by rw [HTK.out, List.map_append, List.map_cons, List.map_nil, HGX.out])
                    go_wp2_with (at_builtin; refine Kd.R_append (k36m w) (w0 := w) (W := wr) w.heap.size rfl (.tmp 189) (.tmp 191) 24 36 (.agg #[.slice none 0 0, .slice none 0 0, .bool false, .bool false, .bool false, .bool false, .bool false]) 56 rfl Try.underlying24 info36 rfl (k36m_sz w) (by decide) (.slice A3 i c3) ((ord.take i).map fun x => rePlace num (locs.getD x.toNat z36)) (rePlace num l) [.slice AO n0 cO, .slice A5 j c5, .bool l.f2, .bool l.f3, .bool l.f4, .bool l.f5, .bool l.f6] (fun _ => True) (fun k => wo.heap.size ≤ k) rfl rfl HMM.out (fun k hk => ⟨trivial, fun e => by have := Kd.R_lt HW.out.2.2.2 k e.symm; omega⟩) (fun _ _ => trivial) HRI.out (below_then HW.out.1.below HSW.out HZ.out.1) (Nat.le_trans HSW.out HZ.out.1.size) (by rw [HLI.out]; omega) ?_; intro v1 w20 hR20 hB20 hG20 _; obtain ⟨A20, c20, e20⟩ := Kd.R_slice hR20; rw [List.length_append, HLI.out, List.length_singleton] at e20; subst e20; have hk20 : KeepT [36] wr w20 := (KeepT.refl _ _).grown hG20 hG20.size (fun k hk => by obtain ⟨cs, hcs⟩ := Kd.R_typed HRI.out k hk; exact ⟨cs, 36, by decide, hcs⟩); have hb20 := hk20.block _ _ _ (by decide) HB15.out; have c154' : w20.cell? ⟨g15, 4, none⟩ = some (.slice A3 i c3) := (blk_cell hb20 4).trans rfl; have f154' := blk_frozen hb20 4; have HR20 := Aside0.mk (And.intro hR20 (And.intro hB20 (And.intro hk20 hb20))); clear hR20 hB20 hG20 hk20 hb20)
                    go_roundg (m2 - (i + 1))
                    case measure => omega
                    case rel =>
                      obtain ⟨hR20, hB20, hk20, hb20⟩ := HR20.out
                      have hA20 := HAZ.out.keep (T := [36]) (by decide) hk20 hB20
                      refine ⟨i + 1, c20, A20, by omega, by omega, by go_num, ⟨hA20.set hlt15 4 _, GW.set ⟨hk20.block _ _ _ (by decide) HGZ.out.blk, HGZ.out.le, R_keepT HGZ.out.num hk20 (by show ∀ q, q ∈ [3] → q ∉ [36]; decide), R_keepT HGZ.out.ord hk20 (by show ∀ q, q ∈ [3] → q ∉ [36]; decide)⟩ hb20 (by decide) (by decide) 4 _, blk_set hb20 4 _, ?_⟩⟩
                      rw [HTI.out]
                      exact Kd.R_set hR20 hb20 (by show ∀ q, q ∈ [36, 40, 33, 40] → q ≠ 26; decide) 4 _
              · have d7 : ((i : Int) < (m2 : Int)) = False := eq_false (by omega)
                obtain rfl : i = m2 := by omega
                have hR := HW.out.2.2.2
                rw [show ord.take i = ord from List.take_of_length_le (by have := HLM.out; omega)] at hR
                have HRF := Aside0.mk hR
                have hb4 : wr.heap[g2 + 1]? = some (.cells #[.string ⟨#[]⟩, .int .i64 0, .slice none 0 0, .slice none 0 0, .slice none 0 0, .int .i64 0, .int .i64 0, .int .i64 0, .int .i64 0, .int .i64 0] 26 (0, 0)) := by rw [HG.out]; exact HW.out.1.b4
                have HB4 := Aside0.mk hb4
                obtain ⟨z0, z1, z2, z3, z4, z5, z6, z7, z8, z9⟩ := cells10 HW.out.2.2.1
                obtain ⟨x0, x1, x2, x3, x4, x5, x6, x7, x8, x9⟩ := cells10 hb4
                obtain ⟨y0, y1, y2, y3, y4, y5, y6, y7, y8, y9⟩ := frozen10 hb4
                have c80 : wr.cell? ⟨g8, 0, none⟩ = some (.slice (some ⟨gn, 0, none⟩) n c') := (blk_cell HW.out.2.1.blk 0).trans rfl
                have hn4 : g15 ≠ g2 + 1 := by have := HG15.out.2.2; have := HG.out; omega
                have hn84 : g8 ≠ g2 + 1 := blk_ne HW.out.2.1.blk HB4.out (by decide)
                have SB := Aside0.mk (fun (W : World) (hb : Off (g2 + 1) wr W) => (⟨hb.cell c80 hn84, hb.cell z0 hn4, hb.cell z1 hn4, hb.cell z2 hn4, hb.cell z3 hn4, hb.cell z4 hn4, hb.cell z5 hn4, hb.cell z6 hn4, hb.cell z7 hn4, hb.cell z8 hn4, hb.cell z9 hn4⟩ : W.cell? ⟨g8, 0, none⟩ = some (.slice (some ⟨gn, 0, none⟩) n c') ∧ W.cell? ⟨g15, 0, none⟩ = some (.string nm) ∧ W.cell? ⟨g15, 1, none⟩ = some (.int .i64 par) ∧ W.cell? ⟨g15, 2, none⟩ = some (.slice Af nf cf) ∧ W.cell? ⟨g15, 3, none⟩ = some (.slice Ai ni ci) ∧ W.cell? ⟨g15, 4, none⟩ = some (.slice A3 i c3) ∧ W.cell? ⟨g15, 5, none⟩ = some (.int .i64 v0) ∧ W.cell? ⟨g15, 6, none⟩ = some (.int .i64 v1) ∧ W.cell? ⟨g15, 7, none⟩ = some (.int .i64 ac) ∧ W.cell? ⟨g15, 8, none⟩ = some (.int .i64 pr) ∧ W.cell? ⟨g15, 9, none⟩ = some (.int .i64 pv)))
                clear hR hb4 hlt hg hi
                go_upto_region 44 with fail
                go_region_held3 (fun W => W.cell? ⟨g8, 0, none⟩ = some (.slice (some ⟨gn, 0, none⟩) n c') ∧ W.cell? ⟨g15, 0, none⟩ = some (.string nm) ∧ W.cell? ⟨g15, 1, none⟩ = some (.int .i64 par) ∧ W.cell? ⟨g15, 2, none⟩ = some (.slice Af nf cf) ∧ W.cell? ⟨g15, 3, none⟩ = some (.slice Ai ni ci) ∧ W.cell? ⟨g15, 4, none⟩ = some (.slice A3 i c3) ∧ W.cell? ⟨g15, 5, none⟩ = some (.int .i64 v0) ∧ W.cell? ⟨g15, 6, none⟩ = some (.int .i64 v1) ∧ W.cell? ⟨g15, 7, none⟩ = some (.int .i64 ac) ∧ W.cell? ⟨g15, 8, none⟩ = some (.int .i64 pr) ∧ W.cell? ⟨g15, 9, none⟩ = some (.int .i64 pv))
                  ((refine SB.out _ ?_; with_reducible apply Off.drew; (first | (with_reducible exact Off.refl _ _) | (with_reducible exact off10 _ _ _ _ _ _ _ _ _ _ _ _))))
                  (fail)
                clear c80 z0 z1 z2 z3 z4 z5 z6 z7 z8 z9 y0 y1 y2 y3 y4 y5 y6 y7 y8 y9
                have hkp := keep10 (T := [26]) HB4.out (by decide) (.string nm) (.int .i64 par) (.slice Af nf cf) (.slice Ai ni ci) (.slice A3 i c3) (.int .i64 v0) (.int .i64 v1) (.int .i64 ac) (.int .i64 pr) (.int .i64 pv)
                have hbl := below10 HW.out.1.below (g := g2 + 1) (by have := HG.out; omega) (.string nm) (.int .i64 par) (.slice Af nf cf) (.slice Ai ni ci) (.slice A3 i c3) (.int .i64 v0) (.int .i64 v1) (.int .i64 ac) (.int .i64 pr) (.int .i64 pv)
                have hr36 := Kd.R_drew (R_keepT HRF.out hkp (by show ∀ q, q ∈ [36, 40, 33, 40] → q ∉ [26]; decide))
                have hr3 := Kd.R_drew (R_keepT (Kd.R_mono HW.out.2.1.num (fun _ _ => trivial)) hkp (by show ∀ q, q ∈ [3] → q ∉ [26]; decide))
                have HFIN := Aside0.mk (And.intro hr36 (And.intro hr3 hbl.drew))
                clear hkp hbl hr36 hr3 SB hn4 hn84
                go_wp2
                refine bodyPost_ret (v := .tuple #[.agg #[.string nm, .int .i64 par, .slice Af nf cf, .slice Ai ni ci, .slice A3 i c3, .int .i64 v0, .int .i64 v1, .int .i64 ac, .int .i64 pr, .int .i64 pv], .slice (some ⟨gn, 0, none⟩) n c', .int .i64 0]) (by simp [results, Try.results5, go_sem, *]) rfl ?_
                unfold AutoPost
                rw [if_pos HOK2.out, HNL.out]
                show ∃ (A0 : Option Addr) (m' c' : Nat) (B : Option Addr) (b : Nat), _ ∧ _
                refine ⟨A3, i, c3, some ⟨gn, 0, none⟩, c', ?_, ?_, ?_, HFIN.out.2.2⟩
                · rw [← HN.out, HV0.out, HV1.out]
                · exact HFIN.out.1
                · rw [← HN.out]; exact HFIN.out.2.1
end Go.Proofs.Ytgnpmcnmcbgdcaa.Aw
