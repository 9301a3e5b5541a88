/- The law on numbering holds of arguments that were read. Condition: rows within the form's reach. -/
import Derived.Test.YtgnpmcnmcbgdcaaAwR
set_option linter.unusedSimpArgs false
set_option linter.unusedVariables false
namespace Go.Proofs.Ytgnpmcnmcbgdcaa.Aw
open Go.RowKit Go.Proofs.YtgnpmcnmcbgdcaaW.PrintWords Go.Proofs.YtgnpmcnmcbgdcaaW.PrintLast Go.Proofs.YtgnpmcnmcbgdcaaW.PrintMore Go.Proofs.Ytgnpmcnmcbgdcaa.PAutoWalk

theorem good_num {locs : List S36} {st fi : Int} {more : List Int} (h : okL locs (st :: fi :: more) = true) : Good locs.length (numL locs st fi more) := by
  unfold numL
  exact (good_meet (good_run h _ (good_new _) (fun r hr => ok_root h (by
    rcases List.mem_cons.1 hr with hr | hr
    · rw [hr]; exact List.mem_cons_self
    · exact List.mem_cons_of_mem _ (List.mem_cons_of_mem _ hr)))) fi (ok_root h (List.mem_cons_of_mem _ List.mem_cons_self))).1

theorem few_re (num : List Int) {r : List S40} (h : FewW r) : FewW (reWays num r) := ⟨by unfold reWays; rw [List.length_map]; exact h.len, fun x hx => by
  obtain ⟨y, hy, rfl⟩ := List.mem_map.1 hx
  exact h.stm y hy⟩
theorem few_place (num : List Int) {l : S36} (h : FewL l) : FewL (rePlace num l) := ⟨few_re num h.out, by show (l.f1.map (reWays num)).length ≤ _; rw [List.length_map]; exact h.len, fun r hr => by
  obtain ⟨y, hy, rfl⟩ := List.mem_map.1 (show r ∈ l.f1.map (reWays num) from hr)
  exact few_re num (h.esc y hy)⟩
theorem few_zero : FewL z36 := ⟨⟨by decide, fun x hx => by cases hx⟩, by decide, fun r hr => by cases hr⟩

theorem walk_ok {w : World} {nm : ByteArray} {par st fi ac pr pv : Int} {Af Ai : Option Addr} {nf cf ni ci : Nat} {locs : List S36} {more : List Int} {e : Ending} {w' : World} (hok : okL locs (st :: fi :: more) = true) (h : AutoPost w nm par st fi ac pr pv Af Ai nf cf ni ci locs more e w') :
    WalkPost (fun A' c' => prV nm par ((numL locs st fi more).1.getD st.toNat 0) ((numL locs st fi more).1.getD fi.toNat 0) ac pr pv Af Ai A' nf cf ni ci ((numL locs st fi more).2.map fun i => rePlace (numL locs st fi more).1 (locs.getD i.toNat z36)).length c') ((numL locs st fi more).2.map fun i => rePlace (numL locs st fi more).1 (locs.getD i.toNat z36)) (numL locs st fi more).1 0 w e w' := by
  unfold AutoPost at h
  rw [if_pos hok] at h
  obtain ⟨A', m', c', B, b, rfl, hR, hN, hB⟩ := h
  have h1 := (Kd.R_reads' hR).1
  have h2 := (Kd.R_reads' hN).1
  rw [h2] at hN ⊢
  rw [h1] at hR ⊢
  exact ⟨A', c', B, b, rfl, hR, hN, hB⟩
theorem walk_no {w : World} {nm : ByteArray} {par st fi ac pr pv : Int} {Af Ai : Option Addr} {nf cf ni ci : Nat} {locs : List S36} {more : List Int} {e : Ending} {w' : World} (hok : ¬ okL locs (st :: fi :: more) = true) (h : AutoPost w nm par st fi ac pr pv Af Ai nf cf ni ci locs more e w') :
    WalkPost (fun A' c' => prV ⟨#[]⟩ 0 0 0 0 0 0 none none A' 0 0 0 0 ([] : List S36).length c') [] [] 16 w e w' := by
  unfold AutoPost at h
  rw [if_neg hok] at h
  obtain ⟨rfl, hB⟩ := h
  exact ⟨none, 0, none, 0, rfl, Kd.R_nil _ _ _ _ _, Kd.R_nil _ _ _ _ _, hB⟩

theorem auto_law (w : World) (nm : ByteArray) (par st fi ac pr pv : Int) (Af Ai A Am : Option Addr) (cf ci c cm : Nat) (fr : List S62) (ini : List Int) (locs : List S36) (more : List Int)
    (hF : k62.C w Af fr.length fr) (hcf : fr.length ≤ cf) (hlf : fr.length ≤ 17592186043904) (hI : k1.C w Ai ini.length ini) (hci : ini.length ≤ ci) (hli : ini.length ≤ 17592186043904)
    (hl : k36.C w A locs.length locs) (hcl : locs.length ≤ c) (hm : k1.C w Am more.length more) (hcm : more.length ≤ cm)
    (hln : locs.length ≤ 2513169434843) (hmn : more.length ≤ 17592186043904) (hs : ∀ l, l ∈ locs → Small l) :
    Calls Try.prog 3 #[.agg #[.string nm, .int .i64 par, .slice Af fr.length cf, .slice Ai ini.length ci, .slice A locs.length c, .int .i64 st, .int .i64 fi, .int .i64 ac, .int .i64 pr, .int .i64 pv], .slice Am more.length cm] w fun e w' => e = .returned (.bool true) ∧ Below w.heap.size w w' := by
  have hrow : ∀ l, l ∈ locs → l.f0.length ≤ 1256584717428 ∧ l.f1.length ≤ 5864062014634 ∧ ∀ r, r ∈ l.f1 → r.length ≤ 1256584717428 := fun l h => ⟨(hs l h).out, (hs l h).len, (hs l h).esc⟩
  have H4 := fun (W : World) (hb : Below w.heap.size w W) => auto_walk W nm par st fi ac pr pv Af Ai A Am fr.length cf ini.length ci c cm locs more (Kd.C_below hl hb) (Kd.C_below hm hb) hln hmn hrow
  have H5 := fun (W : World) (hb : Below w.heap.size w W) => ref_walk W nm par st fi ac pr pv Af Ai A Am fr.length cf ini.length ci c cm fr ini locs more rfl (Kd.C_below hF hb) hcf rfl (Kd.C_below hI hb) hci (Kd.C_below hl hb) hcl (Kd.C_below hm hb) hcm hln hmn hrow
  by_cases hok : okL locs (st :: fi :: more) = true
  · have hg := good_num hok
    have hle := hg.le
    have hln2 := hg.len
    refine law_walk w nm par st fi ac pr pv Af Ai A Am fr.length cf ini.length ci locs.length c more.length cm nm par ((numL locs st fi more).1.getD st.toNat 0) ((numL locs st fi more).1.getD fi.toNat 0) ac pr pv Af Ai fr.length cf ini.length ci fr ini ((numL locs st fi more).2.map fun i => rePlace (numL locs st fi more).1 (locs.getD i.toNat z36)) (numL locs st fi more).1 0
      (fun W hb => (H4 W hb).mono fun e w' h => walk_ok hok h) (fun W hb => (H5 W hb).mono fun e w' h => walk_ok hok h)
      rfl hF hcf (by omega) rfl hI hci (by omega) (by rw [List.length_map]; omega) (fun x hx => ?_) (by omega) (by decide)
    obtain ⟨i, hi, rfl⟩ := List.mem_map.1 hx
    refine few_place _ ?_
    rw [List.getD_eq_getElem?_getD]
    cases h : locs[i.toNat]? with
    | none => exact few_zero
    | some l => exact (hs l (List.mem_of_getElem? h)).few
  · exact law_walk w nm par st fi ac pr pv Af Ai A Am fr.length cf ini.length ci locs.length c more.length cm ⟨#[]⟩ 0 0 0 0 0 0 none none 0 0 0 0 [] [] [] [] 16
      (fun W hb => (H4 W hb).mono fun e w' h => walk_no hok h) (fun W hb => (H5 W hb).mono fun e w' h => walk_no hok h)
      rfl (Kd.C_nil k62 w) (Nat.le_refl _) (by decide) rfl (Kd.C_nil k1 w) (Nat.le_refl _) (by decide) (by decide) (fun x hx => by cases hx) (by decide) (by decide)

section
open Go.ChangeShapes Go.WideShapes Go.Deep
variable {H : Type} {enc : TypeId × Value → H} {w : World} {spare : Nat → Bool} {held : Bool}
/-- A proctype that came in. -/
theorem proc_sized {n : Nat} {cs : List Value} {x : DataW H × List MemPlace} (h : DataW.trod enc Try.prog w 0 spare held n 26 cs = some x) (hb : Light 26 x.1) :
    ∃ (nm : ByteArray) (par st fi ac pr pv : Int) (Af Ai A : Option Addr) (cf ci c : Nat) (fr : List S62) (ini : List Int) (locs : List S36), cs = [.string nm, .int .i64 par, .slice Af fr.length cf, .slice Ai ini.length ci, .slice A locs.length c, .int .i64 st, .int .i64 fi, .int .i64 ac, .int .i64 pr, .int .i64 pv] ∧
      (k62.C w Af fr.length fr ∧ fr.length ≤ cf ∧ fr.length ≤ 17592186043904) ∧ (k1.C w Ai ini.length ini ∧ ini.length ≤ ci ∧ ini.length ≤ 17592186043904) ∧ (k36.C w A locs.length locs ∧ locs.length ≤ c ∧ locs.length ≤ 2513169434843) ∧ ∀ l, l ∈ locs → Small l := by
  obtain ⟨xs, m, _, rfl, hl, hlen, hf⟩ := DataW.trod_struct Try.underlying26 h
  rw [cells26] at hl
  obtain ⟨v0, v1, v2, v3, v4, v5, v6, v7, v8, v9, rfl⟩ := list10 hl
  obtain ⟨y0, y1, y2, y3, y4, y5, y6, y7, y8, y9, rfl⟩ := list10 (cs := xs) hlen
  have h0 := hf 0 _ rfl
  have h1 := hf 1 _ rfl
  have h2 := hf 2 _ rfl
  have h3 := hf 3 _ rfl
  have h4 := hf 4 _ rfl
  have h5 := hf 5 _ rfl
  have h6 := hf 6 _ rfl
  have h7 := hf 7 _ rfl
  have h8 := hf 8 _ rfl
  have h9 := hf 9 _ rfl
  simp [cells9, cells3, cells22, cells23, cells24] at h0 h1 h2 h3 h4 h5 h6 h7 h8 h9
  obtain ⟨nm, e0, _⟩ := DataW.trod_string Try.underlying9 h0
  obtain ⟨a1, e1, _, _⟩ := DataW.trod_int Try.underlying3 h1
  obtain ⟨A2, n2, c2, l2, e2, hc2, hl2, hn2, hC2⟩ := types_sized h2 (light_field Try.underlying26 hb (j := 2) rfl rfl)
  obtain ⟨A3, n3, c3, l3, e3, hc3, hl3, hn3, hC3⟩ := nums_sized h3 (light_field Try.underlying26 hb (j := 3) rfl rfl)
  obtain ⟨A4, n4, c4, l4, e4, hc4, hl4, hn4, hC4, hs4⟩ := locs_sized h4 (light_field Try.underlying26 hb (j := 4) rfl rfl)
  obtain ⟨a5, e5, _, _⟩ := DataW.trod_int Try.underlying3 h5
  obtain ⟨a6, e6, _, _⟩ := DataW.trod_int Try.underlying3 h6
  obtain ⟨a7, e7, _, _⟩ := DataW.trod_int Try.underlying3 h7
  obtain ⟨a8, e8, _, _⟩ := DataW.trod_int Try.underlying3 h8
  obtain ⟨a9, e9, _, _⟩ := DataW.trod_int Try.underlying3 h9
  simp at e0 e1 e2 e3 e4 e5 e6 e7 e8 e9
  subst e0 e1 e2 e3 e4 e5 e6 e7 e8 e9 hl2 hl3 hl4
  exact ⟨nm, a1, a5, a6, a7, a8, a9, A2, A3, A4, c2, c3, c4, l2, l3, l4, rfl, ⟨hC2, hc2, hn2⟩, ⟨hC3, hc3, hn3⟩, ⟨hC4, hc4, hn4⟩, hs4⟩
end
end Go.Proofs.Ytgnpmcnmcbgdcaa.Aw
