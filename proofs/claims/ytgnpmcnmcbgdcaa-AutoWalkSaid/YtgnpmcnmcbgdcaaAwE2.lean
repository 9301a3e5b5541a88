/- How places and ways lie in memory. No condition. -/
import Derived.Test.YtgnpmcnmcbgdcaaAwE
set_option linter.unusedSimpArgs false
set_option linter.unusedVariables false
namespace Go.Proofs.Ytgnpmcnmcbgdcaa.Aw
open Go.RowKit Go.Proofs.YtgnpmcnmcbgdcaaW.PrintWords Go.Proofs.YtgnpmcnmcbgdcaaW.PrintLast Go.Proofs.YtgnpmcnmcbgdcaaW.PrintMore Go.Proofs.Ytgnpmcnmcbgdcaa.PAutoWalk

theorem row_at {α : Type} {R : α → List Value → Prop} {s n : Nat} {w : World} {A : Option Addr} {xs : List α} (h : ReadsRow R s w A n xs) (hs : 0 < s) : ∃ b o, ∀ i (hi : i < xs.length), A = some ⟨b, o, none⟩ ∧ ∃ c, c.length = s ∧ R xs[i] c ∧ ∀ j u, c[j]? = some u → w.cell? ⟨b, o + i * s + j, none⟩ = some u := by
  obtain ⟨hl, _, hr⟩ := h
  rcases Nat.eq_zero_or_pos n with h0 | h0
  · exact ⟨0, 0, fun i hi => by omega⟩
  · obtain ⟨ad, rfl, hc⟩ := hr h0
    obtain ⟨b, o, t⟩ := ad
    have ht : t = none := by
      obtain ⟨c, hcl, _, hcc⟩ := hc 0 _ (List.getElem?_eq_getElem (show 0 < xs.length by omega))
      have := World.cell?_spot (hcc 0 _ (List.getElem?_eq_getElem (show 0 < c.length by omega)))
      unfold Addr.add at this
      rwa [if_pos (by simp)] at this
    subst ht
    refine ⟨b, o, fun i hi => ⟨rfl, ?_⟩⟩
    obtain ⟨c, hcl, hk, hcc⟩ := hc i _ (List.getElem?_eq_getElem hi)
    refine ⟨c, hcl, hk, fun j u hu => ?_⟩
    have := hcc j u hu
    rw [Go.WideShapes.add_plain] at this
    rwa [Nat.add_assoc]

/-- Where a place's ways lie. -/
structure PlaceAt (w : World) (l : S36) (A0 A1 : Option Addr) (b0 o0 b1 o1 : Nat) (E : Nat → Option Addr) (ec eb eo : Nat → Nat) : Prop where
  h0 : 0 < l.f0.length → A0 = some ⟨b0, o0, none⟩
  h1 : 0 < l.f1.length → A1 = some ⟨b1, o1, none⟩
  t0 : ∀ i (h : i < l.f0.length), w.cell? ⟨b0, o0 + i * 9 + 7, none⟩ = some (.int .i64 l.f0[i].f1)
  esc : ∀ i (h : i < l.f1.length), w.cell? ⟨b1, o1 + i, none⟩ = some (.slice (E i) l.f1[i].length (ec i)) ∧ l.f1[i].length ≤ ec i ∧ k40.C w (E i) l.f1[i].length l.f1[i]
  hE : ∀ i (h : i < l.f1.length), 0 < l.f1[i].length → E i = some ⟨eb i, eo i, none⟩
  t1 : ∀ i (h : i < l.f1.length) k (hk : k < l.f1[i].length), w.cell? ⟨eb i, eo i + k * 9 + 7, none⟩ = some (.int .i64 l.f1[i][k].f1)

theorem way_to {w : World} {x : S40} {cs : List Value} (h : k40.K w x cs) : cs[7]? = some (.int .i64 x.f1) := by
  obtain ⟨A4, c4, A5, c5, rfl, _⟩ := k40_open h
  rfl

theorem place_of {w : World} {l : S36} {A0 A1 : Option Addr} (h0 : k40.C w A0 l.f0.length l.f0) (h1 : (Kd.slice 40 k40).C w A1 l.f1.length l.f1) : ∃ b0 o0 b1 o1 E ec eb eo, PlaceAt w l A0 A1 b0 o0 b1 o1 E ec eb eo := by
  obtain ⟨b0, o0, r0⟩ := row_at h0 (by show 0 < 9; decide)
  obtain ⟨b1, o1, r1⟩ := row_at h1 (by show 0 < 1; decide)
  have each : ∀ i, ∃ (e : Option Addr) (c eb eo : Nat), ∀ h : i < l.f1.length, w.cell? ⟨b1, o1 + i, none⟩ = some (.slice e l.f1[i].length c) ∧ l.f1[i].length ≤ c ∧ k40.C w e l.f1[i].length l.f1[i] ∧ (0 < l.f1[i].length → e = some ⟨eb, eo, none⟩) ∧ ∀ k (hk : k < l.f1[i].length), w.cell? ⟨eb, eo + k * 9 + 7, none⟩ = some (.int .i64 l.f1[i][k].f1) := by
    intro i
    by_cases hi : i < l.f1.length
    · obtain ⟨_, cs, _, ⟨e, c, rfl, hlc, hC⟩, hcc⟩ := r1 i hi
      obtain ⟨eb, eo, re⟩ := row_at hC (by show 0 < 9; decide)
      refine ⟨e, c, eb, eo, fun _ => ⟨by simpa [Kd.slice] using hcc 0 _ rfl, hlc, hC, fun hp => (re 0 hp).1, fun k hk => ?_⟩⟩
      obtain ⟨_, cs, _, hK, hcc⟩ := re k hk
      exact hcc 7 _ (way_to hK)
    · exact ⟨none, 0, 0, 0, fun h => absurd h hi⟩
  refine ⟨b0, o0, b1, o1, fun i => (each i).choose, fun i => (each i).choose_spec.choose, fun i => (each i).choose_spec.choose_spec.choose, fun i => (each i).choose_spec.choose_spec.choose_spec.choose, ⟨fun hp => (r0 0 hp).1, fun hp => (r1 0 hp).1, fun i h => ?_, fun i h => ?_, fun i h hp => ?_, fun i h k hk => ?_⟩⟩
  · obtain ⟨_, cs, _, hK, hcc⟩ := r0 i h
    exact hcc 7 _ (way_to hK)
  · have := (each i).choose_spec.choose_spec.choose_spec.choose_spec h
    exact ⟨this.1, this.2.1, this.2.2.1⟩
  · exact ((each i).choose_spec.choose_spec.choose_spec.choose_spec h).2.2.2.1 hp
  · exact ((each i).choose_spec.choose_spec.choose_spec.choose_spec h).2.2.2.2 k hk

/-- A place of a row. -/
theorem place_at {w : World} {A : Option Addr} {n : Nat} {locs : List S36} (h : k36.C w A n locs) : ∃ b o, ∀ i (hi : i < locs.length), A = some ⟨b, o, none⟩ ∧ ∃ A0 c0 A1 c1, locs[i].f0.length ≤ c0 ∧ k40.C w A0 locs[i].f0.length locs[i].f0 ∧ locs[i].f1.length ≤ c1 ∧ (Kd.slice 40 k40).C w A1 locs[i].f1.length locs[i].f1 ∧
    (w.cell? ⟨b, o + i * 7, none⟩ = some (.slice A0 locs[i].f0.length c0) ∧ w.cell? ⟨b, o + i * 7 + 1, none⟩ = some (.slice A1 locs[i].f1.length c1) ∧ w.cell? ⟨b, o + i * 7 + 2, none⟩ = some (.bool locs[i].f2) ∧ w.cell? ⟨b, o + i * 7 + 3, none⟩ = some (.bool locs[i].f3) ∧ w.cell? ⟨b, o + i * 7 + 4, none⟩ = some (.bool locs[i].f4) ∧ w.cell? ⟨b, o + i * 7 + 5, none⟩ = some (.bool locs[i].f5) ∧ w.cell? ⟨b, o + i * 7 + 6, none⟩ = some (.bool locs[i].f6)) := by
  obtain ⟨b, o, r⟩ := row_at h (by show 0 < 7; decide)
  refine ⟨b, o, fun i hi => ?_⟩
  obtain ⟨hA, cs, _, hK, hcc⟩ := r i hi
  obtain ⟨A0, c0, A1, c1, rfl, l0, g0, l1, g1⟩ := k36_open hK
  exact ⟨hA, A0, c0, A1, c1, l0, g0, l1, g1, hcc 0 _ rfl, hcc 1 _ rfl, hcc 2 _ rfl, hcc 3 _ rfl, hcc 4 _ rfl, hcc 5 _ rfl, hcc 6 _ rfl⟩

theorem flat_take (l : S36) (i : Nat) (hi : i < l.f0.length) : l.f0.take (i + 1) = l.f0.take i ++ [l.f0[i]] := by rw [List.take_add_one, List.getElem?_eq_getElem hi]; rfl
theorem flat_take1 (l : S36) (p : List S40) (i : Nat) (hi : i < l.f1.length) (k : Nat) (hk : k < l.f1[i].length) : p ++ l.f1[i].take (k + 1) = (p ++ l.f1[i].take k) ++ [l.f1[i][k]] := by
  rw [List.take_add_one, List.getElem?_eq_getElem hk, List.append_assoc]; rfl
end Go.Proofs.Ytgnpmcnmcbgdcaa.Aw
