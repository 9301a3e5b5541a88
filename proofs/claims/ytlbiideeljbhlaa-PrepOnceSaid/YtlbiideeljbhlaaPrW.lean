/- The law on one definition, in plain Lean: what comes of the row. No condition. -/
import Derived.Test.YtlbiideeljbhlaaPrV
set_option linter.unusedSimpArgs false
set_option linter.unusedVariables false
namespace Go.Proofs.Ytlbiideeljbhlaa.Pr
open Go.RowKit Go.BigFrame Go.Proofs.YtlbiideeljbhlaaW.PrintWords Go.Proofs.YtlbiideeljbhlaaW.PrintLast Go.Proofs.YtlbiideeljbhlaaW.PrintMore Go.Proofs.Ytlbiideeljbhlaa.PPrepSkips

/-- A token put on a line. -/
def lin (m : Int) (x : S26) : S26 := ⟨x.f0, x.f1, m, x.f3, x.f4⟩
/-- What the law makes of a token. -/
def plP (body : List S26) (x : S26) : List S26 := if x.f0 = 1 ∧ x.f3 = zzS then body else [lin 2 x]

abbrev hT : S26 := ⟨4, 0, 1, ⟨#[35]⟩, 0⟩
abbrev dT : S26 := ⟨1, 0, 1, defS, 0⟩
abbrev zT : S26 := ⟨1, 0, 1, zzS, 0⟩

/-- Two rows are alike, loosely. -/
def AL (a b : List S26) : Prop := a.length = b.length ∧ ∀ i (h1 : i < a.length) (h2 : i < b.length), Alike true a[i] b[i]
theorem AL.append {a b a' b' : List S26} (h : AL a b) (h' : AL a' b') : AL (a ++ a') (b ++ b') := by
  refine ⟨by rw [List.length_append, List.length_append, h.1, h'.1], fun i h1 h2 => ?_⟩
  by_cases hi : i < a.length
  · rw [List.getElem_append_left hi, List.getElem_append_left (by rw [← h.1]; exact hi)]
    exact h.2 i hi (by rw [← h.1]; exact hi)
  · rw [List.length_append] at h1 h2
    have e : a.length = b.length := h.1
    rw [List.getElem_append_right (by omega), List.getElem_append_right (by omega)]
    have e2 : a'[i - a.length]'(by omega) = a'[i - b.length]'(by omega) := by congr 1; omega
    rw [e2]
    have := h'.2 (i - b.length) (by omega) (by omega)
    exact this
theorem AL.refl (a : List S26) : AL a a := ⟨rfl, fun _ _ _ => Alike.refl _ _⟩
theorem al_body (body : List S26) (a : S26) : AL ((body.map (lin 1)).map (relab a)) body := by
  refine ⟨by simp, fun i h1 h2 => ?_⟩
  simp only [List.getElem_map]
  exact ⟨rfl, rfl, rfl, fun h => by cases h⟩
theorem al_tok (body : List S26) (x : S26) : AL (expT zzS (body.map (lin 1)) (lin 2 x)) (plP body x) := by
  unfold expT plP
  by_cases h : x.f0 = 1 ∧ x.f3 = zzS
  · rw [if_pos (show (lin 2 x).f0 = 1 ∧ (lin 2 x).f3 = zzS from h), if_pos h]
    exact al_body body _
  · rw [if_neg (show ¬ ((lin 2 x).f0 = 1 ∧ (lin 2 x).f3 = zzS) from h), if_neg h]
    exact AL.refl _
theorem al_row (body : List S26) : ∀ l : List S26, AL ((l.map (lin 2)).flatMap (expT zzS (body.map (lin 1)))) (l.flatMap (plP body))
  | [] => AL.refl _
  | x :: l => by
    rw [List.map_cons, List.flatMap_cons, List.flatMap_cons]
    exact (al_tok body x).append (al_row body l)
theorem plP_end (body : List S26) (en : S26) (h : en.f0 = 0) : plP body en = [lin 2 en] := by
  unfold plP
  rw [if_neg]
  rintro ⟨h1, -⟩
  omega
theorem al_all (body l : List S26) (en : S26) (h : en.f0 = 0) : AL ((l.map (lin 2)).flatMap (expT zzS (body.map (lin 1))) ++ [lin 2 en]) ((l ++ [en]).flatMap (plP body)) := by
  rw [List.flatMap_append, List.flatMap_cons, List.flatMap_nil, List.append_nil, plP_end body en h]
  exact (al_row body l).append (AL.refl _)
theorem pl_len (body : List S26) (k : Nat) (hk : body.length ≤ k) (h1 : 1 ≤ k) : ∀ l : List S26, (l.flatMap (plP body)).length ≤ l.length * k
  | [] => by simp
  | x :: l => by
    rw [List.flatMap_cons, List.length_append, List.length_cons, Nat.succ_mul]
    have h2 := pl_len body k hk h1 l
    have h3 : (plP body x).length ≤ k := by
      unfold plP
      split
      · exact hk
      · exact h1
    omega
theorem def_row (body l : List S26) (en : S26) : [hT, dT, zT] ++ body.map (lin 1) ++ (l ++ [en]).map (lin 2) = (hT :: dT :: zT :: (body.map (lin 1) ++ l.map (lin 2))) ++ [lin 2 en] := by simp

/-- The literal of three tokens. -/
theorem R_lit3 (w : World) (base : Nat) (x y z : S26) (hb : base ≤ w.heap.size) : k26.R 26 (w.alloc (.cells #[.int .i64 x.f0, .int .i64 x.f1, .int .i64 x.f2, .string x.f3, .int .i64 x.f4, .int .i64 y.f0, .int .i64 y.f1, .int .i64 y.f2, .string y.f3, .int .i64 y.f4, .int .i64 z.f0, .int .i64 z.f1, .int .i64 z.f2, .string z.f3, .int .i64 z.f4] 26)) base (fun _ => True) (.slice (some ⟨w.heap.size, 0, none⟩) 3 3) [x, y, z] := by
  refine ⟨fun _ _ => trivial, _, World.ownsRow_lit (base := base) (e := 26) (size := 5) w _ 3 hb (by unfold maxLen; omega) rfl, rfl, fun j p hj => ?_⟩
  match j, hj with
  | 0, hj => simp at hj; subst hj; exact k26_mkM _ _ _ _
  | 1, hj => simp at hj; subst hj; exact k26_mkM _ _ _ _
  | 2, hj => simp at hj; subst hj; exact k26_mkM _ _ _ _
  | j + 3, hj => simp at hj

theorem k26_E : k26.E = [] := rfl
/-- Two rows apart. -/
def Apart (u v : Value) : Prop := ∀ k, u.ownBlock = some k → some k ≠ v.ownBlock
theorem Apart.left {W : World} {base : Nat} {ok : Nat → Prop} {u u1 v : Value} {ys : List S26} (h : Apart u v) (hv : k26.R 26 W base ok v ys) (hat : u1.ownBlock = u.ownBlock ∨ ∃ b, u1.ownBlock = some b ∧ W.heap.size ≤ b) : Apart u1 v := fun k hk e => by
  rcases hat with hat | ⟨b, hb, hle⟩
  · exact h k (hat ▸ hk) e
  · have h1 := Kd.R_lt hv k e.symm
    rw [hb] at hk; cases hk; omega
theorem Apart.symm {u v : Value} (h : Apart u v) : Apart v u := fun k hk e => h k e.symm hk.symm
end Go.Proofs.Ytlbiideeljbhlaa.Pr
