/- What the reference's words on rows answer: Right, Same. Condition: fewer than 2^63-1 tokens. -/
import Derived.Test.YtlbiideeljbhlaaPrI
import Derived.Test.YtlbiideeljbhlaaPrX
set_option linter.unusedSimpArgs false
set_option linter.unusedVariables false
namespace Go.Proofs.Ytlbiideeljbhlaa.Pr
open Go.RowKit Go.BigFrame Go.Proofs.YtlbiideeljbhlaaW.PrintWords Go.Proofs.YtlbiideeljbhlaaW.PrintLast Go.Proofs.YtlbiideeljbhlaaW.PrintMore Go.Proofs.Ytlbiideeljbhlaa.PPrepSkips

theorem suc64 (n : Nat) (h : n < 9223372036854775807) : wrap64 ((n : Int) + 1) = ((n + 1 : Nat) : Int) := by
  unfold wrap64; omega
theorem rd_at (l : List S26) (i : Nat) (h : i < l.length) : rd_T26 l (i : Int) = l[i] := by
  unfold rd_T26
  rw [Int.toNat_natCast, List.getD_eq_getElem?_getD, List.getElem?_eq_getElem h]; rfl

/-- Are two tokens alike? -/
def Alike (loose : Bool) (x y : S26) : Prop := x.f0 = y.f0 ∧ x.f3 = y.f3 ∧ x.f4 = y.f4 ∧ (loose = false → x.f1 = y.f1 ∧ x.f2 = y.f2)
theorem Alike.refl (loose : Bool) (x : S26) : Alike loose x x := ⟨rfl, rfl, rfl, fun _ => ⟨rfl, rfl⟩⟩

theorem same_go (a b : List S26) (loose : Bool) (hl : a.length = b.length) (hb : a.length ≤ 9223372036854775807) (h : ∀ i (h1 : i < a.length) (h2 : i < b.length), Alike loose a[i] b[i]) : ∀ (n k i : Nat), a.length - i = n → 2 * n < k → spinneretref01_Same.l0 k a b loose (i : Int) = some true := by
  intro n
  induction n with
  | zero =>
    intro k i hi hk
    obtain ⟨k, rfl⟩ : ∃ j, k = j + 1 := ⟨k - 1, by omega⟩
    simp only [spinneretref01_Same.l0]
    rw [if_neg (by omega)]
  | succ n ih =>
    intro k i hi hk
    obtain ⟨k, rfl⟩ : ∃ j, k = j + 2 := ⟨k - 2, by omega⟩
    have h1 : i < a.length := by omega
    have h2 : i < b.length := by omega
    obtain ⟨e0, e3, e4, e12⟩ := h i h1 h2
    simp only [spinneretref01_Same.l0]
    rw [if_pos (by omega), if_pos (by omega), if_pos (by omega), rd_at a i h1, rd_at b i h2, if_pos e0, if_pos (by rw [e3]), e4]
    simp only [bne_self_eq_false, spinneretref01_Same.j1]
    rw [if_neg (by decide), suc64 _ (by omega)]
    cases loose with
    | true =>
      rw [if_pos rfl]
      exact ih k (i + 1) (by omega) (by omega)
    | false =>
      rw [if_neg (by decide), if_pos (by omega), if_pos (by omega), if_pos (by omega), rd_at a i h1, rd_at b i h2, if_pos (e12 rfl).1, if_pos (e12 rfl).2]
      exact ih k (i + 1) (by omega) (by omega)
theorem same_law (a b : List S26) (loose : Bool) (hl : a.length = b.length) (hb : a.length ≤ 9223372036854775807) (h : ∀ i (h1 : i < a.length) (h2 : i < b.length), Alike loose a[i] b[i]) : spinneretref01_Same.f (2 * a.length + 1) a b loose = some true := by
  unfold spinneretref01_Same.f
  rw [if_pos (by rw [hl])]
  exact same_go a b loose hl hb h a.length _ 0 (by omega) (by omega)

theorem right_go (l : List S26) (hl : l.length ≤ 9223372036854775807) : ∀ (n k i : Nat), l.length - i = n → i ≤ l.length → n < k → ∃ r, spinneretref02_Right.l0 k l (i : Int) = some r ∧ (r = true → 0 < l.length ∧ ∀ j (hj : j < l.length), i ≤ j → (l[j].f0 = 0 ↔ j = l.length - 1)) := by
  intro n
  induction n with
  | zero =>
    intro k i hi hle hk
    obtain ⟨k, rfl⟩ : ∃ j, k = j + 1 := ⟨k - 1, by omega⟩
    simp only [spinneretref02_Right.l0]
    rw [if_neg (by omega)]
    exact ⟨_, rfl, fun h => ⟨by have := of_decide_eq_true h; omega, fun j hj h1 => by omega⟩⟩
  | succ n ih =>
    intro k i hi hle hk
    obtain ⟨k, rfl⟩ : ∃ j, k = j + 1 := ⟨k - 1, by omega⟩
    have h1 : i < l.length := by omega
    have hw : wrap64 ((l.length : Int) - 1) = ((l.length - 1 : Nat) : Int) := by unfold wrap64; omega
    simp only [spinneretref02_Right.l0]
    rw [if_pos (by omega), if_pos (by omega), rd_at l i h1, hw]
    by_cases hc : ((l[i].f0 == 0) != ((i : Int) == ((l.length - 1 : Nat) : Int))) = true
    · rw [if_pos hc]
      exact ⟨false, rfl, fun h => by cases h⟩
    · rw [if_neg hc, suc64 _ (by omega)]
      obtain ⟨r, hr, hi2⟩ := ih k (i + 1) (by omega) (by omega) (by omega)
      refine ⟨r, hr, fun h => ⟨(hi2 h).1, fun j hj hij => ?_⟩⟩
      by_cases e : j = i
      · subst e
        have hc' : (l[j].f0 == 0) = ((j : Int) == ((l.length - 1 : Nat) : Int)) := by simpa using hc
        constructor
        · intro h0
          rw [h0] at hc'
          have : ((j : Int) == ((l.length - 1 : Nat) : Int)) = true := by rw [← hc']; rfl
          have := eq_of_beq this
          omega
        · intro h0
          have : ((j : Int) == ((l.length - 1 : Nat) : Int)) = true := by rw [h0]; simp
          rw [this] at hc'
          exact eq_of_beq hc'
      · exact (hi2 h).2 j hj (by omega)
theorem right_law (l : List S26) (hl : l.length ≤ 9223372036854775807) : ∃ r, spinneretref02_Right.f (l.length + 1) l = some r ∧ (r = true → ∃ l' en, l = l' ++ [en] ∧ (∀ x, x ∈ l' → x.f0 ≠ 0) ∧ en.f0 = 0) := by
  obtain ⟨r, hr, h⟩ := right_go l hl l.length (l.length + 1) 0 (by omega) (by omega) (by omega)
  refine ⟨r, hr, fun e => ?_⟩
  obtain ⟨hp, hj⟩ := h e
  refine ⟨l.dropLast, l.getLast (by intro e; rw [e] at hp; exact absurd hp (by decide)), (List.dropLast_concat_getLast _).symm, fun x hx => ?_, ?_⟩
  · obtain ⟨j, hjl, rfl⟩ := List.mem_iff_getElem.1 hx
    rw [List.length_dropLast] at hjl
    rw [List.getElem_dropLast]
    intro h0
    have := (hj j (by omega) (by omega)).1 h0
    omega
  · rw [List.getLast_eq_getElem]
    exact (hj (l.length - 1) (by omega) (by omega)).2 rfl

/-- A token's word, by the reference. -/
theorem is_walk (x : S26) (s : ByteArray) (W : World) : Calls Try.prog 8 #[tokV x, .string s] W fun e w' => e = .returned (.bool (isT 4 x s)) ∧ Below W.heap.size W w' :=
  spinneretref02_Is.calls x.f0 x.f1 x.f2 x.f3 x.f4 s _ W (by
    unfold spinneretref02_Is.f isT
    by_cases h : x.f0 = 4
    · rw [if_pos h]; simp [h]
    · rw [if_neg h]; simp [h])
theorem same_walk (W : World) (A B : Option Addr) (ca cb : Nat) (a b : List S26) (loose : Bool) (hA : k26.C W A a.length a) (hca : a.length ≤ ca) (hB : k26.C W B b.length b) (hcb : b.length ≤ cb) (hl : a.length = b.length) (hb : a.length ≤ 9223372036854775807) (h : ∀ i (h1 : i < a.length) (h2 : i < b.length), Alike loose a[i] b[i]) :
    Calls Try.prog 10 #[.slice A a.length ca, .slice B b.length cb, .bool loose] W fun e w' => e = .returned (.bool true) ∧ Drawn0 W w' :=
  spinneretref01_Same.calls _ A ca a B cb b loose true W hA hca hB hcb (same_law a b loose hl hb h)
end Go.Proofs.Ytlbiideeljbhlaa.Pr
