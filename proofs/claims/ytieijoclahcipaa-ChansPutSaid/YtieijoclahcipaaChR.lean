/- A channel copied by the document's copy, and a channel that is written over. Condition: fewer than 2^47/24 messages, each of fewer than 2^44 numbers. -/
import Derived.Test.YtieijoclahcipaaChK
set_option linter.unusedSimpArgs false
set_option linter.unusedVariables false
namespace Go.Proofs.Ytieijoclahcipaa.Ch
open Go.RowKit Go.Proofs.YtieijoclahcipaaW.PrintWords Go.Proofs.YtieijoclahcipaaW.PrintLast Go.Proofs.YtieijoclahcipaaW.PrintMore Go.Proofs.Ytieijoclahcipaa.PChansPut Go.Proofs.Ytieijoclahcipaa.Vm

theorem copy_go (sh : Int) (q : List (List Int)) (hq : q.length ≤ 5864062014804) (hm : ∀ y, y ∈ q → y.length < 17592186044416) : ∀ (n k i : Nat), i + n = q.length → n + 3 < k →
    spinneretref12_Copy.l1 k 0 (i : Int) [] [⟨sh, q⟩] [] 0 0 0 [] [] 0 0 0 sh (q.take i) = some ([], [⟨sh, q⟩], [], 0, 0, 0) := by
  intro n
  induction n with
  | zero =>
    intro k i hi hk
    obtain ⟨k, rfl⟩ : ∃ j, k = j + 4 := ⟨k - 4, by omega⟩
    have e : i = q.length := by omega
    subst e
    have h0 : ¬ (((q.length : Nat) : Int) < ((rd_T27 [(⟨sh, q⟩ : S27)] 0).f1.length : Int)) := by simp [rd_T27]
    simp only [spinneretref12_Copy.l1, spinneretref12_Copy.l0, spinneretref12_Copy.l2]
    rw [if_pos (by decide), if_pos (by simp), if_neg h0]
    simp [wrap64, List.take_length]
  | succ n ih =>
    intro k i hi hk
    obtain ⟨k, rfl⟩ : ∃ j, k = j + 1 := ⟨k - 1, by omega⟩
    have hil : i < q.length := by omega
    have hrd : rd_L1 q (i : Int) = q[i] := by
      unfold rd_L1
      rw [Int.toNat_natCast, List.getD_eq_getElem?_getD, List.getElem?_eq_getElem hil]
      rfl
    have hw : wrap64 ((i : Int) + 1) = ((i + 1 : Nat) : Int) := by rw [wrap64_id (by omega) (by omega)]; omega
    have hl := hm _ (List.getElem_mem hil)
    have e1 : (rd_T27 [(⟨sh, q⟩ : S27)] 0).f1 = q := rfl
    simp only [spinneretref12_Copy.l1, e1, hrd, hw]
    rw [if_pos (by decide), if_pos (by simp), if_pos (by omega), if_pos (by omega), if_pos (by simpa using hl), if_pos (by rw [List.length_take]; omega), List.nil_append, show q.take i ++ [q[i]] = q.take (i + 1) by simp]
    exact ih k (i + 1) (by omega) (by omega)

theorem copy_same (sh : Int) (q : List (List Int)) (hq : q.length ≤ 5864062014804) (hm : ∀ y, y ∈ q → y.length < 17592186044416) : spinneretref12_Copy.f (q.length + 5) [] [⟨sh, q⟩] [] 0 0 0 = some ([], [⟨sh, q⟩], [], 0, 0, 0) := by
  unfold spinneretref12_Copy.f
  rw [if_pos (by decide)]
  simp only [spinneretref12_Copy.l0]
  rw [if_pos (by simp), if_pos (by decide)]
  exact copy_go sh q hq hm q.length _ 0 (by omega) (by omega)

theorem zero_in {α : Type} (d : Kd α) (w : World) : d.C w none ([] : List α).length [] := Kd.C_nil d w

/-- One channel, as it is read. -/
theorem chan_in {W : World} {b c : Nat} {A : Option Addr} (sh : Int) (q : List (List Int)) (h : W.heap[b]? = some (.cells #[.int .i64 sh, .slice A q.length c] 27 (0, 0))) (hc : q.length ≤ c) (hq : kd2.C W A q.length q) : k27.C W (some ⟨b, 0, none⟩) 1 [⟨sh, q⟩] := by
  refine ⟨rfl, by decide, fun _ => ⟨_, rfl, fun j p hj => ⟨[.int .i64 sh, .slice A q.length c], rfl, ?_, fun i u hu => ?_⟩⟩⟩
  · cases j with
    | succ j => simp at hj
    | zero =>
      simp at hj
      subst hj
      exact k27_mk W ⟨sh, q⟩ hc hq
  · cases j with
    | succ j => simp at hj
    | zero =>
      rw [Go.WideShapes.add_plain, blk_cell h]
      match i, hu with
      | 0, hu => simpa using hu
      | 1, hu => simpa using hu

theorem copy_chan (W : World) (b : Nat) (sh : Int) (A : Option Addr) (c : Nat) (q : List (List Int)) (hq : kd2.C W A q.length q) (hc : q.length ≤ c) (hf : spinneretref12_Copy.f (q.length + 5) [] [⟨sh, q⟩] [] 0 0 0 = some ([], [⟨sh, q⟩], [], 0, 0, 0)) (h : W.heap[b]? = some (.cells #[.int .i64 sh, .slice A q.length c] 27 (0, 0))) :
    Calls Try.prog 18 #[.agg #[.slice none 0 0, .slice (some ⟨b, 0, none⟩) 1 1, .slice none 0 0, .int .i64 0, .int .i64 0, .int .i64 0]] W fun e w' => ∃ A0 c0 g cg A2 c2 B d, e = .returned (.agg #[.slice A0 0 c0, .slice (some ⟨g, 0, none⟩) 1 cg, .slice A2 0 c2, .int .i64 0, .int .i64 0, .int .i64 0]) ∧
      w'.cell? ⟨g, 0, none⟩ = some (.int .i64 sh) ∧ w'.cell? ⟨g, 1, none⟩ = some (.slice B q.length d) ∧ q.length ≤ d ∧ kd2.R 29 w' W.heap.size (fun _ => True) (.slice B q.length d) q ∧ Below W.heap.size W w' := by
  refine (spinneretref12_Copy.calls (q.length + 5) none 0 [] (some ⟨b, 0, none⟩) 1 [⟨sh, q⟩] none 0 [] 0 0 0 [] [⟨sh, q⟩] [] 0 0 0 W (Kd.C_nil _ _) (Nat.le_refl _) (chan_in sh q h hc hq) (Nat.le_refl _) (Kd.C_nil _ _) (Nat.le_refl _) hf).mono ?_
  rintro e w' ⟨v0, v1, v2, rfl, hR0, hR1, ⟨f2, hR2⟩, hB⟩
  obtain ⟨A0, c0, rfl⟩ := Kd.R_slice hR0
  obtain ⟨A2, c2, rfl⟩ := Kd.R_slice hR2
  obtain ⟨g, cg, rfl, _, hg, _⟩ := Kd.R_form hR1 (by simp)
  obtain ⟨cs, _, hM, hcells, _⟩ := Kd.R_elem hR1 z27 0 (by decide) (by simp)
  obtain ⟨v, rfl, hRv⟩ := k27_openM hM
  obtain ⟨B, d, rfl, hd, hC⟩ := Kd.R_reads hRv
  have h0 := hcells 0 _ rfl
  have h1 := hcells 1 _ rfl
  exact ⟨A0, c0, g, cg, A2, c2, B, d, rfl, by simpa using h0, by simpa using h1, hd, Kd.R_mono hRv (fun _ _ => trivial), hB⟩

set_option maxHeartbeats 4000000 in
set_option maxRecDepth 100000 in
theorem copied7_walk (w : World) (sh : Int) (A : Option Addr) (c : Nat) (q : List (List Int)) (hq : kd2.C w A q.length q) (hc : q.length ≤ c) (hql : q.length ≤ 5864062014804) (hqm : ∀ y, y ∈ q → y.length < 17592186044416) :
    Calls Try.prog 7 #[.agg #[.int .i64 sh, .slice A q.length c]] w fun e w' => ∃ B d, e = .returned (.agg #[.int .i64 sh, .slice B q.length d]) ∧ q.length ≤ d ∧ kd2.C w' B q.length q ∧ Below w.heap.size w w' := by
  have HQ := Aside0.mk hq
  have HF := Aside0.mk (copy_same sh q hql hqm)
  have HC := Aside0.mk hc
  clear hq hqm hc
  go_enter Try.func7, Try.ntmps7
  have HP : Aside0 (∀ (W : World) (b : Nat), W.heap[b]? = some (.cells #[.int .i64 sh, .slice A q.length c] 27 (0, 0)) → Below w.heap.size w W → Calls Try.prog 18 #[.agg #[.slice none 0 0, .slice (some ⟨b, 0, none⟩) 1 1, .slice none 0 0, .int .i64 0, .int .i64 0, .int .i64 0]] W fun e w' => ∃ A0 c0 g cg A2 c2 B d, e = .returned (.agg #[.slice A0 0 c0, .slice (some ⟨g, 0, none⟩) 1 cg, .slice A2 0 c2, .int .i64 0, .int .i64 0, .int .i64 0]) ∧
      w'.cell? ⟨g, 0, none⟩ = some (.int .i64 sh) ∧ w'.cell? ⟨g, 1, none⟩ = some (.slice B q.length d) ∧ q.length ≤ d ∧ kd2.R 29 w' W.heap.size (fun _ => True) (.slice B q.length d) q ∧ Below W.heap.size W w') := ⟨fun W b hb hB => copy_chan W b sh A c q (Kd.C_below HQ.out hB) HC.out HF.out hb⟩
  obtain ⟨n, hn⟩ : ∃ n, n = q.length := ⟨_, rfl⟩
  rw [← hn] at HP ⊢
  have b1 := blk_new (w.alloc (.cells #[.int .i64 sh, .slice A n c] 27)) (.cells #[.int .i64 0, .slice none 0 0] 27)
  have b2 := blk_new ((w.alloc (.cells #[.int .i64 sh, .slice A n c] 27)).alloc (.cells #[.int .i64 0, .slice none 0 0] 27)) (.cells #[.int .i64 sh, .slice A n c] 27)
  have bB := below_alloc (below_alloc (below_alloc (Below.refl w.heap.size w) (.cells #[.int .i64 sh, .slice A n c] 27)) (.cells #[.int .i64 0, .slice none 0 0] 27)) (.cells #[.int .i64 sh, .slice A n c] 27)
  have B2 : Aside0 ((((w.alloc (.cells #[.int .i64 sh, .slice A n c] 27)).alloc (.cells #[.int .i64 0, .slice none 0 0] 27)).alloc (.cells #[.int .i64 sh, .slice A n c] 27)).heap[w.heap.size + 1 + 1]? = some (.cells #[.int .i64 sh, .slice A n c] 27 (0, 0))) := ⟨by simpa using b2⟩
  have B1 : Aside0 ((((w.alloc (.cells #[.int .i64 sh, .slice A n c] 27)).alloc (.cells #[.int .i64 0, .slice none 0 0] 27)).alloc (.cells #[.int .i64 sh, .slice A n c] 27)).heap[w.heap.size + 1]? = some (.cells #[.int .i64 0, .slice none 0 0] 27 (0, 0))) := ⟨by simpa using blk_alloc b1 (.cells #[.int .i64 sh, .slice A n c] 27)⟩
  have BB := Aside0.mk bB
  clear b1 b2 bB
  have HN := Aside0.mk hn
  clear hn
  go_upto_region 2 with (go_at_call 18; refine (HP.out _ _ B2.out BB.out).mono ?_; rintro e w1 ⟨A0, c0, g, cg, A2, c2, B, d, rfl, hg0, hg1, hd, hC, hB⟩; have HD := Aside0.mk (And.intro hd (And.intro hC (And.intro hB (And.intro hg0 hg1)))); clear hd hC hB hg0 hg1)
  refine wp_world (fun W => (W.cell? ⟨g, 0, none⟩ = some (.int .i64 sh) ∧ W.cell? ⟨g, 1, none⟩ = some (.slice B n d)) ∧ Aside0 (W.heap[w.heap.size + 1]? = some (.cells #[.int .i64 0, .slice none 0 0] 27 (0, 0)) ∧ W.heap[w1.heap.size]? = some (.cells #[.slice A0 0 c0, .slice (some ⟨g, 0, none⟩) 1 cg, .slice A2 0 c2, .int .i64 0, .int .i64 0, .int .i64 0] 53 (0, 0)) ∧ kd2.R 29 W w.heap.size (fun _ => True) (.slice B n d) q ∧ Below w.heap.size w W)) ⟨⟨?_, ?_⟩, ⟨?_, blk_new _ _, Kd.R_lower (Kd.R_alloc HD.out.2.1 _) BB.out.size, ?_⟩⟩ (fun W hW => ?_)
  · exact pw_cell_below (below_alloc (Below.refl _ _) _) HD.out.2.2.2.1
  · exact pw_cell_below (below_alloc (Below.refl _ _) _) HD.out.2.2.2.2
  · exact blk_alloc (blk_below B1.out HD.out.2.2.1) _
  · exact below_alloc (below_then BB.out BB.out.size HD.out.2.2.1) _
  obtain ⟨⟨hg0, hg1⟩, HW⟩ := hW
  have c31 := (blk_cell HW.out.2.1 1).trans rfl
  have c20 := (blk_cell HW.out.1 0).trans rfl
  have c21 := (blk_cell HW.out.1 1).trans rfl
  have f20 := blk_frozen HW.out.1 0
  have f21 := blk_frozen HW.out.1 1
  go_wp2
  refine bodyPost_ret (v := .agg #[.int .i64 sh, .slice B n d]) (by simp [results, Try.results7, go_sem, c20, c21]) rfl ⟨B, d, rfl, HD.out.1, ?_, ?_⟩
  · have h := Kd.R_set (Kd.R_set HW.out.2.2.1 HW.out.1 (by decide) 0 (.int .i64 sh)) (blk_set HW.out.1 0 _) (by decide) 1 (.slice B n d)
    rw [HN.out] at h ⊢
    exact (Kd.R_reads' h).2.2
  · exact (HW.out.2.2.2.setCell (by show w.heap.size ≤ w.heap.size + 1; omega) _).setCell (by show w.heap.size ≤ w.heap.size + 1; omega) _

/-- What is written over: from message i on, the messages lie in rows of their own. -/
def OwnRows (w : World) (base i : Nat) (A : Option Addr) (n : Nat) : Prop := n = 0 ∨ ∃ g cs, A = some ⟨g, 0, none⟩ ∧ base ≤ g ∧ w.heap[g]? = some (.cells cs 29 (0, 0)) ∧ ∀ j, i ≤ j → j < n → ∃ B m c, cs[j]? = some (.slice B m c) ∧ m ≤ 9223372036854775807 ∧ (m = 0 ∨ ∃ b cs', B = some ⟨b, 0, none⟩ ∧ base ≤ b ∧ w.heap[b]? = some (.cells cs' 2 (0, 0)) ∧ m ≤ cs'.size)

theorem own_rows {w : World} {base n c : Nat} {A : Option Addr} {q : List (List Int)} (h : kd2.R 29 w base (fun _ => True) (.slice A n c) q) : OwnRows w base 0 A n := by
  rcases Nat.eq_zero_or_pos n with h0 | h0
  · exact Or.inl h0
  · have hn := (Kd.R_reads' h).1
    obtain ⟨g, c', e, hb, _, cs, hcs⟩ := Kd.R_form h (by omega)
    injection e with e1 e2 e3
    subst e1
    refine Or.inr ⟨g, cs, rfl, hb, hcs, fun j _ hj => ?_⟩
    obtain ⟨cc, _, ⟨v, rfl, hv⟩, hcells, _⟩ := Kd.R_elem h [] (j : Int) (by omega) (by omega)
    obtain ⟨B, cb, rfl, hlc, hC⟩ := Kd.R_reads hv
    have hcell := hcells 0 _ rfl
    rw [Int.toNat_natCast, show j * kd2.sz + 0 = j by simp [Kd.slice], blk_cell hcs] at hcell
    rw [Int.toNat_natCast] at hv hC hlc
    generalize q.getD j [] = y at hv hC hlc hcell
    refine ⟨B, y.length, cb, hcell, Kd.C_max hC, ?_⟩
    rcases Nat.eq_zero_or_pos y.length with h1 | h1
    · exact Or.inl h1
    · obtain ⟨b, c2, e, hb2, _, cs2, hcs2⟩ := Kd.R_form hv h1
      injection e with e1 _ _
      subst e1
      refine Or.inr ⟨b, cs2, rfl, hb2, hcs2, ?_⟩
      obtain ⟨_, _, rfl, hat, _⟩ := Kd.R_elem hv 0 ((y.length - 1 : Nat) : Int) (by omega) (by omega)
      have h2 := hat 0 _ rfl
      rw [blk_cell hcs2] at h2
      have := (Array.getElem?_eq_some_iff.1 h2).1
      simp [Kd.int, Kd.scalar] at this
      omega

theorem OwnRows.over {w : World} {base i n : Nat} {A : Option Addr} (h : OwnRows w base i A n) {b : Nat} {cs : Array Value} (hb : w.heap[b]? = some (.cells cs 2 (0, 0))) (j : Nat) (u : Value) : OwnRows (w.setCell ⟨b, j, none⟩ u) base i A n := by
  rcases h with h | ⟨g, cs0, e, hg, hcs, hr⟩
  · exact Or.inl h
  · have hne : g ≠ b := blk_ne hcs hb (by decide)
    refine Or.inr ⟨g, cs0, e, hg, blk_far (p := ⟨b, j, none⟩) hcs hne u, fun k h1 h2 => ?_⟩
    obtain ⟨B, m, c, hc, hm, hr⟩ := hr k h1 h2
    refine ⟨B, m, c, hc, hm, ?_⟩
    rcases hr with hr | ⟨b2, cs2, e2, hb2, hcs2, hl2⟩
    · exact Or.inl hr
    · by_cases hbb : b2 = b
      · subst hbb
        exact Or.inr ⟨b2, _, e2, hb2, blk_set hcs2 j u, by simpa using hl2⟩
      · exact Or.inr ⟨b2, cs2, e2, hb2, blk_far (p := ⟨b, j, none⟩) hcs2 hbb u, hl2⟩

theorem OwnRows.next {w : World} {base i n g : Nat} (h : OwnRows w base i (some ⟨g, 0, none⟩) n) (u : Value) : OwnRows (w.setCell ⟨g, i, none⟩ u) base (i + 1) (some ⟨g, 0, none⟩) n := by
  rcases h with h | ⟨g', cs0, e, hg, hcs, hr⟩
  · exact Or.inl h
  · cases e
    refine Or.inr ⟨g, _, rfl, hg, blk_set hcs i u, fun k h1 h2 => ?_⟩
    obtain ⟨B, m, c, hc, hm, hr⟩ := hr k (by omega) h2
    refine ⟨B, m, c, by rw [Array.getElem?_setIfInBounds_ne (by omega)]; exact hc, hm, ?_⟩
    rcases hr with hr | ⟨b2, cs2, e2, hb2, hcs2, hl2⟩
    · exact Or.inl hr
    · exact Or.inr ⟨b2, cs2, e2, hb2, blk_far (p := ⟨g, i, none⟩) hcs2 (blk_ne hcs2 hcs (by decide)) u, hl2⟩
end Go.Proofs.Ytieijoclahcipaa.Ch
