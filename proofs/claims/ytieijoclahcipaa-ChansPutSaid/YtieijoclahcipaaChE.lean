/- Where a message is put in: slices.Insert in the words of rows of one's own. Condition: at most 2^47/24 messages. -/
import Derived.Test.YtieijoclahcipaaChD
set_option linter.unusedSimpArgs false
set_option linter.unusedVariables false
namespace Go.Proofs.Ytieijoclahcipaa.Ch
open Go.RowKit Go.Lib Go.Proofs.YtieijoclahcipaaW.PrintWords Go.Proofs.YtieijoclahcipaaW.PrintLast Go.Proofs.YtieijoclahcipaaW.PrintMore Go.Proofs.Ytieijoclahcipaa.PChansPut

/-- The row behind the call: old elements and the new one, none of whose memory was turned. -/
theorem inserted {W w' : World} {base g cap i : Nat} {okp : Nat → Prop} {vq vx : Value} {q : List (List Int)} {m : List Int} {inner : List Value} {cur : Array Value}
    (hr : Reps (kd2.M W base (fun k => True ∧ some k ≠ vq.ownBlock)) 1 q inner) (HX : kd1.R 2 W base okp vx m) (hokp : ∀ k, okp k → some k ≠ vq.ownBlock) (hi : i ≤ q.length)
    (hm : ∀ k, k < W.heap.size → some k ≠ vq.ownBlock → w'.heap[k]? = W.heap[k]?) (hg : vq.ownBlock = some g ∨ W.heap.size ≤ g) (hb : base ≤ g)
    (hh : w'.heap[g]? = some (.cells cur 29 (0, 0))) (hc : cur.size = cap) (hnc : q.length + 1 ≤ cap) (hcm : cap ≤ maxLen) (hcur : cur.toList.take (q.length + 1) = inner.take i ++ [vx] ++ inner.drop i) :
    kd2.R 29 w' base (fun _ => True) (.slice (some ⟨g, 0, none⟩) (q.length + 1) cap) (q.take i ++ [m] ++ q.drop i) := by
  have hln : (q.take i ++ [m] ++ q.drop i).length = q.length + 1 := by simp; omega
  have hil : inner.length = q.length := by have := hr.1; omega
  have step : ∀ {p : List Int} {c : List Value} {o : Nat → Prop}, kd2.M W base o p c → (∀ k, o k → some k ≠ vq.ownBlock) → kd2.M w' base (fun k => True ∧ some k ≠ (Value.slice (some ⟨g, 0, none⟩) (q.length + 1) cap).ownBlock) p c := by
    intro p c o hp ho
    have h1 := kd2.M_move (w1 := w') (fun k hk => hm k hk.2.2.1 (ho k hk.1)) (kd2.M_bound hp)
    refine kd2.M_mono (fun k hk => ⟨trivial, fun e => ?_⟩) h1
    have e2 : k = g := by simpa [Value.ownBlock] using e
    rcases hg with h | h
    · exact ho k hk.1 (by rw [h, e2])
    · have := hk.2.2.1
      omega
  refine ⟨fun _ _ => trivial, inner.take i ++ [vx] ++ inner.drop i, ⟨?_, .inr ⟨g, cap, cur, by rw [hln], hb, hh, by rw [hln]; exact hnc, hcm, by rw [hc]; simp [Kd.slice], ?_⟩⟩, ?_⟩
  · rw [hln]
    simp [Kd.slice]
    omega
  · rw [hln]
    have e1 : (q.length + 1) * kd2.sz = q.length + 1 := by simp [Kd.slice]
    rw [e1]
    exact hcur
  · refine Kd.reps_append (Kd.reps_append ?_ ?_) ?_
    · have := (Kd.reps_take hr hi).imp_ (fun p c hp => step hp (fun _ hk => hk.2))
      rwa [Nat.mul_one] at this
    · have h := (Reps.none (kd2.M w' base (fun k => True ∧ some k ≠ (Value.slice (some ⟨g, 0, none⟩) (q.length + 1) cap).ownBlock)) 1).snoc (p := m) (c := [vx]) (step ⟨vx, rfl, HX⟩ hokp) rfl
      exact h
    · have := (Kd.reps_drop (m := i) hr).imp_ (fun p c hp => step hp (fun _ hk => hk.2))
      rwa [Nat.mul_one] at this

theorem ins_shift {l inner : List Value} {vx : Value} {n i : Nat} (hi : i ≤ n) (hn : n + 1 ≤ l.length) (ht : l.take n = inner) :
    ((l.take (i + 1) ++ inner.drop i ++ l.drop (i + 1 + (inner.drop i).length)).take i ++ [vx] ++ (l.take (i + 1) ++ inner.drop i ++ l.drop (i + 1 + (inner.drop i).length)).drop (i + 1)).take (n + 1) = inner.take i ++ [vx] ++ inner.drop i := by
  have hil : inner.length = n := by rw [← ht, List.length_take]; omega
  have h1 : (l.take (i + 1)).length = i + 1 := by rw [List.length_take]; omega
  have h2 : l.take i = inner.take i := by rw [← ht, List.take_take, Nat.min_eq_left hi]
  have h3 : (l.take (i + 1) ++ inner.drop i ++ l.drop (i + 1 + (inner.drop i).length)).take i = inner.take i := by
    rw [List.append_assoc, List.take_append_of_le_length (by omega), List.take_take, Nat.min_eq_left (by omega), h2]
  have h4 : (l.take (i + 1) ++ inner.drop i ++ l.drop (i + 1 + (inner.drop i).length)).drop (i + 1) = inner.drop i ++ l.drop (i + 1 + (inner.drop i).length) := by
    rw [List.append_assoc, List.drop_left' h1]
  rw [h3, h4, ← List.append_assoc]
  exact List.take_left' (by simp; omega)

theorem ins_grow {l inner : List Value} {vx : Value} {n i : Nat} (hi : i ≤ n) (hn : n + 1 ≤ l.length) (hil : inner.length = n) (ht : l.take i = inner.take i) :
    ((l.take i ++ [vx] ++ l.drop (i + 1)).take (i + 1) ++ inner.drop i ++ (l.take i ++ [vx] ++ l.drop (i + 1)).drop (i + 1 + (inner.drop i).length)).take (n + 1) = inner.take i ++ [vx] ++ inner.drop i := by
  have h1 : (l.take i ++ [vx]).length = i + 1 := by rw [List.length_append, List.length_take, List.length_singleton]; omega
  rw [List.take_left' h1, ht]
  exact List.take_left' (by simp; omega)

theorem inner_one {W : World} {base : Nat} {ok : Nat → Prop} {q : List (List Int)} {inner : List Value} (hr : Reps (kd2.M W base ok) 1 q inner) : ∀ u ∈ inner, u.oneCell' = true := by
  intro u hu
  obtain ⟨j, hj, rfl⟩ := List.mem_iff_getElem.1 hu
  have hjq : j < q.length := by have := hr.1; omega
  refine kd2.K_one (kd2.K_of_M (hr.2 j _ (List.getElem?_eq_getElem hjq))) _ ?_
  rw [List.mem_iff_getElem?]
  exact ⟨0, by rw [List.getElem?_take, if_pos (by decide), List.getElem?_drop]; simp⟩

set_option maxHeartbeats 1600000 in
set_option maxRecDepth 100000 in
theorem insert_walk (W : World) (base : Nat) (vq vx : Value) (q : List (List Int)) (m : List Int) (i : Nat) (okp : Nat → Prop) (hi : i ≤ q.length) (HR : kd2.R 29 W base (fun _ => True) vq q) (HX : kd1.R 2 W base okp vx m) (hokp : ∀ k, okp k → some k ≠ vq.ownBlock)
    (hbase : base ≤ W.heap.size) (hl : q.length + 1 ≤ 5864062014805) :
    Calls Try.prog 24 #[vq, .int .i64 i, .slice (some ⟨W.heap.size, 0, none⟩) 1 1] (W.alloc (.cells #[vx] 29)) fun e w' =>
      ∃ v, e = .returned v ∧ kd2.R 29 w' base (fun _ => True) v (q.take i ++ [m] ++ q.drop i) ∧ Below base W w' ∧ W.grownBy w' vq.ownBlock := by
  by_cases hin : i = q.length
  · subst hin
    rw [List.take_length, List.drop_length, List.append_nil]
    obtain ⟨A, c, rfl⟩ := Kd.R_slice HR
    have HRA := Aside0.mk HR
    have HXA := Aside0.mk HX
    have hok : Aside0 (∀ k, okp k → True ∧ some k ≠ (Value.slice A q.length c).ownBlock) := ⟨fun k hk => ⟨trivial, hokp k hk⟩⟩
    have hqc : q.length ≤ c := (Kd.R_reads' HR).2.1
    clear HR HX hokp
    cases A with
    | none =>
      go_enter Try.func24, Try.ntmps24
      go_wp2_with (at_builtin; refine Kd.R_append kd2 (w0 := W) base rfl (.tmp 23) (.tmp 24) 25 29 (.slice none 0 0) 24 rfl Try.underlying25 info29 rfl (by decide) (by decide) (.slice none q.length c) q m [vx] (fun _ => True) okp rfl rfl ⟨vx, rfl, HXA.out⟩ hok.out (fun _ _ => trivial) HRA.out (Below.refl _ _) hbase (by omega) ?_; intro v1 w1 hR1 hB1 hg1 _)
      go_ret
      exact ⟨_, rfl, hR1, hB1, hg1⟩
    | some a =>
      obtain ⟨ab, ao, asp⟩ := a
      go_enter Try.func24, Try.ntmps24
      go_wp2_with (at_builtin; refine Kd.R_append kd2 (w0 := W) base rfl (.tmp 23) (.tmp 24) 25 29 (.slice none 0 0) 24 rfl Try.underlying25 info29 rfl (by decide) (by decide) (.slice (some ⟨ab, ao, asp⟩) q.length c) q m [vx] (fun _ => True) okp rfl rfl ⟨vx, rfl, HXA.out⟩ hok.out (fun _ _ => trivial) HRA.out (Below.refl _ _) hbase (by omega) ?_; intro v1 w1 hR1 hB1 hg1 _)
      all_goals (go_ret; exact ⟨_, rfl, hR1, hB1, hg1⟩)
  · have hlt : i < q.length := by omega
    obtain ⟨_, inner, hown, hr⟩ := HR
    rcases hown.2 with ⟨_, h0⟩ | ⟨g, cap, cur, rfl, hg, hh, hnc, hcm, hsz, htk⟩
    · omega
    have hsz' : cur.size = cap := by rw [hsz]; simp [Kd.slice]
    have htk' : cur.toList.take q.length = inner := by rw [← htk]; simp [Kd.slice]
    have hil : inner.length = q.length := by have := hr.1; simp [Kd.slice] at this; exact this
    have hr1 : Reps (kd2.M W base (fun k => True ∧ some k ≠ (Value.slice (some ⟨g, 0, none⟩) q.length cap).ownBlock)) 1 q inner := hr
    have hone := inner_one hr1
    have hgl : g < W.heap.size := blk_lt hh
    have hhA : (W.alloc (.cells #[vx] 29)).heap[g]? = some (.cells cur 29 (0, 0)) := blk_alloc hh _
    have hbA : (W.alloc (.cells #[vx] 29)).heap[W.heap.size]? = some (.cells #[vx] 29 (0, 0)) := blk_new _ _
    have hvx : ∀ v ∈ [vx], v.oneCell' = true := by
      intro v hv
      rw [List.mem_singleton.1 hv]
      exact (Kd.R_val HX).2
    have hci : ∀ (j : Nat) (v : Value), inner[j]? = some v → (W.alloc (.cells #[vx] 29)).cell? ⟨g, 0 + j, none⟩ = some v := by
      intro j v hj
      rw [Nat.zero_add, blk_cell hhA, ← Array.getElem?_toList]
      rw [← htk', List.getElem?_take] at hj
      split at hj
      · exact hj
      · cases hj
    have hvi : ∀ (j : Nat) (v : Value), [vx][j]? = some v → (W.alloc (.cells #[vx] 29)).cell? ⟨W.heap.size, 0 + j, none⟩ = some v := by
      intro j v hj
      rw [Nat.zero_add, blk_cell hbA]
      simpa using hj
    have hmx : cap ≤ 9223372036854775807 := by unfold maxLen at hcm; omega
    by_cases hroom : q.length + 1 ≤ cap
    · have hx := insert_shift g 0 q.length cap i W.heap.size 0 1 1 inner [vx] (W.alloc (.cells #[vx] 29)) hlt (by decide) hroom hmx (by omega) hil rfl hci
        (fun j hj => by rw [Nat.zero_add, blk_cell hhA, Array.getElem?_eq_getElem (by omega)]; rfl) (fun j _ => blk_frozen hhA _) hvi hone hvx
        29 29 1 cur.size (by unfold World.shape?; rw [hbA]; rfl) (by unfold World.shape?; rw [hhA]) (by omega) (blk_frozen hbA _) (blk_frozen hbA _)
      refine hx.mono ?_
      rintro e w' ⟨rfl, rfl⟩
      have hd : (W.alloc (.cells #[vx] 29)).drew.heap[g]? = some (.cells cur 29 (0, 0)) := hhA
      obtain ⟨cur1, h1, s1, l1⟩ := setCells_row (inner.drop i) (0 + (i + 1)) (W.alloc (.cells #[vx] 29)).drew cur hd (by rw [List.length_drop]; omega)
      obtain ⟨cur2, h2, s2, l2⟩ := setCells_row [vx] (0 + i) _ cur1 h1 (by rw [List.length_singleton]; omega)
      have hfar : ∀ k, k < W.heap.size → k ≠ g → ((((W.alloc (.cells #[vx] 29)).drew).setCells g (0 + (i + 1)) (inner.drop i)).setCells g (0 + i) [vx]).heap[k]? = W.heap[k]? := by
        intro k hk hne
        rw [setCells_far _ _ k hne, setCells_far _ _ k hne]
        exact Below.heap_alloc W _ k hk
      obtain ⟨o1, o2, o3, o4⟩ := setCells_same g (inner.drop i) (0 + (i + 1)) (W.alloc (.cells #[vx] 29)).drew
      obtain ⟨p1, p2, p3, p4⟩ := setCells_same g [vx] (0 + i) (((W.alloc (.cells #[vx] 29)).drew).setCells g (0 + (i + 1)) (inner.drop i))
      have hgr : W.grownBy ((((W.alloc (.cells #[vx] 29)).drew).setCells g (0 + (i + 1)) (inner.drop i)).setCells g (0 + i) [vx]) (Value.slice (some ⟨g, 0, none⟩) q.length cap).ownBlock := by
        refine ⟨p1.trans o1, p2.trans o2, p3.trans o3, ?_, fun k hk hne => hfar k hk (fun e => hne (by simp [Value.ownBlock, e]))⟩
        rw [p4, o4]
        simp
      refine ⟨_, rfl, ?_, ?_, hgr⟩
      · refine inserted hr1 HX hokp hi (fun k hk hne => hfar k hk (fun e => hne (by simp [Value.ownBlock, e]))) (.inl (by simp [Value.ownBlock])) hg h2 (by omega) hroom hcm ?_
        simp only [Nat.zero_add, List.length_singleton] at l1 l2
        rw [l2, l1]
        exact ins_shift (n := q.length) hi (by simp; omega) htk'
      · exact ((Below.refl base W).grown hgr hbase (fun k hk => by
          have : g = k := by simpa [Value.ownBlock] using hk
          omega))
    · have hx := insert_grow g 0 q.length cap i W.heap.size 0 1 1 inner [vx] (W.alloc (.cells #[vx] 29)) hlt (by decide) hnc (by omega) (by omega) hil rfl hci hvi hone hvx
      obtain ⟨G, hG⟩ : ∃ G, G = grownCap (W.alloc (.cells #[vx] 29)) (q.length + 1) cap 29 := ⟨_, rfl⟩
      rw [← hG] at hx
      obtain ⟨ROW, hROW⟩ : ∃ ROW : Array Value, ROW = (inner.take i).toArray ++ Builtin.zeroCells (Value.slice none 0 0).cells (q.length + 1 - i) ++ Builtin.zeroCells (Value.slice none 0 0).cells (G - (q.length + 1)) := ⟨_, rfl⟩
      rw [← hROW] at hx
      have hGn : q.length + 1 ≤ G := by rw [hG]; exact grownCap_ge _ _ _ _
      have hGm : G ≤ maxLen := by rw [hG]; exact grownCap_le_maxLen _ _ _ _ (by unfold maxLen; omega)
      have hRs : ROW.size = G := by
        rw [hROW]
        simp [Builtin.zeroCells, Value.cells]
        omega
      have hRt : ROW.toList.take i = inner.take i := by
        rw [hROW]
        simp only [Array.toList_append, List.append_assoc]
        exact List.take_left' (by simp; omega)
      have hNs : (W.alloc (.cells #[vx] 29)).heap.size = W.heap.size + 1 := by simp
      refine hx.mono ?_
      rintro e w' ⟨rfl, rfl⟩
      have hd : (((W.alloc (.cells #[vx] 29)).alloc (.cells ROW 29)).drew).heap[(W.alloc (.cells #[vx] 29)).heap.size]? = some (.cells ROW 29 (0, 0)) := blk_new _ _
      obtain ⟨cur1, h1, s1, l1⟩ := setCells_row [vx] i (((W.alloc (.cells #[vx] 29)).alloc (.cells ROW 29)).drew) ROW hd (by rw [List.length_singleton]; omega)
      obtain ⟨cur2, h2, s2, l2⟩ := setCells_row (inner.drop i) (i + 1) ((((W.alloc (.cells #[vx] 29)).alloc (.cells ROW 29)).drew.setCells (W.alloc (.cells #[vx] 29)).heap.size i [vx]).drew) cur1 h1 (by rw [List.length_drop]; omega)
      obtain ⟨W2, hW2⟩ : ∃ W2, W2 = (((W.alloc (.cells #[vx] 29)).alloc (.cells ROW 29)).drew.setCells (W.alloc (.cells #[vx] 29)).heap.size i [vx]).drew.setCells (W.alloc (.cells #[vx] 29)).heap.size (i + 1) (inner.drop i) := ⟨_, rfl⟩
      have hfar : ∀ k, k < W.heap.size → W2.heap[k]? = W.heap[k]? := by
        intro k hk
        have hne : k ≠ (W.alloc (.cells #[vx] 29)).heap.size := by omega
        rw [hW2, setCells_far _ _ k hne]
        show (((W.alloc (.cells #[vx] 29)).alloc (.cells ROW 29)).drew.setCells (W.alloc (.cells #[vx] 29)).heap.size i [vx]).heap[k]? = _
        rw [setCells_far _ _ k hne]
        exact (Below.heap_alloc (W.alloc (.cells #[vx] 29)) _ k (by omega)).trans (Below.heap_alloc W _ k hk)
      obtain ⟨o1, o2, o3, o4⟩ := setCells_same (W.alloc (.cells #[vx] 29)).heap.size [vx] i (((W.alloc (.cells #[vx] 29)).alloc (.cells ROW 29)).drew)
      obtain ⟨p1, p2, p3, p4⟩ := setCells_same (W.alloc (.cells #[vx] 29)).heap.size (inner.drop i) (i + 1) ((((W.alloc (.cells #[vx] 29)).alloc (.cells ROW 29)).drew.setCells (W.alloc (.cells #[vx] 29)).heap.size i [vx]).drew)
      have hsz2 : W.heap.size ≤ W2.heap.size := by
        rw [hW2, p4]
        show W.heap.size ≤ (((W.alloc (.cells #[vx] 29)).alloc (.cells ROW 29)).drew.setCells (W.alloc (.cells #[vx] 29)).heap.size i [vx]).heap.size
        rw [o4]
        simp
        omega
      have hgr : W.grownBy W2 (Value.slice (some ⟨g, 0, none⟩) q.length cap).ownBlock :=
        ⟨by rw [hW2]; exact p1.trans o1, by rw [hW2]; exact p2.trans o2, by rw [hW2]; exact p3.trans o3, hsz2, fun k hk _ => hfar k hk⟩
      rw [← hW2] at h2 ⊢
      refine ⟨_, rfl, ?_, ?_, hgr⟩
      · refine inserted hr1 HX hokp hi (fun k hk _ => hfar k hk) (.inr (by omega)) (by omega) h2 (by omega) hGn hGm ?_
        simp only [List.length_singleton] at l1 l2
        rw [l2, l1]
        exact ins_grow (n := q.length) hi (by simp; omega) hil hRt
      · exact ((Below.refl base W).grown hgr hbase (fun k hk => by
          have : g = k := by simpa [Value.ownBlock] using hk
          omega))
end Go.Proofs.Ytieijoclahcipaa.Ch
