/- How a row is told where one macro without parameters is known. Condition: at most 8192 tokens come of it, at most 4000 uses. -/
import Derived.Test.YtlbiideeljbhlaaPrO
set_option linter.unusedSimpArgs false
set_option linter.unusedVariables false
namespace Go.Proofs.Ytlbiideeljbhlaa.Pr
open Go.RowKit Go.BigFrame Go.Proofs.YtlbiideeljbhlaaW.PrintWords Go.Proofs.YtlbiideeljbhlaaW.PrintLast Go.Proofs.YtlbiideeljbhlaaW.PrintMore Go.Proofs.Ytlbiideeljbhlaa.PPrepSkips

set_option maxHeartbeats 2000000 in
set_option maxRecDepth 100000 in
theorem done_uses (w : World) (base gq mb cl bn : Nat) (nm : ByteArray) (Ab A : Option Addr) (nb cb n c : Nat) (opn out : Value) (uses : Int) (body l : List S26)
    (hbase : base ≤ gq) (hA : k26.C w A l.length l) (hn : n = l.length) (hc : n ≤ c) (hAq : ∀ a, A = some a → a.block ≠ gq)
    (hB : k26.C w Ab body.length body) (hnb : nb = body.length) (hbc : nb ≤ cb) (hBq : ∀ a, Ab = some a → a.block ≠ gq)
    (hq : w.heap[gq]? = some (.cells (wkC false mb opn uses out) 41 (0, 0))) (hm : w.heap[mb]? = some (.map #[⟨.string nm, macV Ab nb cb, bn⟩] cl))
    (hbody : ∀ x, x ∈ body → ¬ (x.f0 = 1 ∧ x.f3 = nm)) (hu0 : 0 ≤ uses) (hu : uses + n ≤ 4000) (hlen : (l.flatMap (expT nm body)).length ≤ 8192) (hnb2 : nb ≤ 8192) :
    Calls Try.prog 29 #[.pointer (some ⟨gq, 0, none⟩), .slice A n c] w fun e w' => ∃ O o u, e = .returned (.slice O (l.flatMap (expT nm body)).length o) ∧ k26.R 26 w' w.heap.size (fun _ => True) (.slice O (l.flatMap (expT nm body)).length o) (l.flatMap (expT nm body)) ∧ w'.heap[gq]? = some (.cells (wkC false mb opn u out) 41 (0, 0)) ∧ Below base w w' ∧ Told gq none w w' := by
  have hmf : ∀ (fn : Fn) (first cap : Array Value) (w : World), (Instr.makeFunc fn first cap).run Try.prog w = .ok (.func fn first cap) w := fun _ _ _ _ => rfl
  have hst := @store_func Try.prog
  have HLB := Aside0.mk (Nat.le_of_lt (Nat.lt_of_le_of_lt hbase (blk_lt hq)))
  have HDO : Aside0 (∀ (W : World) (gb gd : Nat), Below w.heap.size w W → W.heap[gb]? = some (.cells #[.pointer (some ⟨gq, 0, none⟩)] 35 (0, 0)) → W.heap[gd]? = some (.cells #[.func (.func 42) #[] #[.pointer (some ⟨gb, 0, none⟩), .pointer (some ⟨gd, 0, none⟩)]] 73 (0, 0)) → Calls Try.prog 42 #[.slice A n c, .int .i64 0, .pointer (some ⟨gb, 0, none⟩), .pointer (some ⟨gd, 0, none⟩)] W fun e w' => ∃ O o u, e = .returned (.slice O (l.flatMap (expT nm body)).length o) ∧ k26.R 26 w' W.heap.size (fun _ => True) (.slice O (l.flatMap (expT nm body)).length o) (l.flatMap (expT nm body)) ∧ w'.heap[gq]? = some (.cells (wkC false mb opn u out) 41 (0, 0)) ∧ Below base W w' ∧ Told gq none W w') := ⟨fun W gb gd hb h1 h2 => do_uses W base gb gd gq mb cl bn nm Ab A nb cb n c opn out uses body l hbase (Kd.C_below hA hb) hn hc hAq (Kd.C_below hB hb) hnb hbc hBq h1 h2 (blk_below hq hb) ((hb.block mb (blk_lt hm)).trans hm) hbody hu0 hu hlen hnb2⟩
  clear hA hn hAq hB hnb hBq hq hm hbody hlen
  generalize (l.flatMap (expT nm body)).length = nl at HDO ⊢
  go_enter Try.func29, Try.ntmps29
  go_upto_region 2 with fail
  obtain ⟨g2, hg2⟩ : ∃ g2, g2 = w.heap.size := ⟨_, rfl⟩
  rw [← hg2]
  refine wp_world (fun W => Aside0 (Below w.heap.size w W ∧ W.heap[g2]? = some (.cells #[.pointer (some ⟨gq, 0, none⟩)] 35 (0, 0)) ∧ W.heap[g2 + 1]? = some (.cells #[.nilFunc] 73 (0, 0)))) ⟨below_alloc (below_alloc (Below.refl _ _) _) _, blk_alloc (by rw [hg2]; exact blk_new _ _) _, by rw [hg2]; have h := blk_new (w.alloc (.cells #[.pointer (some ⟨gq, 0, none⟩)] 35)) (.cells #[.nilFunc] 73); rwa [show (w.alloc (.cells #[.pointer (some ⟨gq, 0, none⟩)] 35)).heap.size = w.heap.size + 1 by simp] at h⟩ (fun W1 H1 => ?_)
  have HG2 := Aside0.mk hg2
  clear hg2
  have y0 := blk_frozen H1.out.2.2 0
  have z0 : W1.cell? ⟨g2 + 1, 0, none⟩ = some .nilFunc := (blk_cell H1.out.2.2 0).trans rfl
  go_upto_region 3 with fail
  refine wp_world (fun W => Aside0 (Below w.heap.size w W ∧ W.heap[g2]? = some (.cells #[.pointer (some ⟨gq, 0, none⟩)] 35 (0, 0)) ∧ W.heap[g2 + 1]? = some (.cells #[.func (.func 42) #[] #[.pointer (some ⟨g2, 0, none⟩), .pointer (some ⟨g2 + 1, 0, none⟩)]] 73 (0, 0)))) ⟨H1.out.1.setCell (by rw [← HG2.out]; exact Nat.le_succ _) _, blk_far (p := ⟨g2 + 1, 0, none⟩) H1.out.2.1 (by show g2 ≠ g2 + 1; omega) _, blk_set H1.out.2.2 0 _⟩ (fun W2 H2 => ?_)
  clear y0 z0 H1
  have z0 : W2.cell? ⟨g2 + 1, 0, none⟩ = some (.func (.func 42) #[] #[.pointer (some ⟨g2, 0, none⟩), .pointer (some ⟨g2 + 1, 0, none⟩)]) := (blk_cell H2.out.2.2 0).trans rfl
  clear hmf hst
  have HD := Aside0.mk (HDO.out W2 g2 (g2 + 1) H2.out.1 H2.out.2.1 H2.out.2.2)
  go_wp2_with (go_at_call 42; refine HD.out.mono ?_; rintro e w3 ⟨O, o, u, rfl, hR, hQ, hB, hT⟩; have H3 := Aside0.mk (And.intro hR (And.intro hQ (And.intro hB hT))); clear hR hQ hB hT)
  go_ret
  exact ⟨O, o, u, rfl, Kd.R_lower H3.out.1 H2.out.1.size, H3.out.2.1, (H2.out.1.mono HLB.out).trans H3.out.2.2.1, ((Told.refl _ _ _).below H2.out.1).trans H3.out.2.2.2⟩

set_option maxHeartbeats 4000000 in
set_option maxRecDepth 100000 in
theorem tell_walkU (w : World) (base gq mb : Nat) (inl : Bool) (opn : Value) (O A : Option Addr) (m o n c : Nat) (outs res : List S26) (k : Nat) (hk : k = res.length) (hm : m = outs.length) (hmk : m + k ≤ 8192) (hbq : base ≤ gq) (hgq : gq < w.heap.size)
    (HD : Calls Try.prog 29 #[.pointer (some ⟨gq, 0, none⟩), .slice A n c] w fun e w' => ∃ D d uses', e = .returned (.slice D k d) ∧ k26.R 26 w' w.heap.size (fun _ => True) (.slice D k d) res ∧ w'.heap[gq]? = some (.cells (wkC inl mb opn uses' (.slice O m o)) 41 (0, 0)) ∧ k26.R 26 w' base (fun k => k < w.heap.size) (.slice O m o) outs ∧ Below base w w' ∧ Told gq none w w') :
    Calls Try.prog 17 #[.pointer (some ⟨gq, 0, none⟩), .slice A n c] w fun e w' => e = .returned (.tuple #[]) ∧ ∃ O' o' uses', w'.heap[gq]? = some (.cells (wkC inl mb opn uses' (.slice O' (m + k) o')) 41 (0, 0)) ∧ k26.R 26 w' base (fun _ => True) (.slice O' (m + k) o') (outs ++ res) ∧ Below base w w' ∧ Told gq (Value.slice O m o).ownBlock w w' := by
  have HDD := Aside0.mk HD
  have HK := Aside0.mk hk
  have HM := Aside0.mk hm
  clear hk hm HD
  go_enter Try.func17, Try.ntmps17
  go_upto_region 1 with (go_at_call 29; refine HDD.out.mono ?_; rintro e w1 ⟨D, d, uses', rfl, hRD, hW, hRO, hB, hT⟩; have H1 := Aside0.mk (And.intro hRD (And.intro hW (And.intro hRO (And.intro hB hT)))); clear hRD hW hRO hB hT)
  obtain ⟨db, dof, HP⟩ := tok_cells (Kd.R_reads' H1.out.1).2.2
  have HP := Aside0.mk HP
  have HDB : Aside0 (∀ b, (Value.slice D k d).ownBlock = some b → w.heap.size ≤ b ∧ b < w1.heap.size ∧ b ≠ gq) := ⟨fun b hb => by
    refine ⟨?_, Kd.R_lt H1.out.1 b hb, fun e => Kd.R_ne H1.out.1 H1.out.2.1 (by decide) (by rw [hb, e])⟩
    rcases Kd.R_base2 H1.out.1 with h | ⟨b', h, hle⟩
    · rw [h] at hb; cases hb
    · rw [h] at hb; cases hb; exact hle⟩
  have HDA : Aside0 (0 < k → (Value.slice D k d).ownBlock = some db) := ⟨fun h => by
    have hd := (HP.out 0 (by rw [← HK.out]; exact h)).1
    rw [hd]
    obtain ⟨g, cap, e, _⟩ := Kd.R_form H1.out.1 (by rw [← HK.out]; exact h)
    rw [hd] at e
    injection e with e
    injection e with e
    injection e with e1 e2
    subst e2
    simp [Value.ownBlock]⟩
  go_wp2
  go_loopg [10] k (fun gg s10 wz => ∃ (j o2 : Nat) (O2 : Option Addr), j ≤ k ∧ k - j ≤ gg ∧ s10 = .int .i64 j ∧ Aside0 ((wz.heap[gq]? = some (.cells (wkC inl mb opn uses' (.slice O2 (m + j) o2)) 41 (0, 0)) ∧ k26.R 26 wz base (fun b => some b ≠ (Value.slice D k d).ownBlock) (.slice O2 (m + j) o2) (outs ++ res.take j)) ∧ (∀ b, (Value.slice D k d).ownBlock = some b → wz.heap[b]? = w1.heap[b]?) ∧ Below base w wz ∧ Told gq (Value.slice O m o).ownBlock w wz ∧ ((Value.slice O2 (m + j) o2).ownBlock = (Value.slice O m o).ownBlock ∨ ∃ b, (Value.slice O2 (m + j) o2).ownBlock = some b ∧ w.heap.size ≤ b) ∧ w1.heap.size ≤ wz.heap.size))
  case atStart =>
    refine ⟨0, o, O, Nat.zero_le _, Nat.le_of_eq (Nat.sub_zero _), rfl, ⟨⟨H1.out.2.1, ?_⟩, fun b _ => rfl, H1.out.2.2.2.1, H1.out.2.2.2.2.weak, Or.inl rfl, Nat.le_refl _⟩⟩
    rw [List.take_zero, List.append_nil]
    exact Kd.R_mono H1.out.2.2.1 (fun b hb e => by have := (HDB.out b e.symm).1; omega)
  case round =>
    obtain ⟨j, o2, O2, hj, hg, rfl, HW⟩ := hrel
    by_cases hlt : j < k
    · have d0 : ((j : Int) < (k : Int)) = True := eq_true (by omega)
      have hjl : j < res.length := by have := HK.out; omega
      obtain ⟨rfl, q0, q1, q2, q3, q4⟩ := HP.out j hjl
      have HTK := Aside0.mk (show res.take (j + 1) = res.take j ++ [res[j]] by rw [List.take_add_one, List.getElem?_eq_getElem hjl]; rfl)
      have hsame := fun (i : Nat) => World.cell?_of_block (a := ⟨db, i, none⟩) (HW.out.2.1 db (HDA.out (by omega)))
      have p0 := (hsame _).trans q0
      have p1 := (hsame _).trans q1
      have p2 := (hsame _).trans q2
      have p3 := (hsame _).trans q3
      have p4 := (hsame _).trans q4
      generalize res[j] = x at p0 p1 p2 p3 p4 HTK
      clear q0 q1 q2 q3 q4 hsame hjl
      go_upto_region 3 with fail
      obtain ⟨g5, hg5⟩ : ∃ g5, g5 = wr.heap.size := ⟨_, rfl⟩
      rw [← hg5]
      have HG5 := Aside0.mk hg5
      refine wp_world (fun W => Aside0 (Below wr.heap.size wr W ∧ W.heap[g5]? = some (.cells (tokC x) 26 (0, 0)))) ⟨below_alloc (Below.refl _ _) _, by rw [hg5]; exact blk_new _ _⟩ (fun W2 H2 => ?_)
      clear hg5 p0 p1 p2 p3 p4
      have hbq2 := blk_below HW.out.1.1 H2.out.1
      have cq4 : W2.cell? ⟨gq, 4, none⟩ = some (.slice O2 (m + j) o2) := (blk_cell hbq2 4).trans rfl
      have f4 := blk_frozen hbq2 4
      have HBQ := Aside0.mk hbq2
      clear hbq2
      have d1 : ((((m + j : Nat) : Int)) == (8192 : Int)) = false := by simp; omega
      have d2 : (((m : Int) + (j : Int)) == (8192 : Int)) = false := by simp; omega
      go_upto_region 5 with fail
      have c0 : W2.cell? ⟨g5, 0, none⟩ = some (.int .i64 x.f0) := (blk_cell H2.out.2 0).trans rfl
      have c1 : W2.cell? ⟨g5, 1, none⟩ = some (.int .i64 x.f1) := (blk_cell H2.out.2 1).trans rfl
      have c2 : W2.cell? ⟨g5, 2, none⟩ = some (.int .i64 x.f2) := (blk_cell H2.out.2 2).trans rfl
      have c3 : W2.cell? ⟨g5, 3, none⟩ = some (.string x.f3) := (blk_cell H2.out.2 3).trans rfl
      have c4 : W2.cell? ⟨g5, 4, none⟩ = some (.int .i64 x.f4) := (blk_cell H2.out.2 4).trans rfl
      have HLI := Aside0.mk (show (outs ++ res.take j).length = m + j by rw [List.length_append, List.length_take]; have := HK.out; have := HM.out; omega)
      have HR2 := Aside0.mk (Kd.R_drew (Kd.R_below HW.out.1.2 H2.out.1))
      have HB2 := Aside0.mk (below_then HW.out.2.2.1 (Nat.le_trans (Nat.le_of_lt (Nat.lt_of_le_of_lt hbq hgq)) HW.out.2.2.2.1.size) H2.out.1).drew
      have HSZ := Aside0.mk (show base ≤ W2.drew.heap.size from Nat.le_trans (Nat.le_of_lt (Nat.lt_of_le_of_lt hbq hgq)) (Nat.le_trans HW.out.2.2.2.1.size H2.out.1.size))
      have HBQD := Aside0.mk (show W2.drew.heap[gq]? = some (.cells (wkC inl mb opn uses' (.slice O2 (m + j) o2)) 41 (0, 0)) from HBQ.out)
      have cq4' : (W2.alloc (.cells #[.int .i64 x.f0, .int .i64 x.f1, .int .i64 x.f2, .string x.f3, .int .i64 x.f4] 26)).cell? ⟨gq, 4, none⟩ = some (.slice O2 (m + j) o2) := (blk_cell (blk_alloc HBQ.out _) 4).trans rfl
      have HNE := Aside0.mk (Kd.R_ne HR2.out HBQ.out (by decide))
      have HFR := Aside0.mk (fun (b : Nat) (hb : W2.drew.heap.size ≤ b) (e : some b = (Value.slice (some ⟨db, dof, none⟩) k d).ownBlock) => (by have h1 := (HDB.out b e.symm).2.1; have h2 : W2.heap.size ≤ b := hb; have := HW.out.2.2.2.2.2; have := H2.out.1.size; omega : False))
      go_wp2
      go_region_law (first
        | (refine Kd.R_append_step k26 (w0 := w) (W := W2.drew) base rfl (.tmp 27) (.tmp 29) 22 26 (.agg #[(.int .i64 0), (.int .i64 0), (.int .i64 0), (.string ⟨#[]⟩), (.int .i64 0)]) 48 rfl Try.underlying22 info26 rfl k26_sz (by decide) (.slice O2 (m + j) o2) (outs ++ res.take j) x [.int .i64 x.f0, .int .i64 x.f1, .int .i64 x.f2, .string x.f3, .int .i64 x.f4] (fun b => some b ≠ (Value.slice (some ⟨db, dof, none⟩) k d).ownBlock) (fun _ => False) (by simp [Act.eval, Act.put]) (by simp [Act.eval, Act.put]) (k26_mkM _ _ _ x) (fun k hk => hk.elim) HFR.out HR2.out HB2.out HSZ.out (by rw [HLI.out]; omega) ?_; intro v1 w7 hR7 hB7 hG7 hA7; obtain ⟨A7, c7, e⟩ := Kd.R_slice hR7; rw [List.length_append, HLI.out, List.length_singleton] at e; subst e; have hb7 := blk_grown HBQD.out hG7 HNE.out; have c74 : w7.cell? ⟨gq, 4, none⟩ = some (.slice O2 (m + j) o2) := (blk_cell hb7 4).trans rfl; have f74 := blk_frozen hb7 4; have H7 := Aside0.mk (And.intro hR7 (And.intro hB7 (And.intro hG7 (And.intro hA7 hb7)))); clear hR7 hB7 hG7 hA7 hb7))
      all_goals (
        go_wp2
        go_roundg (k - (j + 1))
        case measure => omega
        case rel =>
          obtain ⟨hR7, hB7, hG7, hA7, hb7⟩ := H7.out
          obtain ⟨⟨hwq, hwr⟩, hwd, hwb, hwt, hwo, hws⟩ := HW.out
          have hT2 : Told gq (Value.slice O m o).ownBlock w W2.drew := (hwt.below H2.out.1).below (below_drew (Below.refl _ _))
          have hlo : ∀ b, (Value.slice O2 (m + j) o2).ownBlock = some b → (Value.slice O2 (m + j) o2).ownBlock = (Value.slice O m o).ownBlock ∨ w.heap.size ≤ b := fun b hb => by
            rcases hwo with h | ⟨b', h, hle⟩
            · exact Or.inl h
            · rw [h] at hb; cases hb; exact Or.inr hle
          refine ⟨j + 1, c7, A7, by omega, by omega, by go_num, ⟨⟨blk_set hb7 4 _, ?_⟩, fun b hb => ?_, hB7.setCell hbq _, (hT2.grown hG7 ?_).set 4 _, ?_, ?_⟩⟩
          · rw [HTK.out, ← List.append_assoc]
            exact Kd.R_set hR7 hb7 (by show ∀ q, q ∈ [26] → q ≠ 41; decide) 4 _
          · have hbd := HDB.out b hb
            have hlt2 : b < W2.heap.size := Nat.lt_of_lt_of_le hbd.2.1 (Nat.le_trans hws H2.out.1.size)
            refine (Below.heap_setCell w7 ⟨gq, 4, none⟩ _ b hbd.2.2).trans ((hG7.block b hlt2 (fun e => ?_)).trans ((H2.out.1.block b (Nat.lt_of_lt_of_le hbd.2.1 hws)).trans (hwd b hb)))
            exact hwr.1 b e.symm hb.symm
          · rcases hwo with h | ⟨b', h, hle⟩
            · exact Or.inl h
            · exact Or.inr (fun b hb => by rw [h] at hb; cases hb; exact hle)
          · rcases hA7 with h | ⟨b', h, hle⟩
            · rcases hwo with h' | ⟨b'', h', hle'⟩
              · exact Or.inl (h.trans h')
              · exact Or.inr ⟨b'', h.trans h', hle'⟩
            · exact Or.inr ⟨b', h, Nat.le_trans hT2.size hle⟩
          · exact Nat.le_trans hws (Nat.le_trans H2.out.1.size (by have := hG7.size; simpa [World.setCell] using this)))
    · have d0 : ((j : Int) < (k : Int)) = False := eq_false (by omega)
      obtain rfl : j = k := by omega
      have hR := HW.out.1.2
      rw [show res.take j = res from List.take_of_length_le (by have := HK.out; omega)] at hR
      have HRF := Aside0.mk (Kd.R_mono hR (fun _ _ => trivial))
      clear hR
      go_wp2
      refine ⟨rfl, .tuple #[], (by simp [results, Try.results17, go_sem]), rfl, ?_⟩
      exact ⟨O2, o2, uses', HW.out.1.1, HRF.out, HW.out.2.2.1, HW.out.2.2.2.1⟩

theorem tell_uses (w : World) (base gq mb cl bn : Nat) (nm : ByteArray) (Ab A : Option Addr) (nb cb n c m o : Nat) (O : Option Addr) (opn : Value) (uses : Int) (body l outs : List S26)
    (hbase : base ≤ gq) (hA : k26.C w A l.length l) (hn : n = l.length) (hc : n ≤ c) (hAq : ∀ a, A = some a → a.block ≠ gq)
    (hB : k26.C w Ab body.length body) (hnb : nb = body.length) (hbc : nb ≤ cb) (hBq : ∀ a, Ab = some a → a.block ≠ gq)
    (hq : w.heap[gq]? = some (.cells (wkC false mb opn uses (.slice O m o)) 41 (0, 0))) (hm : w.heap[mb]? = some (.map #[⟨.string nm, macV Ab nb cb, bn⟩] cl))
    (hbody : ∀ x, x ∈ body → ¬ (x.f0 = 1 ∧ x.f3 = nm)) (hu0 : 0 ≤ uses) (hu : uses + n ≤ 4000) (hmo : m = outs.length) (hlen : m + (l.flatMap (expT nm body)).length ≤ 8192) (hnb2 : nb ≤ 8192) (hO : k26.R 26 w base (fun k => k ≠ gq) (.slice O m o) outs) :
    Calls Try.prog 17 #[.pointer (some ⟨gq, 0, none⟩), .slice A n c] w fun e w' => e = .returned (.tuple #[]) ∧ ∃ O' o' uses', w'.heap[gq]? = some (.cells (wkC false mb opn uses' (.slice O' (m + (l.flatMap (expT nm body)).length) o')) 41 (0, 0)) ∧ k26.R 26 w' base (fun _ => True) (.slice O' (m + (l.flatMap (expT nm body)).length) o') (outs ++ l.flatMap (expT nm body)) ∧ Below base w w' ∧ Told gq (Value.slice O m o).ownBlock w w' := by
  refine tell_walkU w base gq mb false opn O A m o n c outs (l.flatMap (expT nm body)) _ rfl hmo hlen hbase (blk_lt hq) ?_
  refine (done_uses w base gq mb cl bn nm Ab A nb cb n c opn (.slice O m o) uses body l hbase hA hn hc hAq hB hnb hbc hBq hq hm hbody hu0 hu (by omega) hnb2).mono ?_
  rintro e w' ⟨D, d, u, rfl, hR, hQ, hBe, hT⟩
  refine ⟨D, d, u, rfl, hR, hQ, Kd.R_mono (Kd.R_move (Kd.R_bound hO) (fun k hk => hT.block k hk.2.2.1 hk.1 (by simp))) (fun k hk => hk.2.2.1), hBe, hT⟩
end Go.Proofs.Ytlbiideeljbhlaa.Pr
