/- What comes of a row where one macro without parameters is known: done's closure walked. Condition: at most 8192 tokens come of it, at most 4000 uses. -/
import Derived.Test.YtlbiideeljbhlaaPrM
set_option linter.unusedSimpArgs false
set_option linter.unusedVariables false
namespace Go.Proofs.Ytlbiideeljbhlaa.Pr
open Go.RowKit Go.BigFrame Go.Proofs.YtlbiideeljbhlaaW.PrintWords Go.Proofs.YtlbiideeljbhlaaW.PrintLast Go.Proofs.YtlbiideeljbhlaaW.PrintMore Go.Proofs.Ytlbiideeljbhlaa.PPrepSkips

set_option maxHeartbeats 8000000 in
set_option maxRecDepth 100000 in
theorem do_uses (w : World) (base gb gd gq mb cl bn : Nat) (nm : ByteArray) (Ab A : Option Addr) (nb cb n c : Nat) (opn out : Value) (uses : Int) (body l : List S26)
    (hbase : base ≤ gq) (hA : k26.C w A l.length l) (hn : n = l.length) (hc : n ≤ c) (hAq : ∀ a, A = some a → a.block ≠ gq)
    (hB : k26.C w Ab body.length body) (hnb : nb = body.length) (hbc : nb ≤ cb) (hBq : ∀ a, Ab = some a → a.block ≠ gq)
    (hb : w.heap[gb]? = some (.cells #[.pointer (some ⟨gq, 0, none⟩)] 35 (0, 0))) (hd : w.heap[gd]? = some (.cells #[.func (.func 42) #[] #[.pointer (some ⟨gb, 0, none⟩), .pointer (some ⟨gd, 0, none⟩)]] 73 (0, 0)))
    (hq : w.heap[gq]? = some (.cells (wkC false mb opn uses out) 41 (0, 0))) (hm : w.heap[mb]? = some (.map #[⟨.string nm, macV Ab nb cb, bn⟩] cl))
    (hbody : ∀ x, x ∈ body → ¬ (x.f0 = 1 ∧ x.f3 = nm)) (hu0 : 0 ≤ uses) (hu : uses + n ≤ 4000) (hlen : (l.flatMap (expT nm body)).length ≤ 8192) (hnb2 : nb ≤ 8192) :
    Calls Try.prog 42 #[.slice A n c, .int .i64 0, .pointer (some ⟨gb, 0, none⟩), .pointer (some ⟨gd, 0, none⟩)] w fun e w' => ∃ O o u, e = .returned (.slice O (l.flatMap (expT nm body)).length o) ∧ k26.R 26 w' w.heap.size (fun _ => True) (.slice O (l.flatMap (expT nm body)).length o) (l.flatMap (expT nm body)) ∧ w'.heap[gq]? = some (.cells (wkC false mb opn u out) 41 (0, 0)) ∧ Below base w w' ∧ Told gq none w w' := by
  obtain ⟨pb, po, HP⟩ := tok_cells hA
  have HPP := Aside0.mk HP
  have HN := Aside0.mk hn
  have HNB := Aside0.mk hnb
  have HB := Aside0.mk hB
  have HBQ := Aside0.mk hBq
  have HAQ := Aside0.mk hAq
  have HBODY := Aside0.mk hbody
  have HLEN := Aside0.mk hlen
  have HBLK := Aside0.mk (And.intro hb (And.intro hd hm))
  have HQ := Aside0.mk hq
  have HGQ := Aside0.mk (blk_lt hq)
  have HBA := Aside0.mk hbase
  have HA0 : Aside0 (0 < n → A = some ⟨pb, po + 0 * 5, none⟩) := ⟨fun h => by have := (HP 0 (by rw [← hn]; exact h)).1; rw [this]; simp⟩
  have HNE := Aside0.mk (show gb ≠ gq ∧ gd ≠ gq ∧ mb ≠ gq from ⟨blk_ne hb hq (by decide), blk_ne hd hq (by decide), fun e => by rw [e, hq] at hm; injection hm with hm; cases hm⟩)
  clear HP hA hn hnb hB hBq hAq hbody hlen hb hd hm hq hbase
  go_enter Try.func42, Try.ntmps42
  go_wp2
  go_loopg [0, 7] n (fun gg s0 s7 wz => ∃ (i r c' m : Nat) (A' O : Option Addr) (o : Nat) (u : Int), i + r = n ∧ r ≤ gg ∧ r ≤ c' ∧ s0 = .slice A' r c' ∧ s7 = .slice O m o ∧ 0 ≤ u ∧ u ≤ uses + i ∧ Aside0 ((0 < r → A' = some ⟨pb, po + i * 5, none⟩) ∧ (Below base w wz ∧ Told gq none w wz ∧ wz.heap[gq]? = some (.cells (wkC false mb opn u out) 41 (0, 0))) ∧ k26.R 26 wz w.heap.size (fun _ => True) (.slice O m o) ((l.take i).flatMap (expT nm body)) ∧ m = ((l.take i).flatMap (expT nm body)).length))
  case atStart => exact ⟨0, n, c, 0, A, none, 0, uses, Nat.zero_add _, Nat.le_refl _, hc, rfl, rfl, hu0, by omega, ⟨HA0.out, ⟨Below.refl _ _, Told.refl _ _ _, HQ.out⟩, Kd.R_nil _ _ _ _ _, rfl⟩⟩
  case round =>
    obtain ⟨i, r, c', m, A', O, o, u, hir, hg, hrc, rfl, rfl, hu1, hu2, HW⟩ := hrel
    by_cases hr : 0 < r
    · have d0 : ((r : Int) > (0 : Int)) = True := eq_true (by omega)
      have d0' : ((0 : Int) < (r : Int)) = True := eq_true (by omega)
      have hil : i < l.length := by have := HN.out; omega
      obtain rfl := HW.out.1 hr
      obtain ⟨hAe, q0, q1, q2, q3, q4⟩ := HPP.out i hil
      have hpq : pb ≠ gq := HAQ.out _ hAe
      have HTK := Aside0.mk (show (l.take (i + 1)).flatMap (expT nm body) = (l.take i).flatMap (expT nm body) ++ expT nm body l[i] by rw [List.take_add_one, List.getElem?_eq_getElem hil, List.flatMap_append]; simp)
      have HLT := Aside0.mk (show ((l.take (i + 1)).flatMap (expT nm body)).length ≤ 8192 by
        have h := HLEN.out
        rw [← List.take_append_drop (i + 1) l, List.flatMap_append, List.length_append] at h
        omega)
      have p0 := HW.out.2.1.2.1.cell q0 hpq (by simp)
      have p1 := HW.out.2.1.2.1.cell q1 hpq (by simp)
      have p2 := HW.out.2.1.2.1.cell q2 hpq (by simp)
      have p3 := HW.out.2.1.2.1.cell q3 hpq (by simp)
      have p4 := HW.out.2.1.2.1.cell q4 hpq (by simp)
      generalize l[i] = x at p0 p1 p2 p3 p4 HTK
      have hmw := (HW.out.2.1.2.1.block mb (blk_lt HBLK.out.2.2) HNE.out.2.2 (by simp)).trans HBLK.out.2.2
      have hbw := (HW.out.2.1.2.1.block gb (blk_lt HBLK.out.1) HNE.out.1 (by simp)).trans HBLK.out.1
      have hdw := (HW.out.2.1.2.1.block gd (blk_lt HBLK.out.2.1) HNE.out.2.1 (by simp)).trans HBLK.out.2.1
      have HMW := Aside0.mk (And.intro hmw (And.intro hbw hdw))
      obtain ⟨Ax, nx, cx, is, his, hlk⟩ : ∃ (Ax : Option Addr) (nx cx : Nat) (is : Bool), ((is = true → x.f3 = nm ∧ Ax = Ab ∧ nx = nb ∧ cx = cb) ∧ (is = false → x.f3 ≠ nm)) ∧ ∀ W, Below wr.heap.size wr W → (Instr.lookup 38 (.map (some mb)) (.string x.f3) true).run Try.prog W = .ok (.tuple #[.agg #[.bool false, .slice none 0 0, .slice Ax nx cx], .bool is]) W := by
        by_cases h : x.f3 = nm
        · refine ⟨Ab, nb, cb, true, ⟨fun _ => ⟨h, rfl, rfl, rfl⟩, fun h => (by cases h)⟩, fun W hB => ?_⟩
          have := look_one (s := x.f3) ((hB.block mb (blk_lt hmw)).trans hmw)
          simpa [h] using this
        · refine ⟨none, 0, 0, false, ⟨fun h => (by cases h), fun _ => h⟩, fun W hB => ?_⟩
          have := look_one (s := x.f3) ((hB.block mb (blk_lt hmw)).trans hmw)
          simpa [h] using this
      have HLK := Aside0.mk hlk
      have HIS := Aside0.mk his
      clear q0 q1 q2 q3 q4 hil hlk his hmw hbw hdw hAe hpq
      go_upto_region 4 with fail
      obtain ⟨g8, hg8⟩ : ∃ g8, g8 = wr.heap.size := ⟨_, rfl⟩
      rw [← hg8]
      refine wp_world (fun W => Aside0 (Below wr.heap.size wr W ∧ W.heap[g8]? = some (.cells (tokC x) 26 (0, 0)))) ⟨below_alloc (Below.refl _ _) _, by rw [hg8]; exact blk_new _ _⟩ (fun W1 H1 => ?_)
      clear hg8 p0 p1 p2 p3 p4
      go_upto_region 5 with fail
      obtain ⟨A2, hA2⟩ : ∃ A2, A2 = (if c' = 1 then some (⟨pb, po + i * 5, none⟩ : Addr) else some ⟨pb, po + i * 5 + 5, none⟩) := ⟨_, rfl⟩
      rw [← hA2]
      have HA2 : Aside0 (0 < r - 1 → A2 = some ⟨pb, po + (i + 1) * 5, none⟩) := ⟨fun h => by rw [hA2, if_neg (by omega)]; congr 2; omega⟩
      clear hA2
      have SB := Aside0.mk (fun (W : World) (hb : Below W1.heap.size W1 W) => (⟨(blk_cell (blk_below HMW.out.2.1 (below_then H1.out.1 H1.out.1.size hb)) 0).trans rfl, (blk_cell (blk_below HW.out.2.1.2.2 (below_then H1.out.1 H1.out.1.size hb)) 1).trans rfl, (pw_cell_below hb ((blk_cell H1.out.2 3).trans rfl)), HLK.out W (below_then H1.out.1 H1.out.1.size hb)⟩ : (W.cell? ⟨gb, 0, none⟩ = some (.pointer (some ⟨gq, 0, none⟩)) ∧ W.cell? ⟨gq, 1, none⟩ = some (.map (some mb)) ∧ W.cell? ⟨g8, 3, none⟩ = some (.string x.f3) ∧ (Instr.lookup 38 (.map (some mb)) (.string x.f3) true).run Try.prog W = .ok (.tuple #[.agg #[.bool false, .slice none 0 0, .slice Ax nx cx], .bool is]) W)))
      obtain ⟨g9, hg9⟩ : ∃ g9, g9 = W1.heap.size := ⟨_, rfl⟩
      go_region_held3 (fun W => (W.cell? ⟨gb, 0, none⟩ = some (.pointer (some ⟨gq, 0, none⟩)) ∧ W.cell? ⟨gq, 1, none⟩ = some (.map (some mb)) ∧ W.cell? ⟨g8, 3, none⟩ = some (.string x.f3) ∧ (Instr.lookup 38 (.map (some mb)) (.string x.f3) true).run Try.prog W = .ok (.tuple #[.agg #[.bool false, .slice none 0 0, .slice Ax nx cx], .bool is]) W))
        ((refine SB.out _ ?_; (repeat (first | with_reducible exact Below.refl _ _ | with_reducible apply below_drew | with_reducible apply below_alloc))))
        (fail)
      all_goals (
        obtain ⟨W2, hW2⟩ : ∃ W2, W2 = (W1.alloc (.cells #[.bool false, .slice none 0 0, .slice Ax nx cx] 62)).drew := ⟨_, rfl⟩
        rw [← hg9, ← hW2]
        have hB2 : Below W1.heap.size W1 W2 := by rw [hW2]; exact below_drew (below_alloc (Below.refl _ _) _)
        have HBW := Aside0.mk (below_then H1.out.1 H1.out.1.size hB2)
        have H8 := Aside0.mk (blk_below H1.out.2 hB2)
        have H9 : Aside0 (W2.heap[g9]? = some (.cells #[.bool false, .slice none 0 0, .slice Ax nx cx] 62 (0, 0))) := ⟨by rw [hW2, hg9]; exact blk_new _ _⟩
        have HT2 : Aside0 ((Below base w W2 ∧ Told gq none w W2 ∧ W2.heap[gq]? = some (.cells (wkC false mb opn u out) 41 (0, 0))) ∧ k26.R 26 W2 w.heap.size (fun _ => True) (.slice O m o) ((l.take i).flatMap (expT nm body))) := ⟨⟨below_then HW.out.2.1.1 (Nat.le_trans (Nat.le_of_lt (Nat.lt_of_le_of_lt HBA.out HGQ.out)) HW.out.2.1.2.1.size) HBW.out, HW.out.2.1.2.1.below HBW.out, blk_below HW.out.2.1.2.2 HBW.out⟩, Kd.R_below HW.out.2.2.1 HBW.out⟩
        clear hW2 hB2 SB hg9
        have c0 : W2.cell? ⟨g8, 0, none⟩ = some (.int .i64 x.f0) := (blk_cell H8.out 0).trans rfl
        have c1 : W2.cell? ⟨g8, 1, none⟩ = some (.int .i64 x.f1) := (blk_cell H8.out 1).trans rfl
        have c2 : W2.cell? ⟨g8, 2, none⟩ = some (.int .i64 x.f2) := (blk_cell H8.out 2).trans rfl
        have c3 : W2.cell? ⟨g8, 3, none⟩ = some (.string x.f3) := (blk_cell H8.out 3).trans rfl
        have c4 : W2.cell? ⟨g8, 4, none⟩ = some (.int .i64 x.f4) := (blk_cell H8.out 4).trans rfl
        have c9 : W2.cell? ⟨g9, 0, none⟩ = some (.bool false) := (blk_cell H9.out 0).trans rfl
        have HLI := Aside0.mk HW.out.2.2.2
        by_cases hus : x.f0 = 1 ∧ is = true
        · obtain ⟨hx0, rfl⟩ := hus
          obtain ⟨hxn, rfl, rfl, rfl⟩ := HIS.out.1 rfl
          have HE : Aside0 (expT nm body x = body.map (relab x)) := ⟨by unfold expT; rw [if_pos ⟨hx0, hxn⟩]⟩
          have e1 : (x.f0 != (1 : Int)) = false := by rw [hx0]; rfl
          clear hx0 hxn
          have hm1 : m + nx ≤ 8192 := by have h := HLT.out; rw [HTK.out, List.length_append, HE.out, ← HLI.out, List.length_map, ← HNB.out] at h; exact h
          go_upto_region 15 with fail
          have cb : W2.cell? ⟨gb, 0, none⟩ = some (.pointer (some ⟨gq, 0, none⟩)) := (blk_cell (blk_below HMW.out.2.1 HBW.out) 0).trans rfl
          have cu : W2.cell? ⟨gq, 3, none⟩ = some (.int .i64 u) := (blk_cell HT2.out.1.2.2 3).trans rfl
          have fu := blk_frozen HT2.out.1.2.2 3
          go_upto_region 16 with fail
          refine wp_world (fun W => Aside0 ((Below base w W ∧ Told gq none w W ∧ W.heap[gq]? = some (.cells (wkC false mb opn (u + 1) out) 41 (0, 0))) ∧ k26.R 26 W w.heap.size (fun _ => True) (.slice O m o) ((l.take i).flatMap (expT nm body)) ∧ W.heap[g8]? = some (.cells (tokC x) 26 (0, 0)) ∧ W.heap[g9]? = some (.cells #[.bool false, .slice none 0 0, .slice Ax nx cx] 62 (0, 0)) ∧ W.heap[gb]? = some (.cells #[.pointer (some ⟨gq, 0, none⟩)] 35 (0, 0)) ∧ W.heap[gd]? = some (.cells #[.func (.func 42) #[] #[.pointer (some ⟨gb, 0, none⟩), .pointer (some ⟨gd, 0, none⟩)]] 73 (0, 0)) ∧ W.heap[mb]? = some (.map #[⟨.string nm, macV Ax nx cx, bn⟩] cl))) ⟨⟨HT2.out.1.1.setCell HBA.out _, HT2.out.1.2.1.set 3 _, blk_set HT2.out.1.2.2 3 _⟩, Kd.R_set HT2.out.2 HT2.out.1.2.2 (by show ∀ q, q ∈ [26] → q ≠ 41; decide) 3 _, blk_far (p := ⟨gq, 3, none⟩) H8.out (blk_ne H8.out HT2.out.1.2.2 (by decide)) _, blk_far (p := ⟨gq, 3, none⟩) H9.out (blk_ne H9.out HT2.out.1.2.2 (by decide)) _, blk_far (p := ⟨gq, 3, none⟩) (blk_below HMW.out.2.1 HBW.out) HNE.out.1 _, blk_far (p := ⟨gq, 3, none⟩) (blk_below HMW.out.2.2 HBW.out) HNE.out.2.1 _, (Below.heap_setCell W2 ⟨gq, 3, none⟩ _ mb HNE.out.2.2).trans ((HBW.out.block mb (blk_lt HMW.out.1)).trans HMW.out.1)⟩ (fun W3 H3 => ?_)
          clear cb cu fu c0 c1 c2 c3 c4 c9 HT2 H8 H9
          have cb : W3.cell? ⟨gb, 0, none⟩ = some (.pointer (some ⟨gq, 0, none⟩)) := (blk_cell H3.out.2.2.2.2.1 0).trans rfl
          have cu : W3.cell? ⟨gq, 3, none⟩ = some (.int .i64 (u + 1)) := (blk_cell H3.out.1.2.2 3).trans rfl
          have n0 : W3.cell? ⟨g9, 0, none⟩ = some (.bool false) := (blk_cell H3.out.2.2.2.1 0).trans rfl
          have n1 : W3.cell? ⟨g9, 1, none⟩ = some (.slice none 0 0) := (blk_cell H3.out.2.2.2.1 1).trans rfl
          have n2 : W3.cell? ⟨g9, 2, none⟩ = some (.slice Ax nx cx) := (blk_cell H3.out.2.2.2.1 2).trans rfl
          have c0 : W3.cell? ⟨g8, 0, none⟩ = some (.int .i64 x.f0) := (blk_cell H3.out.2.2.1 0).trans rfl
          have c1 : W3.cell? ⟨g8, 1, none⟩ = some (.int .i64 x.f1) := (blk_cell H3.out.2.2.1 1).trans rfl
          have c2 : W3.cell? ⟨g8, 2, none⟩ = some (.int .i64 x.f2) := (blk_cell H3.out.2.2.1 2).trans rfl
          have c3 : W3.cell? ⟨g8, 3, none⟩ = some (.string x.f3) := (blk_cell H3.out.2.2.1 3).trans rfl
          have c4 : W3.cell? ⟨g8, 4, none⟩ = some (.int .i64 x.f4) := (blk_cell H3.out.2.2.1 4).trans rfl
          have du : ((u + 1) > (4000 : Int)) = False := eq_false (by omega)
          have du' : ((4000 : Int) < (u + 1)) = False := eq_false (by omega)
          have db : ((nx : Int) > (8192 : Int)) = False := eq_false (by omega)
          have db' : ((8192 : Int) < (nx : Int)) = False := eq_false (by omega)
          have HF := Aside0.mk (filled_walk W3 gq nx cx Ax body x ((blk_cell H3.out.1.2.2 0).trans rfl) (C_told H3.out.1.2.1 HB.out (fun a ha => ⟨HBQ.out a ha, by simp⟩)) HNB.out hnb2)
          go_upto_region 21 with (go_at_call 44; refine HF.out.mono ?_; rintro e w4 ⟨O4, o4, rfl, hR4, hB4⟩; have H4 := Aside0.mk (And.intro hR4 hB4); clear hR4 hB4)
          go_upto_region 23 with fail
          have cd : w4.cell? ⟨gd, 0, none⟩ = some (.func (.func 42) #[] #[.pointer (some ⟨gb, 0, none⟩), .pointer (some ⟨gd, 0, none⟩)]) := (blk_cell (blk_below H3.out.2.2.2.2.2.1 H4.out.2) 0).trans rfl
          have HLB := Aside0.mk (show nx = (body.map (relab x)).length by rw [List.length_map]; exact HNB.out)
          have HD := Aside0.mk (do_plain w4 gb gd gq mb 1 O4 nx o4 (body.map (relab x)) (Kd.R_reads' H4.out.1).2.2 HLB.out (Kd.R_reads' H4.out.1).2.1 hnb2 ((blk_cell (blk_below H3.out.2.2.2.2.1 H4.out.2) 0).trans rfl) ((blk_cell (blk_below H3.out.1.2.2 H4.out.2) 1).trans rfl) (plain_one ((H4.out.2.block mb (blk_lt H3.out.2.2.2.2.2.2)).trans H3.out.2.2.2.2.2.2) _ (fun y hy => by obtain ⟨z, hz, rfl⟩ := List.mem_map.1 hy; exact HBODY.out z hz)))
          clear cb cu n0 n1 n2 c0 c1 c2 c3 c4 HF
          have d5 : (((m + nx : Nat) : Int) > (8192 : Int)) = False := eq_false (by omega)
          have d6 : (((m : Int) + (nx : Int)) > (8192 : Int)) = False := eq_false (by omega)
          have d7 : ((8192 : Int) < ((m + nx : Nat) : Int)) = False := eq_false (by omega)
          have d8 : ((8192 : Int) < ((m : Int) + (nx : Int))) = False := eq_false (by omega)
          go_wp2_with (first
            | (go_at_call 42; refine HD.out.mono ?_; rintro e w5 ⟨O5, o5, rfl, hR5, hB5⟩; have H5 := Aside0.mk (And.intro hR5 (below_then H4.out.2 H4.out.2.size hB5)); clear hR5 hB5)
            | (at_builtin; refine Kd.R_append_rows k26 (Rr := k26.K w5) (w0 := w5) (W := w5) w.heap.size rfl (.tmp 132) (.tmp 137) 22 26 (.agg #[(.int .i64 0), (.int .i64 0), (.int .i64 0), (.string ⟨#[]⟩), (.int .i64 0)]) 48 rfl Try.underlying22 info26 rfl k26_sz (by decide) (.slice O m o) ((l.take i).flatMap (expT nm body)) (body.map (relab x)) O5 nx o5 (fun _ => True) (fun _ => False) rfl rfl (Kd.R_below H3.out.2.1 H5.out.2) (by have h := (Kd.R_reads' H5.out.1).2.2; rw [← HLB.out] at h; exact h) (fun y cs hk => by have e := k26_open hk; subst e; exact k26_mkM _ _ _ y) (fun k hk => hk.elim) (fun _ _ => trivial) (Below.refl _ _) (Nat.le_trans H3.out.1.2.1.size H5.out.2.size) (by rw [← HLI.out]; omega) ?_; intro v1 w7 hR7 hB7 hG7 _; obtain ⟨A7, c7, e⟩ := Kd.R_slice hR7; rw [List.length_append, ← HLI.out, ← HLB.out] at e; subst e; have HR7 := Aside0.mk (And.intro hR7 (And.intro hB7 hG7)); clear hR7 hB7 hG7))
          go_roundg (r - 1)
          case measure => omega
          case rel =>
            obtain ⟨hR7, hB7, hG7⟩ := HR7.out
            have hq5 := blk_below H3.out.1.2.2 H5.out.2
            have hR5 := Kd.R_below H3.out.2.1 H5.out.2
            refine ⟨i + 1, r - 1, c' - 1, m + nx, A2, A7, c7, u + 1, by omega, by omega, by omega, rfl, rfl, by omega, by omega, ⟨HA2.out, ⟨(H3.out.1.1.trans (H5.out.2.mono (Nat.le_trans (Nat.le_of_lt (Nat.lt_of_le_of_lt HBA.out HGQ.out)) H3.out.1.2.1.size))).trans (hB7.mono (Nat.le_of_lt (Nat.lt_of_le_of_lt HBA.out HGQ.out))), (H3.out.1.2.1.below H5.out.2).grown hG7 (Or.inr fun k hk => ?_), blk_grown hq5 hG7 (Kd.R_ne hR5 hq5 (by decide))⟩, ?_, ?_⟩⟩
            · rcases Kd.R_base2 hR5 with h | ⟨k', h, hle⟩
              · rw [h] at hk; cases hk
              · rw [h] at hk; cases hk; exact hle
            · rw [HTK.out, HE.out]; exact hR7
            · rw [HTK.out, HE.out, List.length_append, ← HLI.out, ← HLB.out]
        · have HE : Aside0 (expT nm body x = [x]) := ⟨by
            unfold expT
            rw [if_neg]
            intro h
            cases is with
            | true => exact hus ⟨h.1, rfl⟩
            | false => exact HIS.out.2 rfl h.2⟩
          have hm1 : m + 1 ≤ 8192 := by have h := HLT.out; rw [HTK.out, List.length_append, HE.out, ← HLI.out] at h; simpa using h
          have d5 : (((m + 1 : Nat) : Int) > (8192 : Int)) = False := eq_false (by omega)
          have d6 : (((m : Int) + 1) > (8192 : Int)) = False := eq_false (by omega)
          have d7 : ((8192 : Int) < ((m + 1 : Nat) : Int)) = False := eq_false (by omega)
          have d8 : ((8192 : Int) < ((m : Int) + 1)) = False := eq_false (by omega)
          have hsp : ((x.f0 != (1 : Int)) = false ∧ is = false) ∨ (x.f0 != (1 : Int)) = true := by
            by_cases h : x.f0 = 1
            · refine Or.inl ⟨by rw [h]; rfl, ?_⟩
              cases is with
              | true => exact absurd ⟨h, rfl⟩ hus
              | false => rfl
            · exact Or.inr (by simpa using h)
          clear hus
          rcases hsp with ⟨e1, e2⟩ | e1
          all_goals (
            (try subst e2)
            go_wp2_with (at_builtin; refine Kd.R_append k26 (w0 := W2) (W := W2) w.heap.size rfl (.tmp 55) (.tmp 57) 22 26 (.agg #[(.int .i64 0), (.int .i64 0), (.int .i64 0), (.string ⟨#[]⟩), (.int .i64 0)]) 48 rfl Try.underlying22 info26 rfl k26_sz (by decide) (.slice O m o) ((l.take i).flatMap (expT nm body)) x [.int .i64 x.f0, .int .i64 x.f1, .int .i64 x.f2, .string x.f3, .int .i64 x.f4] (fun _ => True) (fun _ => False) rfl rfl (k26_mkM _ _ _ x) (fun k hk => hk.elim) (fun _ _ => trivial) HT2.out.2 (Below.refl _ _) HT2.out.1.2.1.size (by rw [← HLI.out]; omega) ?_; intro v1 w7 hR7 hB7 hG7 _; obtain ⟨A7, c7, e⟩ := Kd.R_slice hR7; rw [List.length_append, ← HLI.out, List.length_singleton] at e; subst e; have HR7 := Aside0.mk (And.intro hR7 (And.intro hB7 hG7)); clear hR7 hB7 hG7)
            go_roundg (r - 1)
            case measure => omega
            case rel =>
              obtain ⟨hR7, hB7, hG7⟩ := HR7.out
              refine ⟨i + 1, r - 1, c' - 1, m + 1, A2, A7, c7, u, by omega, by omega, by omega, rfl, rfl, hu1, by omega, ⟨HA2.out, ⟨HT2.out.1.1.trans (hB7.mono (Nat.le_of_lt (Nat.lt_of_le_of_lt HBA.out HGQ.out))), HT2.out.1.2.1.grown hG7 (Or.inr fun k hk => ?_), blk_grown HT2.out.1.2.2 hG7 (Kd.R_ne HT2.out.2 HT2.out.1.2.2 (by decide))⟩, ?_, ?_⟩⟩
              · rcases Kd.R_base2 HT2.out.2 with h | ⟨k', h, hle⟩
                · rw [h] at hk; cases hk
                · rw [h] at hk; cases hk; exact hle
              · rw [HTK.out, HE.out]; exact hR7
              · rw [HTK.out, HE.out, List.length_append, ← HLI.out]; rfl))
    · have d0 : ((r : Int) > (0 : Int)) = False := eq_false (by omega)
      have d0' : ((0 : Int) < (r : Int)) = False := eq_false (by omega)
      have hR := HW.out.2.2.1
      have hM := HW.out.2.2.2
      obtain rfl : i = n := by omega
      rw [show l.take i = l from List.take_of_length_le (by have := HN.out; omega)] at hR hM
      rw [hM] at hR
      have HRF := Aside0.mk (And.intro hR hM)
      clear hR hM
      go_wp2
      go_ret
      exact ⟨O, o, u, by rw [← HRF.out.2]; rfl, HRF.out.1, HW.out.2.1.2.2, HW.out.2.1.1, HW.out.2.1.2.1⟩
end Go.Proofs.Ytlbiideeljbhlaa.Pr
