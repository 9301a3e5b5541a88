/- A row that begins with a definition: the closure inside Macros. Condition: at most 8192 tokens come of it, at most 4000 uses. -/
import Derived.Test.YtlbiideeljbhlaaPrS
set_option linter.unusedSimpArgs false
set_option linter.unusedVariables false
namespace Go.Proofs.Ytlbiideeljbhlaa.Pr
open Go.RowKit Go.BigFrame Go.Proofs.YtlbiideeljbhlaaW.PrintWords Go.Proofs.YtlbiideeljbhlaaW.PrintLast Go.Proofs.YtlbiideeljbhlaaW.PrintMore Go.Proofs.Ytlbiideeljbhlaa.PPrepSkips

/-- What was there stays, but for two blocks. -/
structure ToldM (gq mb : Nat) (W W' : World) : Prop where
  size : W.heap.size ≤ W'.heap.size
  block : ∀ k, k < W.heap.size → k ≠ gq → k ≠ mb → W'.heap[k]? = W.heap[k]?
theorem ToldM.refl (gq mb : Nat) (W : World) : ToldM gq mb W W := ⟨Nat.le_refl _, fun _ _ _ _ => rfl⟩
theorem ToldM.trans {gq mb : Nat} {W W1 W2 : World} (h : ToldM gq mb W W1) (k : ToldM gq mb W1 W2) : ToldM gq mb W W2 := ⟨Nat.le_trans h.size k.size, fun b h0 h1 h2 => (k.block b (Nat.lt_of_lt_of_le h0 h.size) h1 h2).trans (h.block b h0 h1 h2)⟩
theorem ToldM.of {gq mb : Nat} {W W1 : World} (h : Told gq none W W1) : ToldM gq mb W W1 := ⟨h.size, fun b h0 h1 _ => h.block b h0 h1 (by simp)⟩
theorem ToldM.of' {gq mb : Nat} {W W1 : World} (h : Told mb none W W1) : ToldM gq mb W W1 := ⟨h.size, fun b h0 _ h2 => h.block b h0 h2 (by simp)⟩
theorem ToldM.below {gq mb : Nat} {W W1 : World} (h : Below W.heap.size W W1) : ToldM gq mb W W1 := ⟨h.size, fun b h0 _ _ => h.block b h0⟩
theorem ToldM.cell {gq mb : Nat} {W W' : World} (h : ToldM gq mb W W') {k o : Nat} {v : Value} (hc : W.cell? ⟨k, o, none⟩ = some v) (hk : k ≠ gq) (hm : k ≠ mb) : W'.cell? ⟨k, o, none⟩ = some v :=
  (World.cell?_of_block (w := W) (a := ⟨k, o, none⟩) (h.block k (World.block_lt_of_cell? W _ hc) hk hm)).trans hc
theorem C_toldM {gq mb : Nat} {W W' : World} (h : ToldM gq mb W W') {A : Option Addr} {l : List S26} (hC : k26.C W A l.length l) (hA : ∀ a, A = some a → a.block ≠ gq ∧ a.block ≠ mb) : k26.C W' A l.length l := by
  obtain ⟨h1, h2, h3⟩ := hC
  refine ⟨h1, h2, fun hp => ?_⟩
  obtain ⟨ad, e, hc⟩ := h3 hp
  refine ⟨ad, e, fun j p hj => ?_⟩
  obtain ⟨c, hl, hk, hcc⟩ := hc j p hj
  refine ⟨c, hl, hk, fun i u hu => ?_⟩
  have hcu := hcc i u hu
  have hb : (ad.add (j * k26.sz + i)).block = ad.block := by unfold Addr.add; split <;> rfl
  have hblk := h.block (ad.add (j * k26.sz + i)).block (World.block_lt_of_cell? W _ hcu) (by rw [hb]; exact (hA ad e).1) (by rw [hb]; exact (hA ad e).2)
  exact (World.cell?_of_block hblk).trans hcu

set_option maxHeartbeats 2000000 in
set_option maxRecDepth 100000 in
theorem tell_none (W : World) (gq mb : Nat) (hk : W.cell? ⟨gq, 1, none⟩ = some (.map (some mb))) : Calls Try.prog 17 #[.pointer (some ⟨gq, 0, none⟩), .slice none 0 0] W fun e w' => e = .returned (.tuple #[]) ∧ Below W.heap.size W w' := by
  have HD := Aside0.mk (done_plain W gq mb none 0 0 [] ⟨rfl, Nat.zero_le _, fun h => absurd h (Nat.lt_irrefl _)⟩ rfl (Nat.le_refl _) (by omega) hk (fun x hx => by cases hx))
  clear hk
  go_enter Try.func17, Try.ntmps17
  go_upto_region 1 with (go_at_call 29; refine HD.out.mono ?_; rintro e w1 ⟨D, d, rfl, hR, hB⟩; have H1 := Aside0.mk hB; clear hR hB)
  go_wp2
  go_loopg [10] 0 (fun gg s10 wz => s10 = .int .i64 0 ∧ Aside0 (Below W.heap.size W wz))
  case atStart => exact ⟨rfl, H1⟩
  case round =>
    obtain ⟨rfl, HW⟩ := hrel
    go_wp2
    refine ⟨rfl, .tuple #[], (by simp [results, Try.results17, go_sem]), rfl, HW.out⟩

set_option maxHeartbeats 16000000 in
set_option maxRecDepth 100000 in
theorem macros_once (w : World) (base gq mb cl n c pb po : Nat) (h d z : S26) (body rest : List S26) (en : S26) (l : List S26) (hl : l = h :: d :: z :: (body ++ rest)) (hA : k26.C w (some ⟨pb, po, none⟩) l.length l) (hn : n = l.length) (hn2 : n ≤ 100000) (hc : n ≤ c) (hbq : base ≤ gq) (hbm : base ≤ mb) (hpq : pb ≠ gq) (hpm : pb ≠ mb)
    (hh : isT 4 h ⟨#[35]⟩ = true) (hh2 : h.f2 = 1) (hd0 : d.f0 = 1) (hd3 : d.f3 = defS) (hd2 : d.f2 = 1) (hz0 : z.f0 = 1) (hz3 : z.f3 = zzS) (hz2 : z.f2 = 1)
    (hb2 : ∀ x, x ∈ body → x.f2 = 1 ∧ isT 4 x ⟨#[40]⟩ = false ∧ ¬ (x.f0 = 1 ∧ x.f3 = zzS)) (hr2 : ∀ x, x ∈ rest → x.f2 = 2 ∧ isT 4 x ⟨#[35]⟩ = false) (hrl : rest.length ≤ 4000) (hlen : (rest.flatMap (expT zzS body)).length ≤ 8192) (hbl : body.length ≤ 8192)
    (hq : w.heap[gq]? = some (.cells (wkC false mb (.slice none 0 0) 0 (.slice none 0 0)) 41 (0, 0))) (hm : w.heap[mb]? = some (.map #[] cl)) :
    Calls Try.prog 14 #[.pointer (some ⟨gq, 0, none⟩), .slice (some ⟨pb, po, none⟩) n c, tokV en] w fun e w' => e = .returned (.tuple #[]) ∧ ∃ uses' O o, w'.heap[gq]? = some (.cells (wkC false mb (.slice none 0 0) uses' (.slice O (rest.flatMap (expT zzS body)).length o)) 41 (0, 0)) ∧ k26.R 26 w' base (fun _ => True) (.slice O (rest.flatMap (expT zzS body)).length o) (rest.flatMap (expT zzS body)) ∧ Below base w w' ∧ ToldM gq mb w w' := by
  obtain ⟨h0, hh0⟩ : ∃ h0, h0 = body.length + 3 := ⟨_, rfl⟩
  have hnl : n = h0 + rest.length := by rw [hn, hl, hh0]; simp; omega
  obtain ⟨b', o', HP⟩ := tok_cells hA
  have hl0 : 0 < l.length := by rw [hl]; simp
  obtain ⟨e, hjunk⟩ := HP 0 hl0
  clear hjunk
  injection e with e
  injection e with e1 e2
  subst e1 e2
  have HPP := Aside0.mk HP
  have HN := Aside0.mk hn
  have H0H := Aside0.mk hh0
  have HNL := Aside0.mk hnl
  -- the lines
  have HLN : Aside0 (∀ k (hk : k < l.length), (k < h0 → l[k].f2 = 1) ∧ (h0 ≤ k → ∃ hr : k - h0 < rest.length, l[k] = rest[k - h0])) := ⟨fun k hk => by
    subst hl
    refine ⟨fun hlt => ?_, fun hge => ?_⟩
    · match k, hk with
      | 0, _ => exact hh2
      | 1, _ => exact hd2
      | 2, _ => exact hz2
      | k + 3, hk =>
        simp only [List.getElem_cons_succ]
        rw [List.getElem_append_left (by omega)]
        exact (hb2 _ (List.getElem_mem _)).1
    · match k, hk with
      | k + 3, hk =>
        have hkr : k + 3 - h0 < rest.length := by simp at hk; omega
        refine ⟨hkr, ?_⟩
        simp only [List.getElem_cons_succ]
        rw [List.getElem_append_right (by omega)]
        congr 1
        omega
      | 0, _ => omega
      | 1, _ => omega
      | 2, _ => omega⟩
  have HH0 : Aside0 (∀ hx : 0 < l.length, l[0] = h) := ⟨fun _ => by subst hl; rfl⟩
  have HR2 := Aside0.mk hr2
  -- the row that is defined, and the macro's body
  have HCD : Aside0 (k26.C w (some ⟨pb, po + 5, none⟩) (d :: z :: body).length (d :: z :: body)) := ⟨by
    have hC := C_drop hA 1 (body.length + 2) (by rw [hl]; simp; omega)
    have e5 : (l.drop 1).take (body.length + 2) = d :: z :: body := by rw [hl]; simp
    rw [e5, Nat.one_mul] at hC
    exact hC⟩
  have HCB : Aside0 (k26.C w (some ⟨pb, po + 5 + 5 + 5, none⟩) body.length body) := ⟨by
    have hC := C_drop hA 3 body.length (by rw [hl]; simp; omega)
    have e5 : (l.drop 3).take body.length = body := by rw [hl]; simp
    rw [e5, show po + 3 * 5 = po + 5 + 5 + 5 by omega] at hC
    exact hC⟩
  obtain ⟨A2, hA2⟩ : ∃ A2, A2 = (if h0 - 1 - 1 = 1 then some (⟨pb, po + 5 + 5, none⟩ : Addr) else some ⟨pb, po + 5 + 5 + 5, none⟩) := ⟨_, rfl⟩
  have HCA : Aside0 (k26.C w A2 body.length body ∧ ∀ a, A2 = some a → a.block = pb) := ⟨by
    rw [hA2]
    split
    · rename_i h1
      have hb0 : body = [] := List.eq_nil_of_length_eq_zero (by omega)
      subst hb0
      exact ⟨⟨rfl, Nat.zero_le _, fun h => absurd h (Nat.lt_irrefl _)⟩, fun a ha => by cases ha; rfl⟩
    · exact ⟨HCB.out, fun a ha => by cases ha; rfl⟩⟩
  have HDIR : Aside0 (∀ (W : World) (out : Value) (at_ : Int), ToldM gq mb w W → W.heap[gq]? = some (.cells (wkC false mb (.slice none 0 0) 0 out) 41 (0, 0)) → W.heap[mb]? = some (.map #[] cl) → Calls Try.prog 18 #[.pointer (some ⟨gq, 0, none⟩), .slice (some ⟨pb, po + 5, none⟩) (h0 - 1) (h0 - 1), .int .i64 at_] W fun e w' => e = .returned (.tuple #[]) ∧ (∃ cl', w'.heap[mb]? = some (.map #[⟨.string zzS, macV A2 (h0 - 1 - 1 - 1) (h0 - 1 - 1 - 1), cl'⟩] (cl' + 1))) ∧ (∀ base, base ≤ mb → Below base W w') ∧ Told mb none W w') := ⟨fun W out at_ ht hq hm =>
    directive_define W gq mb cl (h0 - 1) pb (po + 5) at_ 0 out d z body (C_toldM ht HCD.out (fun a ha => by cases ha; exact ⟨hpq, hpm⟩)) (by omega) (by omega) hd0 hd3 hz0 hz3 (fun x hx => (hb2 x hx).2.1) A2 hA2 hq hm⟩
  have HTU : Aside0 (∀ (W : World) (R O1 : Option Addr) (ro o1 cl' : Nat), ToldM gq mb w W → W.heap[gq]? = some (.cells (wkC false mb (.slice none 0 0) 0 (.slice O1 0 o1)) 41 (0, 0)) → W.heap[mb]? = some (.map #[⟨.string zzS, macV A2 (h0 - 1 - 1 - 1) (h0 - 1 - 1 - 1), cl'⟩] (cl' + 1)) → k26.R 26 W w.heap.size (fun _ => True) (.slice R rest.length ro) rest → k26.R 26 W base (fun _ => True) (.slice O1 0 o1) [] → Calls Try.prog 17 #[.pointer (some ⟨gq, 0, none⟩), .slice R rest.length ro] W fun e w' => e = .returned (.tuple #[]) ∧ ∃ O' o' uses', w'.heap[gq]? = some (.cells (wkC false mb (.slice none 0 0) uses' (.slice O' (0 + (rest.flatMap (expT zzS body)).length) o')) 41 (0, 0)) ∧ k26.R 26 w' base (fun _ => True) (.slice O' (0 + (rest.flatMap (expT zzS body)).length) o') ([] ++ rest.flatMap (expT zzS body)) ∧ Below base W w' ∧ Told gq (Value.slice O1 0 o1).ownBlock W w') := ⟨fun W R O1 ro o1 cl' ht hq hm hR hO => by
    have hrd := Kd.R_reads' hR
    exact tell_uses W base gq mb (cl' + 1) cl' zzS A2 R (h0 - 1 - 1 - 1) (h0 - 1 - 1 - 1) rest.length ro 0 o1 O1 (.slice none 0 0) 0 body rest [] hbq hrd.2.2 rfl hrd.2.1 (fun a ha => fun e => by subst ha; exact Kd.R_ne hR hq (by decide) (by rw [← e]; simp [Value.ownBlock])) (C_toldM ht HCA.out.1 (fun a ha => ⟨by rw [HCA.out.2 a ha]; exact hpq, by rw [HCA.out.2 a ha]; exact hpm⟩)) (by omega) (Nat.le_refl _) (fun a ha => by rw [HCA.out.2 a ha]; exact hpq) hq hm (fun x hx => (hb2 x hx).2.2) (Int.le_refl 0) (by omega) rfl (by omega) (by omega) (Kd.R_mono (Kd.R_bound hO) (fun k hk e => by
      obtain ⟨_, _, _, t, ht', cells, hcc⟩ := hk
      rw [e, hq] at hcc
      injection hcc with hcc
      injection hcc with _ e2
      subst e2
      revert ht'
      decide))⟩
  have HMH : Aside0 (∀ W, Calls Try.prog 15 #[tokV h, .string ⟨#[35]⟩] W fun e w' => e = .returned (.bool true) ∧ Below W.heap.size W w') := ⟨fun W => by have h1 := mark_walk h ⟨#[35]⟩ W; rw [hh] at h1; exact h1⟩
  have HT0 : Aside0 (∀ W, Below w.heap.size w W → Calls Try.prog 17 #[.pointer (some ⟨gq, 0, none⟩), .slice none 0 0] W fun e w' => e = .returned (.tuple #[]) ∧ Below W.heap.size W w') := ⟨fun W hb => tell_none W gq mb ((blk_cell (blk_below hq hb) 1).trans rfl)⟩
  have HKP : Aside0 (∀ W u (out : Value), W.heap[gq]? = some (.cells (wkC false mb (.slice none 0 0) u out) 41 (0, 0)) → Calls Try.prog 16 #[.pointer (some ⟨gq, 0, none⟩)] W fun e w' => e = .returned (.bool true) ∧ Drawn0 W w') := ⟨fun W u out h => kept_none W gq ((blk_cell h 2).trans rfl)⟩
  have HQ := Aside0.mk hq
  have HMB := Aside0.mk hm
  have HPM := Aside0.mk (And.intro hpq hpm)
  have HSZ := Aside0.mk (show base ≤ w.heap.size from Nat.le_of_lt (Nat.lt_of_le_of_lt hbq (blk_lt hq)))
  have HHL := Aside0.mk (show h.f2 = 1 ∧ 3 ≤ h0 ∧ h0 ≤ n from ⟨hh2, by omega, by omega⟩)
  have HRL := Aside0.mk hrl
  have HGM := Aside0.mk (show gq ≠ mb from fun e => by rw [e, hm] at hq; injection hq with hq; cases hq)
  clear HP hA hn hh hh2 hd0 hd3 hd2 hz0 hz3 hz2 hb2 hr2 hrl hlen hbl hq hm hnl hh0 hl hl0 hpq hpm hA2 HCD HCB HCA
  go_enter Try.func14, Try.ntmps14
  go_wp2
  go_loopg [6, 7] n (fun gg s6 s7 wz => ∃ (i ro rn : Nat) (R : Option Addr), i ≤ n ∧ n - i ≤ gg ∧ s7 = .int .i64 i ∧ s6 = .slice R rn ro ∧ ((i = 0 ∧ rn = 0 ∧ R = none ∧ ro = 0 ∧ Aside0 (Below w.heap.size w wz)) ∨ (h0 ≤ i ∧ rn = i - h0 ∧ Aside0 ((Below base w wz ∧ ToldM gq mb w wz ∧ (∃ cl', wz.heap[mb]? = some (.map #[⟨.string zzS, macV A2 (h0 - 1 - 1 - 1) (h0 - 1 - 1 - 1), cl'⟩] (cl' + 1)))) ∧ ∃ O1 o1 sz, (w.heap.size ≤ sz ∧ sz ≤ wz.heap.size ∧ (Value.slice O1 0 o1).ownBlock = none) ∧ (wz.heap[gq]? = some (.cells (wkC false mb (.slice none 0 0) 0 (.slice O1 0 o1)) 41 (0, 0)) ∧ k26.R 26 wz base (fun b => b < sz) (.slice O1 0 o1) []) ∧ k26.R 26 wz sz (fun _ => True) (.slice R (i - h0) ro) (rest.take (i - h0))))))
  case atStart => exact ⟨0, 0, 0, none, Nat.zero_le _, Nat.le_of_eq (Nat.sub_zero _), rfl, rfl, Or.inl ⟨rfl, rfl, rfl, rfl, ⟨below_alloc (Below.refl _ _) _⟩⟩⟩
  case round =>
    obtain ⟨i, ro, rn, R, hi, hg, rfl, rfl, hst⟩ := hrel
    rcases hst with ⟨rfl, rfl, rfl, rfl, HW⟩ | ⟨hge, rfl, HW⟩
    · have hnp : 0 < n := by have := HHL.out.2; omega
      have d0 : ((0 : Int) < (n : Int)) = True := eq_true (by omega)
      have hil : 0 < l.length := by have := HN.out; omega
      obtain ⟨_, q0, q1, q2, q3, q4⟩ := HPP.out 0 hil
      rw [HH0.out hil, Nat.zero_mul, Nat.add_zero] at q0 q1 q2 q3 q4
      have p0 := pw_cell_below HW.out q0
      have p1 := pw_cell_below HW.out q1
      have p2 := pw_cell_below HW.out q2
      have p3 := pw_cell_below HW.out q3
      have p4 := pw_cell_below HW.out q4
      have HMW := HMH
      clear q0 q1 q2 q3 q4 hil
      go_upto_region 5 with fail
      obtain ⟨g8, hg8⟩ : ∃ g8, g8 = wr.heap.size := ⟨_, rfl⟩
      rw [← hg8]
      refine wp_world (fun W => Aside0 (Below wr.heap.size wr W ∧ W.heap[g8]? = some (.cells (tokC h) 26 (0, 0)))) ⟨below_alloc (Below.refl _ _) _, by rw [hg8]; exact blk_new _ _⟩ (fun W1 H1 => ?_)
      have HG8 := Aside0.mk (show w.heap.size ≤ g8 from by rw [hg8]; exact HW.out.size)
      clear hg8 p0 p1 p2 p3 p4
      have c0 : W1.cell? ⟨g8, 0, none⟩ = some (.int .i64 h.f0) := (blk_cell H1.out.2 0).trans rfl
      have c1 : W1.cell? ⟨g8, 1, none⟩ = some (.int .i64 h.f1) := (blk_cell H1.out.2 1).trans rfl
      have c2 : W1.cell? ⟨g8, 2, none⟩ = some (.int .i64 h.f2) := (blk_cell H1.out.2 2).trans rfl
      have c3 : W1.cell? ⟨g8, 3, none⟩ = some (.string h.f3) := (blk_cell H1.out.2 3).trans rfl
      have c4 : W1.cell? ⟨g8, 4, none⟩ = some (.int .i64 h.f4) := (blk_cell H1.out.2 4).trans rfl
      have SB := Aside0.mk (fun (W : World) (hb : Below W1.heap.size W1 W) => (⟨pw_cell_below hb c0, pw_cell_below hb c1, pw_cell_below hb c2, pw_cell_below hb c3, pw_cell_below hb c4⟩ : W.cell? ⟨g8, 0, none⟩ = some (.int .i64 h.f0) ∧ W.cell? ⟨g8, 1, none⟩ = some (.int .i64 h.f1) ∧ W.cell? ⟨g8, 2, none⟩ = some (.int .i64 h.f2) ∧ W.cell? ⟨g8, 3, none⟩ = some (.string h.f3) ∧ W.cell? ⟨g8, 4, none⟩ = some (.int .i64 h.f4)))
      refine wp_region_quietC (fun W => Below W1.heap.size W1 W) (by kernel_rfl) (by kernel_rfl) (below_drew (Below.refl _ _)) ?_
      go_big_quiet_want
      refine ⟨tokV h, fun w hw => ?_, ?_⟩
      · obtain ⟨b0, b1, b2, b3, b4⟩ := SB.out w hw
        clear c0 c1 c2 c3 c4
        simp [Oper.quietAt, Oper.quietUpon, go_sem, *]
      simp only [Act.put, List.setIfInBounds_toArray, List.set_cons_zero, List.set_cons_succ]
      go_big_quiet_on
      go_big_quiet_want
      refine ⟨.bool true, fun w hw => ?_, ?_⟩
      · simp [Oper.quietAt, Oper.quietUpon, go_sem]
        exact (HMW.out w).mono (fun e w'' h => ⟨h.1, below_then hw hw.size h.2⟩)
      simp only [Act.put, List.setIfInBounds_toArray, List.set_cons_zero, List.set_cons_succ]
      go_big_quiet_on
      go_big_quiet_want
      refine ⟨.bool false, fun W hW => (by simp [Oper.quietAt, Oper.quietUpon, go_sem]), ?_⟩
      simp only [Act.put, List.setIfInBounds_toArray, List.set_cons_zero, List.set_cons_succ]
      go_big_quiet_on
      go_big_quiet_want
      go_big_quiet_op
      go_big_quiet_on
      go_big_quiet_want
      go_big_quiet_op
      go_big_quiet_on
      go_big_quiet_want
      refine ⟨.bool false, fun W hW => (by simp [Oper.quietAt, Oper.quietUpon, go_sem]), ?_⟩
      simp only [Act.put, List.setIfInBounds_toArray, List.set_cons_zero, List.set_cons_succ]
      go_big_quiet_on
      go_big_quiet_want
      go_big_quiet_op
      go_big_quiet_on
      repeat go_big_quiet_skip
      go_big_quiet_want
      refine ⟨.bool false, fun W hW => (by simp [Oper.quietAt, Oper.quietUpon, go_sem]), ?_⟩
      simp only [Act.put, List.setIfInBounds_toArray, List.set_cons_zero, List.set_cons_succ]
      go_big_quiet_on
      go_big_quiet_want
      refine ⟨.bool false, fun W hW => (by simp [Oper.quietAt, Oper.quietUpon, go_sem]), ?_⟩
      simp only [Act.put, List.setIfInBounds_toArray, List.set_cons_zero, List.set_cons_succ]
      go_big_quiet_on
      refine wpQuiet_nil ?_
      intro w2 hB2
      have HB2 := Aside0.mk hB2
      clear hB2 SB
      have HB3 := Aside0.mk (below_then HW.out HW.out.size (below_then H1.out.1 H1.out.1.size HB2.out))
      have H8 := Aside0.mk (blk_below H1.out.2 HB2.out)
      clear c0 c1 c2 c3 c4
      go_upto_region 10 with (go_at_call 17; refine (HT0.out _ HB3.out).mono ?_; rintro e w4 ⟨rfl, hB4⟩; have HB4 := Aside0.mk (below_then HB3.out HB3.out.size hB4); have H84 := Aside0.mk (blk_below H8.out hB4); clear hB4)
      have HT4 := Aside0.mk (ToldM.below (gq := gq) (mb := mb) HB4.out)
      have HBB4 := Aside0.mk (HB4.out.mono HSZ.out)
      have HM4 := Aside0.mk ((HB4.out.block mb (blk_lt HMB.out)).trans HMB.out)
      have HQ4 := Aside0.mk (blk_below HQ.out HB4.out)
      go_wp2
      go_loopg [9] h0 (fun gg s9 wz => ∃ k : Nat, 1 ≤ k ∧ k ≤ h0 ∧ h0 - k ≤ gg ∧ s9 = .int .i64 k ∧ Aside0 (Below w4.heap.size w4 wz))
      case atStart => exact ⟨1, Nat.le_refl _, by have := HHL.out.2; omega, by omega, rfl, ⟨Below.refl _ _⟩⟩
      case round =>
        obtain ⟨k, hk1, hk2, hg2, rfl, HZ⟩ := hrel
        have y2 : wr.cell? ⟨g8, 2, none⟩ = some (.int .i64 1) := by rw [← HHL.out.1]; exact (blk_cell (blk_below H84.out HZ.out) 2).trans rfl
        by_cases hkh : k < h0
        · have hkl : k < l.length := by have := HN.out; have := HHL.out.2.2; omega
          have hkn : k < n := by have := HHL.out.2.2; omega
          have dk : ((k : Int) < (n : Int)) = True := eq_true (by omega)
          have z2' := (HPP.out k hkl).2.2.2.1
          rw [(HLN.out k hkl).1 hkh] at z2'
          have z2 : wr.cell? ⟨pb, po + k * 5 + 2, none⟩ = some (.int .i64 1) := pw_cell_below HZ.out (HT4.out.cell z2' HPM.out.1 HPM.out.2)
          clear z2' hkl
          go_upto_region 12 with fail
          go_quiet (fail)
          go_wp2
          go_roundg (h0 - (k + 1))
          case measure => omega
          case rel => exact ⟨k + 1, by omega, by omega, by omega, by go_num, ⟨below_then HZ.out HZ.out.size (pw_below_drewN (Below.refl _ _) _)⟩⟩
        · obtain rfl : k = h0 := by omega
          by_cases hkn : k < n
          · have hkl : k < l.length := by have := HN.out; omega
            have dk : ((k : Int) < (n : Int)) = True := eq_true (by omega)
            have z2' := (HPP.out k hkl).2.2.2.1
            obtain ⟨hr', he'⟩ := (HLN.out k hkl).2 (Nat.le_refl _)
            rw [he', (HR2.out _ (List.getElem_mem hr')).1] at z2'
            have z2 : wr.cell? ⟨pb, po + k * 5 + 2, none⟩ = some (.int .i64 2) := pw_cell_below HZ.out (HT4.out.cell z2' HPM.out.1 HPM.out.2)
            clear z2' hkl hr' he'
            go_upto_region 12 with fail
            go_quiet (fail)
            obtain ⟨w5, hw5⟩ : ∃ w5, w5 = wr.drewN nq := ⟨_, rfl⟩
            rw [← hw5]
            have HB5 : Aside0 (Below w4.heap.size w4 w5) := ⟨by rw [hw5]; exact below_then HZ.out HZ.out.size (pw_below_drewN (Below.refl _ _) _)⟩
            clear hw5 y2
            go_upto_region 14 with fail
            have y1 : w5.cell? ⟨g8, 1, none⟩ = some (.int .i64 h.f1) := (blk_cell (blk_below H84.out HB5.out) 1).trans rfl
            have dk1 : ((1 : Int) ≤ (k : Int)) = True := eq_true (by have := HHL.out.2; omega)
            have dk2 : ((k : Int) ≤ (c : Int)) = True := eq_true (by have := HHL.out.2; omega)
            have hkc : k ≤ c := by have := HHL.out.2; omega
            have hk3 := HHL.out.2.1
            have hkn3 := HHL.out.2.2
            have hk0 : (k = 1) = False := eq_false (by omega)
            have HT5 := Aside0.mk (HT4.out.trans (ToldM.below (gq := gq) (mb := mb) HB5.out.drew))
            have HM5 := Aside0.mk ((HB5.out.block mb (blk_lt HM4.out)).trans HM4.out)
            have HD := Aside0.mk (HDIR.out w5.drew (.slice none 0 0) h.f1 HT5.out (show w5.drew.heap[gq]? = _ from blk_below HQ4.out HB5.out.drew) (show w5.drew.heap[mb]? = _ from HM5.out))
            have hwr1 : IntKind.i64.wrap (1 : Int) = 1 := by rw [IntKind.wrap_i64]; decide
            go_still_tail 9, (by kernel_rfl)
            change wpList _ _ _ _ _ w5.drew
            go_upto_region 15 with (go_at_call 18; refine HD.out.mono ?_; rintro e w6 ⟨rfl, hm6, hb6, ht6⟩; have H6 := Aside0.mk (And.intro hm6 (And.intro hb6 ht6)); clear hm6 hb6 ht6)
            go_wp2
            go_roundg (n - k)
            case measure => omega
            case rel =>
              obtain ⟨hm6, hb6, ht6⟩ := H6.out
              have hq5 : w5.drew.heap[gq]? = some (.cells (wkC false mb (.slice none 0 0) 0 (.slice none 0 0)) 41 (0, 0)) := blk_below HQ4.out HB5.out.drew
              refine ⟨k, 0, 0, none, by omega, by omega, rfl, rfl, Or.inr ⟨Nat.le_refl _, by omega, ⟨⟨((HBB4.out.trans (HB5.out.drew.mono (Nat.le_trans HSZ.out HT4.out.size))).trans (hb6 base hbm)), HT5.out.trans (ToldM.of' ht6), hm6⟩, none, 0, w6.heap.size, ⟨(HT5.out.trans (ToldM.of' ht6)).size, Nat.le_refl _, by simp [Value.ownBlock]⟩, ⟨(ht6.block gq (blk_lt hq5) HGM.out (by simp)).trans hq5, Kd.R_nil _ _ _ _ _⟩, ?_⟩⟩⟩
              rw [Nat.sub_self, List.take_zero]
              exact Kd.R_nil _ _ _ _ _
          · have dk : ((k : Int) < (n : Int)) = False := eq_false (by omega)
            go_upto_region 12 with fail
            go_quiet (fail)
            obtain ⟨w5, hw5⟩ : ∃ w5, w5 = wr.drewN nq := ⟨_, rfl⟩
            rw [← hw5]
            have HB5 : Aside0 (Below w4.heap.size w4 w5) := ⟨by rw [hw5]; exact below_then HZ.out HZ.out.size (pw_below_drewN (Below.refl _ _) _)⟩
            clear hw5 y2
            go_upto_region 14 with fail
            have y1 : w5.cell? ⟨g8, 1, none⟩ = some (.int .i64 h.f1) := (blk_cell (blk_below H84.out HB5.out) 1).trans rfl
            have dk1 : ((1 : Int) ≤ (k : Int)) = True := eq_true (by have := HHL.out.2; omega)
            have dk2 : ((k : Int) ≤ (c : Int)) = True := eq_true (by have := HHL.out.2; omega)
            have hkc : k ≤ c := by have := HHL.out.2; omega
            have hk3 := HHL.out.2.1
            have hkn3 := HHL.out.2.2
            have hk0 : (k = 1) = False := eq_false (by omega)
            have HT5 := Aside0.mk (HT4.out.trans (ToldM.below (gq := gq) (mb := mb) HB5.out.drew))
            have HM5 := Aside0.mk ((HB5.out.block mb (blk_lt HM4.out)).trans HM4.out)
            have HD := Aside0.mk (HDIR.out w5.drew (.slice none 0 0) h.f1 HT5.out (show w5.drew.heap[gq]? = _ from blk_below HQ4.out HB5.out.drew) (show w5.drew.heap[mb]? = _ from HM5.out))
            have hwr1 : IntKind.i64.wrap (1 : Int) = 1 := by rw [IntKind.wrap_i64]; decide
            go_still_tail 9, (by kernel_rfl)
            change wpList _ _ _ _ _ w5.drew
            go_upto_region 15 with (go_at_call 18; refine HD.out.mono ?_; rintro e w6 ⟨rfl, hm6, hb6, ht6⟩; have H6 := Aside0.mk (And.intro hm6 (And.intro hb6 ht6)); clear hm6 hb6 ht6)
            go_wp2
            go_roundg (n - k)
            case measure => omega
            case rel =>
              obtain ⟨hm6, hb6, ht6⟩ := H6.out
              have hq5 : w5.drew.heap[gq]? = some (.cells (wkC false mb (.slice none 0 0) 0 (.slice none 0 0)) 41 (0, 0)) := blk_below HQ4.out HB5.out.drew
              refine ⟨k, 0, 0, none, by omega, by omega, rfl, rfl, Or.inr ⟨Nat.le_refl _, by omega, ⟨⟨((HBB4.out.trans (HB5.out.drew.mono (Nat.le_trans HSZ.out HT4.out.size))).trans (hb6 base hbm)), HT5.out.trans (ToldM.of' ht6), hm6⟩, none, 0, w6.heap.size, ⟨(HT5.out.trans (ToldM.of' ht6)).size, Nat.le_refl _, by simp [Value.ownBlock]⟩, ⟨(ht6.block gq (blk_lt hq5) HGM.out (by simp)).trans hq5, Kd.R_nil _ _ _ _ _⟩, ?_⟩⟩⟩
              rw [Nat.sub_self, List.take_zero]
              exact Kd.R_nil _ _ _ _ _
    · obtain ⟨⟨hBw, hTw, cl', hmw⟩, O1, o1, sz, hsz, ⟨hqw, hRw⟩, hRr⟩ := HW.out
      have HW' := Aside0.mk (And.intro hBw (And.intro hTw (And.intro hqw (And.intro hRw (And.intro hmw hRr)))))
      have HSW := Aside0.mk hsz
      clear hBw hTw hqw hRw hmw hRr hsz
      by_cases hlt : i < n
      · have d0 : ((i : Int) < (n : Int)) = True := eq_true (by omega)
        have hil : i < l.length := by have := HN.out; omega
        obtain ⟨_, q0, q1, q2, q3, q4⟩ := HPP.out i hil
        obtain ⟨hr', he'⟩ := (HLN.out i hil).2 hge
        rw [he'] at q0 q1 q2 q3 q4
        have hnm := (HR2.out _ (List.getElem_mem hr')).2
        have HTK := Aside0.mk (show rest.take (i + 1 - h0) = rest.take (i - h0) ++ [rest[i - h0]] by rw [show i + 1 - h0 = i - h0 + 1 by omega, List.take_add_one, List.getElem?_eq_getElem hr']; rfl)
        have HLI := Aside0.mk (show (rest.take (i - h0)).length = i - h0 by rw [List.length_take]; omega)
        have p0 := HW'.out.2.1.cell q0 HPM.out.1 HPM.out.2
        have p1 := HW'.out.2.1.cell q1 HPM.out.1 HPM.out.2
        have p2 := HW'.out.2.1.cell q2 HPM.out.1 HPM.out.2
        have p3 := HW'.out.2.1.cell q3 HPM.out.1 HPM.out.2
        have p4 := HW'.out.2.1.cell q4 HPM.out.1 HPM.out.2
        generalize rest[i - h0] = x at p0 p1 p2 p3 p4 hnm HTK
        have HMW := Aside0.mk (fun W => mark_walk x ⟨#[35]⟩ W)
        rw [hnm] at HMW
        clear q0 q1 q2 q3 q4 hil hnm hr' he'
        obtain ⟨m, hmm⟩ : ∃ m, m = i - h0 := ⟨_, rfl⟩
        rw [← hmm] at HW' HTK HLI ⊢
        have HMM := Aside0.mk hmm
        have hm9 : m ≤ 4000 := by have := HRL.out; have := HNL.out; omega
        clear hmm
        go_upto_region 5 with fail
        obtain ⟨g8, hg8⟩ : ∃ g8, g8 = wr.heap.size := ⟨_, rfl⟩
        rw [← hg8]
        refine wp_world (fun W => Aside0 (Below wr.heap.size wr W ∧ W.heap[g8]? = some (.cells (tokC x) 26 (0, 0)))) ⟨below_alloc (Below.refl _ _) _, by rw [hg8]; exact blk_new _ _⟩ (fun W1 H1 => ?_)
        clear hg8 p0 p1 p2 p3 p4
        have c0 : W1.cell? ⟨g8, 0, none⟩ = some (.int .i64 x.f0) := (blk_cell H1.out.2 0).trans rfl
        have c1 : W1.cell? ⟨g8, 1, none⟩ = some (.int .i64 x.f1) := (blk_cell H1.out.2 1).trans rfl
        have c2 : W1.cell? ⟨g8, 2, none⟩ = some (.int .i64 x.f2) := (blk_cell H1.out.2 2).trans rfl
        have c3 : W1.cell? ⟨g8, 3, none⟩ = some (.string x.f3) := (blk_cell H1.out.2 3).trans rfl
        have c4 : W1.cell? ⟨g8, 4, none⟩ = some (.int .i64 x.f4) := (blk_cell H1.out.2 4).trans rfl
        have SB := Aside0.mk (fun (W : World) (hb : Below W1.heap.size W1 W) => (⟨pw_cell_below hb c0, pw_cell_below hb c1, pw_cell_below hb c2, pw_cell_below hb c3, pw_cell_below hb c4⟩ : W.cell? ⟨g8, 0, none⟩ = some (.int .i64 x.f0) ∧ W.cell? ⟨g8, 1, none⟩ = some (.int .i64 x.f1) ∧ W.cell? ⟨g8, 2, none⟩ = some (.int .i64 x.f2) ∧ W.cell? ⟨g8, 3, none⟩ = some (.string x.f3) ∧ W.cell? ⟨g8, 4, none⟩ = some (.int .i64 x.f4)))
        refine wp_region_quietC (fun W => Below W1.heap.size W1 W) (by kernel_rfl) (by kernel_rfl) (below_drew (Below.refl _ _)) ?_
        go_big_quiet_want
        refine ⟨tokV x, fun w hw => ?_, ?_⟩
        · obtain ⟨b0, b1, b2, b3, b4⟩ := SB.out w hw
          clear c0 c1 c2 c3 c4
          simp [Oper.quietAt, Oper.quietUpon, go_sem, *]
        simp only [Act.put, List.setIfInBounds_toArray, List.set_cons_zero, List.set_cons_succ]
        go_big_quiet_on
        go_big_quiet_want
        refine ⟨.bool false, fun w hw => ?_, ?_⟩
        · simp [Oper.quietAt, Oper.quietUpon, go_sem]
          exact (HMW.out w).mono (fun e w'' h => ⟨h.1, below_then hw hw.size h.2⟩)
        simp only [Act.put, List.setIfInBounds_toArray, List.set_cons_zero, List.set_cons_succ]
        go_big_quiet_on
        go_big_quiet_want
        refine ⟨.bool true, fun W hW => (by simp [Oper.quietAt, Oper.quietUpon, go_sem]), ?_⟩
        simp only [Act.put, List.setIfInBounds_toArray, List.set_cons_zero, List.set_cons_succ]
        go_big_quiet_on
        go_big_quiet_want
        go_big_quiet_op
        go_big_quiet_on
        repeat go_big_quiet_skip
        go_big_quiet_want
        refine ⟨.bool true, fun W hW => (by simp [Oper.quietAt, Oper.quietUpon, go_sem]), ?_⟩
        simp only [Act.put, List.setIfInBounds_toArray, List.set_cons_zero, List.set_cons_succ]
        go_big_quiet_on
        refine wpQuiet_nil ?_
        intro w2 hB2
        have HB2 := Aside0.mk hB2
        clear hB2 SB
        go_upto_region 6 with fail
        clear c0 c1 c2 c3 c4
        have HB12 := Aside0.mk (below_then H1.out.1 H1.out.1.size HB2.out)
        have HKK := Aside0.mk (HKP.out w2 0 (.slice O1 0 o1) (blk_below HW'.out.2.2.1 HB12.out))
        go_upto_region 7 with (go_at_call 16; refine HKK.out.mono ?_; rintro e w3 ⟨rfl, hD⟩; have HB3 := Aside0.mk (below_then HB12.out HB12.out.size hD.below); have H8 := Aside0.mk (blk_below (blk_below H1.out.2 HB2.out) hD.below); clear hD)
        have c0 : w3.cell? ⟨g8, 0, none⟩ = some (.int .i64 x.f0) := (blk_cell H8.out 0).trans rfl
        have c1 : w3.cell? ⟨g8, 1, none⟩ = some (.int .i64 x.f1) := (blk_cell H8.out 1).trans rfl
        have c2 : w3.cell? ⟨g8, 2, none⟩ = some (.int .i64 x.f2) := (blk_cell H8.out 2).trans rfl
        have c3 : w3.cell? ⟨g8, 3, none⟩ = some (.string x.f3) := (blk_cell H8.out 3).trans rfl
        have c4 : w3.cell? ⟨g8, 4, none⟩ = some (.int .i64 x.f4) := (blk_cell H8.out 4).trans rfl
        go_wp2_with (at_builtin; refine Kd.R_append k26 (w0 := w3) (W := w3) sz rfl (.tmp 38) (.tmp 40) 22 26 (.agg #[(.int .i64 0), (.int .i64 0), (.int .i64 0), (.string ⟨#[]⟩), (.int .i64 0)]) 48 rfl Try.underlying22 info26 rfl k26_sz (by decide) (.slice R m ro) (rest.take m) x [.int .i64 x.f0, .int .i64 x.f1, .int .i64 x.f2, .string x.f3, .int .i64 x.f4] (fun _ => True) (fun _ => False) rfl rfl (k26_mkM _ _ _ x) (fun k hk => hk.elim) (fun _ _ => trivial) (Kd.R_below HW'.out.2.2.2.2.2 HB3.out) (Below.refl _ _) (Nat.le_trans HSW.out.2.1 HB3.out.size) (by rw [HLI.out]; omega) ?_; intro v1 w7 hR7 hB7 hG7 _; obtain ⟨A7, c7, e⟩ := Kd.R_slice hR7; rw [List.length_append, HLI.out, List.length_singleton] at e; subst e; have HR7 := Aside0.mk (And.intro hR7 (And.intro hB7 hG7)); clear hR7 hB7 hG7)
        go_roundg (n - (i + 1))
        case measure => omega
        case rel =>
          obtain ⟨hR7, hB7, hG7⟩ := HR7.out
          have hR3 := Kd.R_below HW'.out.2.2.2.2.2 HB3.out
          have hown : ∀ b, (Value.slice R m ro).ownBlock = some b → sz ≤ b := fun b hb => by
            rcases Kd.R_base2 hR3 with h | ⟨b', h, hle⟩
            · rw [h] at hb; cases hb
            · rw [h] at hb; cases hb; exact hle
          have hq3 := blk_below HW'.out.2.2.1 HB3.out
          have hm3 := (HB3.out.block mb (blk_lt HW'.out.2.2.2.2.1)).trans HW'.out.2.2.2.2.1
          have hne : some gq ≠ (Value.slice R m ro).ownBlock := Kd.R_ne hR3 hq3 (by decide)
          have hnem : some mb ≠ (Value.slice R m ro).ownBlock := fun e => by
            have := hown mb e.symm
            have := blk_lt HMB.out
            have := HSW.out.1
            omega
          have hT7 : ToldM gq mb w w7 := ⟨Nat.le_trans HW'.out.2.1.size (Nat.le_trans HB3.out.size hG7.size), fun b hb h1 h2 => (hG7.block b (Nat.lt_of_lt_of_le hb (Nat.le_trans HW'.out.2.1.size HB3.out.size)) (fun e => by have := hown b e.symm; have := HSW.out.1; omega)).trans ((HB3.out.block b (Nat.lt_of_lt_of_le hb HW'.out.2.1.size)).trans (HW'.out.2.1.block b hb h1 h2))⟩
          have hR1 : k26.R 26 w7 base (fun b => b < sz) (.slice O1 0 o1) [] := Kd.R_move (Kd.R_below HW'.out.2.2.2.1 HB3.out) (fun b hb => hG7.block b (Nat.lt_of_lt_of_le hb (Nat.le_trans HSW.out.2.1 HB3.out.size)) (fun e => by have := hown b e.symm; have hb' : b < sz := hb; omega))
          refine ⟨i + 1, c7, m + 1, A7, by omega, by omega, by go_num, rfl, Or.inr ⟨by omega, by have := HMM.out; omega, ⟨⟨(HW'.out.1.trans (HB3.out.mono (Nat.le_trans HSZ.out HW'.out.2.1.size))).trans (hB7.mono (Nat.le_trans HSZ.out HSW.out.1)), hT7, cl', (hG7.block mb (blk_lt hm3) hnem).trans hm3⟩, O1, o1, sz, ⟨HSW.out.1, Nat.le_trans HSW.out.2.1 (Nat.le_trans HB3.out.size hG7.size), HSW.out.2.2⟩, ⟨blk_grown hq3 hG7 hne, hR1⟩, ?_⟩⟩⟩
          rw [show i + 1 - h0 = m + 1 by have := HMM.out; omega] at HTK ⊢
          rw [HTK.out]
          exact hR7
      · have d0 : ((i : Int) < (n : Int)) = False := eq_false (by omega)
        obtain rfl : i = n := by omega
        have hrl' : i - h0 = rest.length := by have := HNL.out; omega
        rw [hrl'] at HW' ⊢
        have hRx := HW'.out.2.2.2.2.2
        rw [List.take_length] at hRx
        have HT := Aside0.mk (HTU.out wr R O1 ro o1 cl' HW'.out.2.1 HW'.out.2.2.1 HW'.out.2.2.2.2.1 (Kd.R_lower hRx HSW.out.1) (Kd.R_mono HW'.out.2.2.2.1 (fun _ _ => trivial)))
        clear hRx hrl'
        go_upto_region 17 with (go_at_call 17; refine HT.out.mono ?_; rintro e w4 ⟨rfl, O4, o4, u4, hq4, hR4, hB4, hT4⟩; have H4 := Aside0.mk (And.intro hq4 (And.intro hR4 (And.intro hB4 hT4))); clear hq4 hR4 hB4 hT4)
        have cq2 : w4.cell? ⟨gq, 2, none⟩ = some (.slice none 0 0) := (blk_cell H4.out.1 2).trans rfl
        go_wp2
        have h4 := H4.out
        rw [Nat.zero_add, List.nil_append] at h4
        refine ⟨rfl, .tuple #[], (by simp [results, Try.results14, go_sem]), rfl, u4, O4, o4, h4.1, h4.2.1, HW'.out.1.trans h4.2.2.1, ⟨Nat.le_trans HW'.out.2.1.size h4.2.2.2.size, fun b hb h1 h2 => (h4.2.2.2.block b (Nat.lt_of_lt_of_le hb HW'.out.2.1.size) h1 (fun e => ?_)).trans (HW'.out.2.1.block b hb h1 h2)⟩⟩
        rw [HSW.out.2.2] at e
        cases e
end Go.Proofs.Ytlbiideeljbhlaa.Pr
