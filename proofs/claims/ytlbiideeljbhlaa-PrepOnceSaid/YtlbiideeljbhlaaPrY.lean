/- The law on one definition holds of arguments that were read. Condition: rows within the form's reach. -/
import Derived.Test.YtlbiideeljbhlaaPrW
set_option linter.unusedSimpArgs false
set_option linter.unusedVariables false
namespace Go.Proofs.Ytlbiideeljbhlaa.Pr
open Go.RowKit Go.BigFrame Go.Proofs.YtlbiideeljbhlaaW.PrintWords Go.Proofs.YtlbiideeljbhlaaW.PrintLast Go.Proofs.YtlbiideeljbhlaaW.PrintMore Go.Proofs.Ytlbiideeljbhlaa.PPrepSkips

theorem list_bytes {s t : ByteArray} (h : s.toList = t.toList) : s = t := by
  rw [ByteArray.toList_eq, ByteArray.toList_eq] at h
  cases s; cases t
  exact congrArg _ (Array.toList_inj.1 h)
theorem zzS_list : zzS.toList = [122, 122] := by simp [go_sem]

set_option maxHeartbeats 4000000 in
set_option maxRecDepth 100000 in
theorem once_walk (w : World) (B A : Option Addr) (nb cb n c : Nat) (body l : List S26) (hB : k26.C w B body.length body) (hnb : nb = body.length) (hcb : nb ≤ cb) (hA : k26.C w A l.length l) (hn : n = l.length) (hc : n ≤ c) (hn2 : n ≤ 2932031007402) :
    Calls Try.prog 5 #[.slice B nb cb, .slice A n c] w fun e w' => e = .returned (.bool true) ∧ Below w.heap.size w w' := by
  obtain ⟨r, hr, hrt⟩ := right_law l (by omega)
  have HR := Aside0.mk (spinneretref02_Right.calls _ A c l r w hA (by omega) hr)
  rw [← hn] at HR
  obtain ⟨pb, po, HP⟩ := tok_cells hA
  obtain ⟨qb, qo, HQ⟩ := tok_cells hB
  have HPP := Aside0.mk HP
  have HQQ := Aside0.mk HQ
  have HA := Aside0.mk hA
  have HBO := Aside0.mk hB
  have HN := Aside0.mk hn
  have HNB := Aside0.mk hnb
  have HRT := Aside0.mk hrt
  have HI := Aside0.mk (fun x s W => is_walk x s W)
  clear HP HQ hA hB hn hnb hr hrt
  cases r with
  | false =>
    go_enter Try.func5, Try.ntmps5
    go_wp2_with (go_at_call 7; refine HR.out.mono ?_; rintro e w1 ⟨rfl, hD⟩; have HB1 := Aside0.mk hD.below; clear hD)
    go_ret
    exact ⟨rfl, HB1.out⟩
  | true =>
    go_enter Try.func5, Try.ntmps5
    go_upto_region 2 with (go_at_call 7; refine HR.out.mono ?_; rintro e w1 ⟨rfl, hD⟩; have HB1 := Aside0.mk hD.below; clear hD)
    by_cases hbig : n > 500
    · have d1 : ((n : Int) > (500 : Int)) = True := eq_true (by omega)
      have d2 : ((500 : Int) < (n : Int)) = True := eq_true (by omega)
      go_wp2
      go_ret
      exact ⟨rfl, HB1.out⟩
    have d1 : ((n : Int) > (500 : Int)) = False := eq_false (by omega)
    have d2 : ((500 : Int) < (n : Int)) = False := eq_false (by omega)
    by_cases hbig2 : nb > 15
    · have d3 : ((nb : Int) > (15 : Int)) = True := eq_true (by omega)
      have d4 : ((15 : Int) < (nb : Int)) = True := eq_true (by omega)
      go_wp2
      go_ret
      exact ⟨rfl, HB1.out⟩
    have d3 : ((nb : Int) > (15 : Int)) = False := eq_false (by omega)
    have d4 : ((15 : Int) < (nb : Int)) = False := eq_false (by omega)
    obtain ⟨l', en, hl, hne, hen⟩ := HRT.out trivial
    clear hn2
    have HL := Aside0.mk (And.intro hl (And.intro hne hen))
    clear hl hne hen HRT HR
    go_upto_region 5 with fail
    clear d1 d2 d3 d4
    refine wp_world (fun W => Aside0 (Below w.heap.size w W ∧ k26.R 26 W w.heap.size (fun _ => True) (.slice (some ⟨w1.heap.size, 0, none⟩) 3 3) [hT, dT, zT])) ⟨below_alloc HB1.out _, R_lit3 w1 w.heap.size hT dT zT HB1.out.size⟩ (fun W0 H0 => ?_)
    generalize hO : (some ⟨w1.heap.size, 0, none⟩ : Option Addr) = O0 at H0 ⊢
    clear hO HB1
    go_upto_region 6 with fail
    go_loopg [7, 6] nb (fun gg s7 s6 wz => ∃ (i o : Nat) (O : Option Addr), i ≤ nb ∧ nb - i ≤ gg ∧ s7 = .int .i64 i ∧ s6 = .slice O (3 + i) o ∧ Aside0 (Below w.heap.size w wz ∧ k26.R 26 wz w.heap.size (fun _ => True) (.slice O (3 + i) o) ([hT, dT, zT] ++ (body.take i).map (lin 1)) ∧ ∀ j (hj : j < body.length), j < i → isT 4 body[j] ⟨#[40]⟩ = false ∧ body[j].f0 ≠ 0 ∧ ¬ (body[j].f0 = 1 ∧ body[j].f3 = zzS)))
    case atStart => exact ⟨0, 3, O0, Nat.zero_le _, Nat.le_of_eq (Nat.sub_zero _), rfl, rfl, ⟨H0.out.1, by simpa using H0.out.2, fun j _ h => absurd h (Nat.not_lt_zero _)⟩⟩
    case round =>
      clear H0
      obtain ⟨i, o, O, hi, hg, rfl, rfl, HW⟩ := hrel
      by_cases hlt : i < nb
      · have d0 : ((i : Int) < (nb : Int)) = True := eq_true (by omega)
        have hil : i < body.length := by have := HNB.out; omega
        obtain ⟨rfl, q0, q1, q2, q3, q4⟩ := HQQ.out i hil
        have HTK : Aside0 (body.take (i + 1) = body.take i ++ [body[i]]) := ⟨by rw [List.take_add_one, List.getElem?_eq_getElem hil]; rfl⟩
        have HST : Aside0 (isT 4 body[i] ⟨#[40]⟩ = false → body[i].f0 ≠ 0 → ¬ (body[i].f0 = 1 ∧ body[i].f3 = zzS) → ∀ j (hj : j < body.length), j < i + 1 → isT 4 body[j] ⟨#[40]⟩ = false ∧ body[j].f0 ≠ 0 ∧ ¬ (body[j].f0 = 1 ∧ body[j].f3 = zzS)) := ⟨fun h1 h2 h3 j hj hji => by
          by_cases e : j = i
          · subst e; exact ⟨h1, h2, h3⟩
          · exact HW.out.2.2 j hj (by omega)⟩
        have p0 := pw_cell_below HW.out.1 q0
        have p1 := pw_cell_below HW.out.1 q1
        have p2 := pw_cell_below HW.out.1 q2
        have p3 := pw_cell_below HW.out.1 q3
        have p4 := pw_cell_below HW.out.1 q4
        generalize body[i] = x at p0 p1 p2 p3 p4 HST HTK
        obtain ⟨b1, hb1⟩ : ∃ b1, b1 = isT 4 x ⟨#[35]⟩ := ⟨_, rfl⟩
        obtain ⟨b2, hb2⟩ : ∃ b2, b2 = isT 4 x ⟨#[40]⟩ := ⟨_, rfl⟩
        have HM1 := Aside0.mk (HI.out x ⟨#[35]⟩)
        have HM2 := Aside0.mk (HI.out x ⟨#[40]⟩)
        rw [← hb1] at HM1
        rw [← hb2] at HM2 HST
        clear q0 q1 q2 q3 q4 hil hb1 hb2
        go_upto_region 9 with (go_at_call 8; refine (HM1.out _).mono ?_; rintro e w2 ⟨rfl, hB⟩; have HB2 := Aside0.mk hB; clear hB)
        replace p0 := pw_cell_below HB2.out p0
        replace p1 := pw_cell_below HB2.out p1
        replace p2 := pw_cell_below HB2.out p2
        replace p3 := pw_cell_below HB2.out p3
        replace p4 := pw_cell_below HB2.out p4
        have H2 := Aside0.mk (And.intro (below_then HW.out.1 HW.out.1.size HB2.out) (Kd.R_below HW.out.2.1 HB2.out))
        clear HB2 HW
        go_upto_region 10 with (go_at_call 8; refine (HM2.out _).mono ?_; rintro e w3 ⟨rfl, hB⟩; have HB3 := Aside0.mk hB; clear hB)
        replace p0 := pw_cell_below HB3.out p0
        replace p1 := pw_cell_below HB3.out p1
        replace p2 := pw_cell_below HB3.out p2
        replace p3 := pw_cell_below HB3.out p3
        replace p4 := pw_cell_below HB3.out p4
        have H3 := Aside0.mk (And.intro (below_then H2.out.1 H2.out.1.size HB3.out) (Kd.R_below H2.out.2 HB3.out))
        clear H2 HB3
        cases b1 with
        | true =>
          go_wp2
          go_ret
          exact ⟨rfl, H3.out.1⟩
        | false =>
          cases b2 with
          | true =>
            go_wp2
            go_ret
            exact ⟨rfl, H3.out.1⟩
          | false =>
            by_cases h0 : x.f0 = 0
            · have e0 : (x.f0 == (0 : Int)) = true := by rw [h0]; rfl
              clear h0
              go_wp2
              go_ret
              exact ⟨rfl, H3.out.1⟩
            have e0 : (x.f0 == (0 : Int)) = false := by simpa using h0
            have hsp : ((x.f0 == (1 : Int)) = true ∧ (x.f3.toList == [122, 122]) = true) ∨ (((x.f0 == (1 : Int)) = true ∧ (x.f3.toList == [122, 122]) = false) ∨ (x.f0 == (1 : Int)) = false) := by
              cases h1 : (x.f0 == (1 : Int)) <;> cases h2 : (x.f3.toList == [122, 122]) <;> simp
            have HGD : Aside0 (((x.f0 == (1 : Int)) = true → (x.f3.toList == [122, 122]) = false) → ∀ j (hj : j < body.length), j < i + 1 → isT 4 body[j] ⟨#[40]⟩ = false ∧ body[j].f0 ≠ 0 ∧ ¬ (body[j].f0 = 1 ∧ body[j].f3 = zzS)) := ⟨fun h => HST.out rfl h0 (by
              rintro ⟨h1, h2⟩
              have := h (by rw [h1]; rfl)
              rw [h2, zzS_list] at this
              simp at this)⟩
            clear h0 HST
            rcases hsp with ⟨e1, e2⟩ | hsp
            · go_wp2
              go_ret
              exact ⟨rfl, H3.out.1⟩
            have HGD2 := Aside0.mk (HGD.out (fun h => by rcases hsp with ⟨-, e⟩ | e; exact e; rw [e] at h; cases h))
            have HUP : True := trivial
            rcases hsp with ⟨e1, e2⟩ | e1
            all_goals (
              go_upto_region 13 with fail
              obtain ⟨g10, hg10⟩ : ∃ g10, g10 = w3.heap.size := ⟨_, rfl⟩
              rw [← hg10]
              refine wp_world (fun W => Aside0 (Below w.heap.size w W ∧ W.heap[g10]? = some (.cells (tokC x) 26 (0, 0)) ∧ k26.R 26 W w.heap.size (fun k => k ≠ g10) (.slice O (3 + i) o) ([hT, dT, zT] ++ (body.take i).map (lin 1)) ∧ w.heap.size ≤ g10)) ⟨below_alloc H3.out.1 _, by rw [hg10]; exact blk_new _ _, Kd.R_mono (Kd.R_below (Kd.R_bound H3.out.2) (below_alloc (Below.refl _ _) _)) (fun k hk e => by have := hk.2.2.1; omega), by rw [hg10]; exact H3.out.1.size⟩ (fun W4 H4 => ?_)
              clear hg10 H3 p0 p1 p2 p3 p4
              have x2 : W4.cell? ⟨g10, 2, none⟩ = some (.int .i64 x.f2) := (blk_cell H4.out.2.1 2).trans rfl
              have y2 := blk_frozen H4.out.2.1 2
              go_upto_region 14 with fail
              refine wp_world (fun W => Aside0 (Below w.heap.size w W ∧ W.heap[g10]? = some (.cells (tokC (lin 1 x)) 26 (0, 0)) ∧ k26.R 26 W w.heap.size (fun k => k ≠ g10) (.slice O (3 + i) o) ([hT, dT, zT] ++ (body.take i).map (lin 1)))) ⟨H4.out.1.setCell (p := ⟨g10, 2, none⟩) H4.out.2.2.2 _, blk_set H4.out.2.1 2 (.int .i64 1), Kd.R_far H4.out.2.2.1 (fun k hk => hk) _⟩ (fun W5 H5 => ?_)
              clear x2 y2 H4
              have c0 : W5.cell? ⟨g10, 0, none⟩ = some (.int .i64 x.f0) := (blk_cell H5.out.2.1 0).trans rfl
              have c1 : W5.cell? ⟨g10, 1, none⟩ = some (.int .i64 x.f1) := (blk_cell H5.out.2.1 1).trans rfl
              have c2 : W5.cell? ⟨g10, 2, none⟩ = some (.int .i64 1) := (blk_cell H5.out.2.1 2).trans rfl
              have c3 : W5.cell? ⟨g10, 3, none⟩ = some (.string x.f3) := (blk_cell H5.out.2.1 3).trans rfl
              have c4 : W5.cell? ⟨g10, 4, none⟩ = some (.int .i64 x.f4) := (blk_cell H5.out.2.1 4).trans rfl
              have HLI := Aside0.mk (show ([hT, dT, zT] ++ (body.take i).map (lin 1)).length = 3 + i by rw [List.length_append, List.length_map, List.length_take, Nat.min_eq_left (by have := HNB.out; omega)]; rfl)
              go_wp2_with (at_builtin; refine Kd.R_append k26 (w0 := w) (W := W5) w.heap.size rfl (.tmp 86) (.tmp 88) 22 26 (.agg #[(.int .i64 0), (.int .i64 0), (.int .i64 0), (.string ⟨#[]⟩), (.int .i64 0)]) 48 rfl Try.underlying22 info26 rfl k26_sz (by decide) (.slice O (3 + i) o) ([hT, dT, zT] ++ (body.take i).map (lin 1)) (lin 1 x) [.int .i64 x.f0, .int .i64 x.f1, .int .i64 1, .string x.f3, .int .i64 x.f4] (fun _ => True) (fun _ => False) rfl rfl (k26_mkM _ _ _ (lin 1 x)) (fun k hk => hk.elim) (fun _ _ => trivial) (Kd.R_mono H5.out.2.2 (fun _ _ => trivial)) H5.out.1 H5.out.1.size (by rw [HLI.out]; omega) ?_; intro v1 w7 hR7 hB7 _ _; obtain ⟨A7, c7, e⟩ := Kd.R_slice hR7; rw [List.length_append, HLI.out, List.length_singleton] at e; subst e; have HR7 := Aside0.mk (And.intro hR7 hB7); clear hR7 hB7)
              go_roundg (nb - (i + 1))
              case measure => omega
              case rel => exact ⟨i + 1, c7, A7, by omega, by omega, by go_num, rfl, ⟨HR7.out.2, by rw [HTK.out, List.map_append, ← List.append_assoc]; exact HR7.out.1, HGD2.out⟩⟩)
      · have d0 : ((i : Int) < (nb : Int)) = False := eq_false (by omega)
        obtain rfl : i = nb := by omega
        have hD : body.take i = body := List.take_of_length_le (by have := HNB.out; omega)
        have hW1 := HW.out.2.1
        rw [hD] at hW1
        have HALL : Aside0 (∀ x, x ∈ body.map (lin 1) → x.f2 = 1 ∧ isT 4 x ⟨#[40]⟩ = false ∧ ¬ (x.f0 = 1 ∧ x.f3 = zzS)) := ⟨fun x hx => by
          obtain ⟨y, hy, rfl⟩ := List.mem_map.1 hx
          obtain ⟨j, hj, rfl⟩ := List.mem_iff_getElem.1 hy
          have h := HW.out.2.2 j hj (by have := HNB.out; omega)
          exact ⟨rfl, h.1, h.2.2⟩⟩
        have HALL0 : Aside0 (∀ x, x ∈ body.map (lin 1) → x.f0 ≠ 0) := ⟨fun x hx => by
          obtain ⟨y, hy, rfl⟩ := List.mem_map.1 hx
          obtain ⟨j, hj, rfl⟩ := List.mem_iff_getElem.1 hy
          exact (HW.out.2.2 j hj (by have := HNB.out; omega)).2.1⟩
        obtain ⟨D, hDD⟩ : ∃ D, D = [hT, dT, zT] ++ body.map (lin 1) := ⟨_, rfl⟩
        rw [← hDD] at hW1
        have HDD := Aside0.mk hDD
        have HDL := Aside0.mk (show D.length = 3 + i by rw [hDD, List.length_append, List.length_map, ← HNB.out]; rfl)
        have HW1 := Aside0.mk (And.intro HW.out.1 hW1)
        clear hDD hW1 hD HW hi hg hlt
        obtain ⟨nb, hnbi⟩ : ∃ nb, nb = i := ⟨_, rfl⟩
        subst hnbi
        go_wp2
        go_loopg [12, 6, 11] n (fun gg s12 s6 s11 wz => ∃ (i o m q : Nat) (O P : Option Addr), i ≤ n ∧ n - i ≤ gg ∧ s12 = .int .i64 i ∧ s6 = .slice O (3 + nb + i) o ∧ s11 = .slice P m q ∧ Aside0 (Below w.heap.size w wz ∧ k26.R 26 wz w.heap.size (fun _ => True) (.slice O (3 + nb + i) o) (D ++ (l.take i).map (lin 2)) ∧ k26.R 26 wz w.heap.size (fun _ => True) (.slice P m q) ((l.take i).flatMap (plP body)) ∧ Apart (.slice O (3 + nb + i) o) (.slice P m q) ∧ ∀ j (hj : j < l.length), j < i → isT 4 l[j] ⟨#[35]⟩ = false))
        case atStart => exact ⟨0, o, 0, 0, O, none, Nat.zero_le _, Nat.le_of_eq (Nat.sub_zero _), rfl, rfl, rfl, ⟨HW1.out.1, by simpa using HW1.out.2, Kd.R_nil _ _ _ _ _, fun k _ h => by simp [Value.ownBlock] at h, fun j _ h => absurd h (Nat.not_lt_zero _)⟩⟩
        case round =>
          clear HW1
          obtain ⟨i, o, m, q, O, P, hi, hg, rfl, rfl, rfl, HW⟩ := hrel
          by_cases hlt : i < n
          · have d0 : ((i : Int) < (n : Int)) = True := eq_true (by omega)
            have hil : i < l.length := by have := HN.out; omega
            obtain ⟨rfl, q0, q1, q2, q3, q4⟩ := HPP.out i hil
            have HTK : Aside0 (l.take (i + 1) = l.take i ++ [l[i]]) := ⟨by rw [List.take_add_one, List.getElem?_eq_getElem hil]; rfl⟩
            have HST : Aside0 (isT 4 l[i] ⟨#[35]⟩ = false → ∀ j (hj : j < l.length), j < i + 1 → isT 4 l[j] ⟨#[35]⟩ = false) := ⟨fun h1 j hj hji => by
              by_cases e : j = i
              · subst e; exact h1
              · exact HW.out.2.2.2.2 j hj (by omega)⟩
            have p0 := pw_cell_below HW.out.1 q0
            have p1 := pw_cell_below HW.out.1 q1
            have p2 := pw_cell_below HW.out.1 q2
            have p3 := pw_cell_below HW.out.1 q3
            have p4 := pw_cell_below HW.out.1 q4
            generalize l[i] = x at p0 p1 p2 p3 p4 HST HTK
            obtain ⟨b1, hb1⟩ : ∃ b1, b1 = isT 4 x ⟨#[35]⟩ := ⟨_, rfl⟩
            have HM1 : Aside0 (∀ W, Calls Try.prog 8 #[.agg #[.int .i64 x.f0, .int .i64 x.f1, .int .i64 2, .string x.f3, .int .i64 x.f4], .string ⟨#[35]⟩] W fun e w' => e = .returned (.bool b1) ∧ Below W.heap.size W w') := ⟨fun W => by rw [hb1]; exact HI.out (lin 2 x) ⟨#[35]⟩ W⟩
            rw [← hb1] at HST
            have HMM : Aside0 (m ≤ 8000) := ⟨by
              have h := (Kd.R_reads' HW.out.2.2.1).1
              have h2 := pl_len body 16 (by have := HNB.out; omega) (by omega) (l.take i)
              rw [List.length_take] at h2
              have h3 : min i l.length * 16 ≤ 500 * 16 := Nat.mul_le_mul_right _ (by omega)
              omega⟩
            clear q0 q1 q2 q3 q4 hil hb1
            go_upto_region 20 with fail
            obtain ⟨g13, hg13⟩ : ∃ g13, g13 = wr.heap.size := ⟨_, rfl⟩
            rw [← hg13]
            refine wp_world (fun W => Aside0 (Below w.heap.size w W ∧ W.heap[g13]? = some (.cells (tokC x) 26 (0, 0)) ∧ k26.R 26 W w.heap.size (fun k => k ≠ g13) (.slice O (3 + nb + i) o) (D ++ (l.take i).map (lin 2)) ∧ k26.R 26 W w.heap.size (fun k => k ≠ g13) (.slice P m q) ((l.take i).flatMap (plP body)) ∧ w.heap.size ≤ g13)) ⟨below_alloc HW.out.1 _, by rw [hg13]; exact blk_new _ _, Kd.R_mono (Kd.R_below (Kd.R_bound HW.out.2.1) (below_alloc (Below.refl _ _) _)) (fun k hk e => by have := hk.2.2.1; omega), Kd.R_mono (Kd.R_below (Kd.R_bound HW.out.2.2.1) (below_alloc (Below.refl _ _) _)) (fun k hk e => by have := hk.2.2.1; omega), by rw [hg13]; exact HW.out.1.size⟩ (fun W4 H4 => ?_)
            have HAP := Aside0.mk HW.out.2.2.2.1
            clear hg13 HW p0 p1 p2 p3 p4
            have x2 : W4.cell? ⟨g13, 2, none⟩ = some (.int .i64 x.f2) := (blk_cell H4.out.2.1 2).trans rfl
            have y2 := blk_frozen H4.out.2.1 2
            go_upto_region 21 with fail
            refine wp_world (fun W => Aside0 (Below w.heap.size w W ∧ W.heap[g13]? = some (.cells (tokC (lin 2 x)) 26 (0, 0)) ∧ k26.R 26 W w.heap.size (fun k => k ≠ g13) (.slice O (3 + nb + i) o) (D ++ (l.take i).map (lin 2)) ∧ k26.R 26 W w.heap.size (fun k => k ≠ g13) (.slice P m q) ((l.take i).flatMap (plP body)))) ⟨H4.out.1.setCell (p := ⟨g13, 2, none⟩) H4.out.2.2.2.2 _, blk_set H4.out.2.1 2 (.int .i64 2), Kd.R_far H4.out.2.2.1 (fun k hk => hk) _, Kd.R_far H4.out.2.2.2.1 (fun k hk => hk) _⟩ (fun W5 H5 => ?_)
            clear x2 y2 H4
            have c0 : W5.cell? ⟨g13, 0, none⟩ = some (.int .i64 x.f0) := (blk_cell H5.out.2.1 0).trans rfl
            have c1 : W5.cell? ⟨g13, 1, none⟩ = some (.int .i64 x.f1) := (blk_cell H5.out.2.1 1).trans rfl
            have c2 : W5.cell? ⟨g13, 2, none⟩ = some (.int .i64 2) := (blk_cell H5.out.2.1 2).trans rfl
            have c3 : W5.cell? ⟨g13, 3, none⟩ = some (.string x.f3) := (blk_cell H5.out.2.1 3).trans rfl
            have c4 : W5.cell? ⟨g13, 4, none⟩ = some (.int .i64 x.f4) := (blk_cell H5.out.2.1 4).trans rfl
            go_upto_region 22 with (go_at_call 8; refine (HM1.out _).mono ?_; rintro e w2 ⟨rfl, hB⟩; have HB2 := Aside0.mk hB; clear hB)
            have H6 := Aside0.mk (And.intro (below_then H5.out.1 H5.out.1.size HB2.out) (And.intro (blk_below H5.out.2.1 HB2.out) (And.intro (Kd.R_below H5.out.2.2.1 HB2.out) (Kd.R_below H5.out.2.2.2 HB2.out))))
            clear HB2 H5 c0 c1 c2 c3 c4 HM1
            cases b1 with
            | true =>
              go_wp2
              go_ret
              exact ⟨rfl, H6.out.1⟩
            | false =>
            have c0 : w2.cell? ⟨g13, 0, none⟩ = some (.int .i64 x.f0) := (blk_cell H6.out.2.1 0).trans rfl
            have c1 : w2.cell? ⟨g13, 1, none⟩ = some (.int .i64 x.f1) := (blk_cell H6.out.2.1 1).trans rfl
            have c2 : w2.cell? ⟨g13, 2, none⟩ = some (.int .i64 2) := (blk_cell H6.out.2.1 2).trans rfl
            have c3 : w2.cell? ⟨g13, 3, none⟩ = some (.string x.f3) := (blk_cell H6.out.2.1 3).trans rfl
            have c4 : w2.cell? ⟨g13, 4, none⟩ = some (.int .i64 x.f4) := (blk_cell H6.out.2.1 4).trans rfl
            have HLI := Aside0.mk (show (D ++ (l.take i).map (lin 2)).length = 3 + nb + i by rw [List.length_append, List.length_map, List.length_take, HDL.out, Nat.min_eq_left (by have := HN.out; omega)])
            have HN13 := Aside0.mk (Kd.R_away H6.out.2.2.1 (fun k hk => hk))
            go_upto_region 25 with (at_builtin; refine Kd.R_append k26 (w0 := w) (W := w2) w.heap.size rfl (.tmp 104) (.tmp 106) 22 26 (.agg #[(.int .i64 0), (.int .i64 0), (.int .i64 0), (.string ⟨#[]⟩), (.int .i64 0)]) 48 rfl Try.underlying22 info26 rfl k26_sz (by decide) (.slice O (3 + nb + i) o) (D ++ (l.take i).map (lin 2)) (lin 2 x) [.int .i64 x.f0, .int .i64 x.f1, .int .i64 2, .string x.f3, .int .i64 x.f4] (fun _ => True) (fun _ => False) rfl rfl (k26_mkM _ _ _ (lin 2 x)) (fun k hk => hk.elim) (fun _ _ => trivial) (Kd.R_mono H6.out.2.2.1 (fun _ _ => trivial)) H6.out.1 H6.out.1.size (by rw [HLI.out]; omega) ?_; intro v1 w7 hR7 hB7 hG7 hA7; obtain ⟨A7, c7, e⟩ := Kd.R_slice hR7; rw [List.length_append, HLI.out, List.length_singleton] at e; subst e; have HR7 := Aside0.mk (And.intro hR7 (And.intro hB7 (And.intro hG7 hA7))); clear hR7 hB7 hG7 hA7)
            have H7 : Aside0 (Below w.heap.size w w7 ∧ w7.heap[g13]? = some (.cells (tokC (lin 2 x)) 26 (0, 0)) ∧ k26.R 26 w7 w.heap.size (fun _ => True) (.slice A7 (3 + nb + i + 1) c7) (D ++ (l.take i).map (lin 2) ++ [lin 2 x]) ∧ k26.R 26 w7 w.heap.size (fun _ => True) (.slice P m q) ((l.take i).flatMap (plP body)) ∧ Apart (.slice A7 (3 + nb + i + 1) c7) (.slice P m q)) := ⟨HR7.out.2.1, blk_grown H6.out.2.1 HR7.out.2.2.1 HN13.out, HR7.out.1, Kd.R_grown2 (Kd.R_mono H6.out.2.2.2 (fun _ _ => trivial)) k26_E HR7.out.2.2.1 HAP.out, Apart.left HAP.out H6.out.2.2.2 HR7.out.2.2.2⟩
            clear c0 c1 c2 c3 c4 HN13 HR7 H6 HAP
            have c0 : w7.cell? ⟨g13, 0, none⟩ = some (.int .i64 x.f0) := (blk_cell H7.out.2.1 0).trans rfl
            have c1 : w7.cell? ⟨g13, 1, none⟩ = some (.int .i64 x.f1) := (blk_cell H7.out.2.1 1).trans rfl
            have c2 : w7.cell? ⟨g13, 2, none⟩ = some (.int .i64 2) := (blk_cell H7.out.2.1 2).trans rfl
            have c3 : w7.cell? ⟨g13, 3, none⟩ = some (.string x.f3) := (blk_cell H7.out.2.1 3).trans rfl
            have c4 : w7.cell? ⟨g13, 4, none⟩ = some (.int .i64 x.f4) := (blk_cell H7.out.2.1 4).trans rfl
            have HLP := Aside0.mk (Kd.R_reads' H7.out.2.2.2.1).1
            have hsp : ((x.f0 == (1 : Int)) = true ∧ (x.f3.toList == [122, 122]) = true ∧ plP body x = body) ∨ (((x.f0 == (1 : Int)) = true ∧ (x.f3.toList == [122, 122]) = false) ∨ (x.f0 == (1 : Int)) = false) ∧ plP body x = [lin 2 x] := by
              unfold plP
              by_cases h : x.f0 = 1 ∧ x.f3 = zzS
              · rw [if_pos h]
                refine Or.inl ⟨by rw [h.1]; rfl, by rw [h.2, zzS_list]; rfl, rfl⟩
              · rw [if_neg h]
                refine Or.inr ⟨?_, rfl⟩
                by_cases h1 : x.f0 = 1
                · refine Or.inl ⟨by rw [h1]; rfl, ?_⟩
                  cases h2 : (x.f3.toList == [122, 122])
                  · rfl
                  · refine absurd ⟨h1, ?_⟩ h
                    have h3 : x.f3.toList = zzS.toList := by rw [zzS_list]; exact eq_of_beq h2
                    exact list_bytes h3
                · exact Or.inr (by simpa using h1)
            rcases hsp with ⟨e1, e2, hpl⟩ | ⟨hsp, hpl⟩
            · have HPL := Aside0.mk hpl
              clear hpl
              go_wp2_with (at_builtin; refine Kd.R_append_rows k26 (Rr := k26.K w7) (w0 := w) (W := w7) w.heap.size rfl (.tmp 116) (.tmp 117) 22 26 (.agg #[(.int .i64 0), (.int .i64 0), (.int .i64 0), (.string ⟨#[]⟩), (.int .i64 0)]) 48 rfl Try.underlying22 info26 rfl k26_sz (by decide) (.slice P m q) ((l.take i).flatMap (plP body)) body B nb cb (fun _ => True) (fun _ => False) rfl rfl H7.out.2.2.2.1 (by have h := Kd.C_below HBO.out H7.out.1; rw [← HNB.out] at h; exact h) (fun y cs hk => by have e := k26_open hk; subst e; exact k26_mkM _ _ _ y) (fun k hk => hk.elim) (fun _ _ => trivial) H7.out.1 H7.out.1.size (by rw [← HLP.out]; have := HMM.out; omega) ?_; intro v1 w8 hR8 hB8 hG8 hA8; obtain ⟨A8, c8, e⟩ := Kd.R_slice hR8; obtain ⟨m8, hm8⟩ : ∃ m8, m8 = (List.flatMap (plP body) (List.take i l) ++ body).length := ⟨_, rfl⟩; rw [← hm8] at e; clear hm8; subst e; have HR8 := Aside0.mk (And.intro hR8 (And.intro hB8 (And.intro hG8 hA8))); clear hR8 hB8 hG8 hA8)
              go_roundg (n - (i + 1))
              case measure => omega
              case rel => exact ⟨i + 1, c7, _, c8, A7, A8, by omega, by omega, by go_num, rfl, rfl, ⟨HR8.out.2.1, by rw [HTK.out, List.map_append, ← List.append_assoc]; exact Kd.R_grown2 H7.out.2.2.1 k26_E HR8.out.2.2.1 H7.out.2.2.2.2.symm, by rw [HTK.out, List.flatMap_append, List.flatMap_cons, List.flatMap_nil, List.append_nil, HPL.out]; exact HR8.out.1, (Apart.left H7.out.2.2.2.2.symm H7.out.2.2.1 HR8.out.2.2.2).symm, HST.out trivial⟩⟩
            · have HPL := Aside0.mk hpl
              clear hpl
              rcases hsp with ⟨e1, e2⟩ | e1
              all_goals (
                go_wp2_with (at_builtin; refine Kd.R_append k26 (w0 := w) (W := w7) w.heap.size rfl (.tmp 119) (.tmp 121) 22 26 (.agg #[(.int .i64 0), (.int .i64 0), (.int .i64 0), (.string ⟨#[]⟩), (.int .i64 0)]) 48 rfl Try.underlying22 info26 rfl k26_sz (by decide) (.slice P m q) ((l.take i).flatMap (plP body)) (lin 2 x) [.int .i64 x.f0, .int .i64 x.f1, .int .i64 2, .string x.f3, .int .i64 x.f4] (fun _ => True) (fun _ => False) rfl rfl (k26_mkM _ _ _ (lin 2 x)) (fun k hk => hk.elim) (fun _ _ => trivial) H7.out.2.2.2.1 H7.out.1 H7.out.1.size (by rw [← HLP.out]; have := HMM.out; omega) ?_; intro v1 w8 hR8 hB8 hG8 hA8; obtain ⟨A8, c8, e⟩ := Kd.R_slice hR8; obtain ⟨m8, hm8⟩ : ∃ m8, m8 = (List.flatMap (plP body) (List.take i l) ++ [lin 2 x]).length := ⟨_, rfl⟩; rw [← hm8] at e; clear hm8; subst e; have HR8 := Aside0.mk (And.intro hR8 (And.intro hB8 (And.intro hG8 hA8))); clear hR8 hB8 hG8 hA8)
                go_roundg (n - (i + 1))
                case measure => omega
                case rel => exact ⟨i + 1, c7, _, c8, A7, A8, by omega, by omega, by go_num, rfl, rfl, ⟨HR8.out.2.1, by rw [HTK.out, List.map_append, ← List.append_assoc]; exact Kd.R_grown2 H7.out.2.2.1 k26_E HR8.out.2.2.1 H7.out.2.2.2.2.symm, by rw [HTK.out, List.flatMap_append, List.flatMap_cons, List.flatMap_nil, List.append_nil, HPL.out]; exact HR8.out.1, (Apart.left H7.out.2.2.2.2.symm H7.out.2.2.1 HR8.out.2.2.2).symm, HST.out trivial⟩⟩)
          · have d0 : ((i : Int) < (n : Int)) = False := eq_false (by omega)
            obtain rfl : i = n := by omega
            have hD : l.take i = l := List.take_of_length_le (by have := HN.out; omega)
            have hW1 := HW.out
            rw [hD] at hW1
            obtain ⟨hWB, hWO, hWP, hWA, hWH⟩ := hW1
            have hen := HL.out.2.2
            have hne := HL.out.2.1
            have hl := HL.out.1
            obtain ⟨n', hn'⟩ : ∃ n', n' = l'.length := ⟨_, rfl⟩
            have hin : i = n' + 1 := by rw [HN.out, hl, hn']; simp
            have hR2 : ∀ x, x ∈ l'.map (lin 2) → x.f2 = 2 ∧ isT 4 x ⟨#[35]⟩ = false := fun x hx => by
              obtain ⟨y, hy, rfl⟩ := List.mem_map.1 hx
              obtain ⟨j, hj, rfl⟩ := List.mem_iff_getElem.1 hy
              have hjl : j < l.length := by rw [hl, List.length_append]; omega
              have h := hWH j hjl (by rw [HN.out]; exact hjl)
              refine ⟨rfl, ?_⟩
              have e : l[j] = l'[j] := by
                simp only [hl]
                rw [List.getElem_append_left hj]
              rw [e] at h
              exact h
            have hAL := al_all body l' en hen
            rw [← hl] at hAL
            have hplen : (l.flatMap (plP body)).length ≤ 8000 := by
              have h2 := pl_len body 16 (by have := HNB.out; omega) (by omega) l
              have h3 : l.length * 16 ≤ 500 * 16 := Nat.mul_le_mul_right _ (by have := HN.out; omega)
              omega
            have hres : ((l'.map (lin 2)).flatMap (expT zzS (body.map (lin 1)))).length ≤ 8192 := by
              have h := hAL.1
              rw [List.length_append] at h
              omega
            obtain ⟨row, hrow⟩ : ∃ row, row = hT :: dT :: zT :: (body.map (lin 1) ++ l'.map (lin 2)) := ⟨_, rfl⟩
            obtain ⟨res, hresd⟩ : ∃ res, res = (l'.map (lin 2)).flatMap (expT zzS (body.map (lin 1))) := ⟨_, rfl⟩
            have hrl : row.length = 3 + nb + n' := by rw [hrow, hn', HNB.out]; simp; omega
            have hrow0 : ∀ x, x ∈ row → x.f0 ≠ 0 := fun x hx => by
              rw [hrow] at hx
              simp only [List.mem_cons, List.mem_append] at hx
              rcases hx with rfl | rfl | rfl | hx | hx
              · decide
              · decide
              · decide
              · exact HALL0.out x hx
              · obtain ⟨y, hy, rfl⟩ := List.mem_map.1 hx
                exact hne y hy
            have hDrow : D ++ l.map (lin 2) = row ++ [lin 2 en] := by rw [HDD.out, hl, hrow]; exact def_row body l' en
            rw [hDrow] at hWO
            have hWO' := Kd.R_reads' hWO
            have HMW : Aside0 (Calls Try.prog 9 #[.slice O (3 + nb + i) o] wr fun e w' => ∃ O' o', e = .returned (.tuple #[.slice O' (res.length + 1) o', .int .i64 0, .int .i64 0]) ∧ k26.R 26 w' wr.heap.size (fun _ => True) (.slice O' (res.length + 1) o') (res ++ [lin 2 en]) ∧ Below wr.heap.size wr w') := ⟨by
              have e1 : 3 + nb + i = (3 + nb + n') + 1 := by omega
              have hc1 := hWO'.2.1
              rw [e1] at hc1 ⊢
              exact macros_walkM wr O (3 + nb + n') o row (lin 2 en) res hWO'.2.2 hrl.symm (by omega) hc1 hrow0 hen (by rw [hresd]; exact hres) (by
                rw [hrow, hresd]
                refine does_once wr hT dT zT (body.map (lin 1)) (l'.map (lin 2)) (lin 2 en) (by rw [← hrow]; omega) (by simp [isT]) rfl rfl rfl rfl rfl rfl rfl HALL.out hR2 (by rw [List.length_map]; omega) hres (by rw [List.length_map, ← HNB.out]; omega))⟩
            rw [← hresd] at hAL
            have HSM : Aside0 (∀ W, Below wr.heap.size wr W → ∀ (O' : Option Addr) (o' : Nat), k26.R 26 W wr.heap.size (fun _ => True) (.slice O' (res.length + 1) o') (res ++ [lin 2 en]) → Calls Try.prog 10 #[.slice O' (res.length + 1) o', .slice P m q, .bool true] W fun e w' => e = .returned (.bool true) ∧ Drawn0 W w') := ⟨fun W hb O' o' hR => by
              have hrd := Kd.R_reads' hR
              have hpd := Kd.R_reads' (Kd.R_below hWP hb)
              have h := same_walk W O' P o' q (res ++ [lin 2 en]) (l.flatMap (plP body)) true hrd.2.2 (by rw [← hrd.1]; exact hrd.2.1) hpd.2.2 (by rw [← hpd.1]; exact hpd.2.1) hAL.1 (by rw [hAL.1]; omega) hAL.2
              rw [← hrd.1, ← hpd.1] at h
              exact h⟩
            have HWB := Aside0.mk hWB
            clear hWB hWO hWP hWA hWH hen hne hl hn' hin hR2 hAL hplen hres hrow hresd hrl hrow0 hDrow hWO' hD HW
            go_upto_region 29 with (go_at_call 9; refine HMW.out.mono ?_; rintro e w2 ⟨O2, o2, rfl, hR, hB⟩; have H2 := Aside0.mk (And.intro hR hB); clear hR hB)
            have HS1 := Aside0.mk (HSM.out w2 H2.out.2 O2 o2 H2.out.1)
            go_upto_region 30 with (go_at_call 10; refine HS1.out.mono ?_; rintro e w4 ⟨rfl, hD⟩; have HB4 := Aside0.mk hD.below; clear hD)
            have HF := Aside0.mk (below_then HWB.out HWB.out.size (below_then H2.out.2 H2.out.2.size HB4.out))
            go_wp2
            go_ret
            exact ⟨rfl, HF.out⟩
end Go.Proofs.Ytlbiideeljbhlaa.Pr
