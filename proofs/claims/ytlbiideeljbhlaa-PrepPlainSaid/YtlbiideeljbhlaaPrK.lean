/- The law on plain rows holds of arguments that were read. Condition: rows within the form's reach. -/
import Derived.Test.YtlbiideeljbhlaaPrJ
set_option linter.unusedSimpArgs false
set_option linter.unusedVariables false
namespace Go.Proofs.Ytlbiideeljbhlaa.Pr
open Go.RowKit Go.BigFrame Go.Proofs.YtlbiideeljbhlaaW.PrintWords Go.Proofs.YtlbiideeljbhlaaW.PrintLast Go.Proofs.YtlbiideeljbhlaaW.PrintMore Go.Proofs.Ytlbiideeljbhlaa.PPrepSkips

abbrev inlS : ByteArray := ⟨#[105, 110, 108, 105, 110, 101]⟩

theorem inlS_list : inlS.toList = [105, 110, 108, 105, 110, 101] := by simp [go_sem]

set_option maxHeartbeats 4000000 in
set_option maxRecDepth 100000 in
theorem plain_walk (w : World) (A : Option Addr) (n c : Nat) (l : List S26) (hA : k26.C w A l.length l) (hn : n = l.length) (hc : n ≤ c) (hn2 : n ≤ 2932031007402) :
    Calls Try.prog 4 #[.slice A n c] w fun e w' => e = .returned (.bool true) ∧ Below w.heap.size w w' := by
  obtain ⟨r, hr, hrt⟩ := right_law l (by omega)
  have HR := Aside0.mk (spinneretref02_Right.calls _ A c l r w hA (by omega) hr)
  rw [← hn] at HR
  obtain ⟨pb, po, HP⟩ := tok_cells hA
  have HPP := Aside0.mk HP
  have HA := Aside0.mk hA
  have HN := Aside0.mk hn
  have HRT := Aside0.mk hrt
  clear HP hA hn hr hrt
  cases r with
  | false =>
    go_enter Try.func4, Try.ntmps4
    go_wp2_with (go_at_call 7; refine HR.out.mono ?_; rintro e w1 ⟨rfl, hD⟩; have HB1 := Aside0.mk hD.below; clear hD)
    go_ret
    exact ⟨rfl, HB1.out⟩
  | true =>
    go_enter Try.func4, Try.ntmps4
    go_upto_region 4 with (go_at_call 7; refine HR.out.mono ?_; rintro e w1 ⟨rfl, hD⟩; have HB1 := Aside0.mk hD.below; clear hD)
    go_wp2
    go_loopg [4] n (fun gg s4 wz => ∃ i : Nat, i ≤ n ∧ n - i ≤ gg ∧ s4 = .int .i64 i ∧ Aside0 (Below w.heap.size w wz ∧ ∀ j (hj : j < l.length), j < i → isT 4 l[j] ⟨#[35]⟩ = false ∧ isT 1 l[j] inlS = false))
    case atStart => exact ⟨0, Nat.zero_le _, Nat.le_of_eq (Nat.sub_zero _), rfl, ⟨HB1.out, fun j _ h => absurd h (Nat.not_lt_zero _)⟩⟩
    case round =>
      clear HB1
      obtain ⟨i, hi, hg, rfl, HW⟩ := hrel
      by_cases hlt : i < n
      · have d0 : ((i : Int) < (n : Int)) = True := eq_true (by omega)
        have hil : i < l.length := by have := HN.out; omega
        obtain ⟨rfl, q0, q1, q2, q3, q4⟩ := HPP.out i hil
        have HST : Aside0 (isT 4 l[i] ⟨#[35]⟩ = false → isT 1 l[i] inlS = false → ∀ j (hj : j < l.length), j < i + 1 → isT 4 l[j] ⟨#[35]⟩ = false ∧ isT 1 l[j] inlS = false) := ⟨fun h1 h2 j hj hji => by
          by_cases e : j = i
          · subst e; exact ⟨h1, h2⟩
          · exact HW.out.2 j hj (by omega)⟩
        have p0 := pw_cell_below HW.out.1 q0
        have p1 := pw_cell_below HW.out.1 q1
        have p2 := pw_cell_below HW.out.1 q2
        have p3 := pw_cell_below HW.out.1 q3
        have p4 := pw_cell_below HW.out.1 q4
        generalize l[i] = x at p0 p1 p2 p3 p4 HST
        obtain ⟨b1, hb1⟩ : ∃ b1, b1 = isT 4 x ⟨#[35]⟩ := ⟨_, rfl⟩
        have HM1 := Aside0.mk (is_walk x ⟨#[35]⟩ wr)
        rw [← hb1] at HM1 HST
        have HB1 := Aside0.mk hb1
        clear q0 q1 q2 q3 q4 hil hb1
        go_upto_region 8 with (go_at_call 8; refine HM1.out.mono ?_; rintro e w2 ⟨rfl, hB⟩; have HB2 := Aside0.mk hB; clear hB)
        have r0 := pw_cell_below HB2.out p0
        have r3 := pw_cell_below HB2.out p3
        clear p0 p1 p2 p3 p4
        have HB3 := Aside0.mk (below_then HW.out.1 HW.out.1.size HB2.out)
        cases b1 with
        | true =>
          go_wp2
          go_ret
          exact ⟨rfl, HB3.out⟩
        | false =>
          by_cases h1 : x.f0 = 1
          · have e1 : (x.f0 == (1 : Int)) = true := by rw [h1]; rfl
            have H1 := Aside0.mk h1
            clear h1
            obtain ⟨bt, hbt⟩ : ∃ bt, bt = (x.f3.toList == [105, 110, 108, 105, 110, 101]) := ⟨_, rfl⟩
            have e2 : (x.f3.toList == [105, 110, 108, 105, 110, 101]) = bt := hbt.symm
            clear hbt
            cases bt with
            | true =>
              go_wp2
              go_ret
              exact ⟨rfl, HB3.out⟩
            | false =>
              have H2 := Aside0.mk (HST.out rfl (by unfold isT; rw [inlS_list, e2]; simp))
              go_wp2
              go_roundg (n - (i + 1))
              case measure => omega
              case rel => exact ⟨i + 1, by omega, by omega, by go_num, ⟨HB3.out, H2.out⟩⟩
          · have e1 : (x.f0 == (1 : Int)) = false := by simpa using h1
            have H1 := Aside0.mk (HST.out rfl (by unfold isT; simp [h1]))
            clear h1
            go_wp2
            go_roundg (n - (i + 1))
            case measure => omega
            case rel => exact ⟨i + 1, by omega, by omega, by go_num, ⟨HB3.out, H1.out⟩⟩
      · have d0 : ((i : Int) < (n : Int)) = False := eq_false (by omega)
        obtain rfl : i = n := by omega
        have HALL : Aside0 (∀ x, x ∈ l → isT 4 x ⟨#[35]⟩ = false ∧ isT 1 x inlS = false) := ⟨fun x hx => by
          obtain ⟨j, hj, rfl⟩ := List.mem_iff_getElem.1 hx
          exact HW.out.2 j hj (by have := HN.out; omega)⟩
        have HBW := Aside0.mk HW.out.1
        clear hi hg hlt HW
        by_cases hbig : i > 8192
        · have d1 : ((i : Int) > (8192 : Int)) = True := eq_true (by omega)
          have d2 : ((8192 : Int) < (i : Int)) = True := eq_true (by omega)
          go_wp2
          go_ret
          exact ⟨rfl, HBW.out⟩
        · have d1 : ((i : Int) > (8192 : Int)) = False := eq_false (by omega)
          have d2 : ((8192 : Int) < (i : Int)) = False := eq_false (by omega)
          obtain ⟨l', en, hl, hne, hen⟩ := HRT.out trivial
          obtain ⟨n', hn'⟩ : ∃ n', n' = l'.length := ⟨_, rfl⟩
          have hin : i = n' + 1 := by rw [HN.out, hl, hn']; simp
          have HMA : Aside0 (∀ W, Below w.heap.size w W → Calls Try.prog 9 #[.slice A (n' + 1) c] W fun e w' => ∃ O o, e = .returned (.tuple #[.slice O (n' + 1) o, .int .i64 0, .int .i64 0]) ∧ k26.R 26 w' W.heap.size (fun _ => True) (.slice O (n' + 1) o) l ∧ Below W.heap.size W w') := ⟨fun W hb => by
            have h := macros_walk W A n' c l' en l' (by rw [← hl]; exact Kd.C_below HA.out hb) hn' (by omega) (by omega) hne hen (by omega) (does_macros W false l' en (by omega) (fun x hx => (HALL.out x (by rw [hl]; exact List.mem_append_left _ hx)).1))
            rw [← hl, ← hn'] at h
            exact h⟩
          have HIN : Aside0 (∀ W, Below w.heap.size w W → Calls Try.prog 11 #[.slice A (n' + 1) c] W fun e w' => ∃ O o, e = .returned (.tuple #[.slice O (n' + 1) o, .int .i64 0, .int .i64 0]) ∧ k26.R 26 w' W.heap.size (fun _ => True) (.slice O (n' + 1) o) l ∧ Below W.heap.size W w') := ⟨fun W hb => by
            have h := inlines_walk W A n' c l' en l' (by rw [← hl]; exact Kd.C_below HA.out hb) hn' (by omega) (by omega) hne hen (by omega) (does_inlines W true l' en (by omega) (fun x hx => (HALL.out x (by rw [hl]; exact List.mem_append_left _ hx)).2))
            rw [← hl, ← hn'] at h
            exact h⟩
          have HSM : Aside0 (∀ W, Below w.heap.size w W → ∀ (O : Option Addr) (o : Nat) (base : Nat), k26.R 26 W base (fun _ => True) (.slice O (n' + 1) o) l → Calls Try.prog 10 #[.slice O (n' + 1) o, .slice A (n' + 1) c, .bool false] W fun e w' => e = .returned (.bool true) ∧ Drawn0 W w') := ⟨fun W hb O o base hR => by
            have hrd := Kd.R_reads' hR
            have h := same_walk W O A o c l l false hrd.2.2 (by rw [← hrd.1]; exact hrd.2.1) (Kd.C_below HA.out hb) (by rw [← HN.out]; exact hc) rfl (by rw [← HN.out]; omega) (fun j _ _ => Alike.refl _ _)
            rw [← hrd.1] at h
            exact h⟩
          subst hin
          clear hl hne hen hn'
          go_upto_region 12 with fail
          go_upto_region 13 with (go_at_call 9; refine (HMA.out _ HBW.out).mono ?_; rintro e w2 ⟨O2, o2, rfl, hR, hB⟩; have H2 := Aside0.mk (And.intro hR (And.intro hB (below_then HBW.out HBW.out.size hB))); clear hR hB)
          go_upto_region 14 with (go_at_call 11; refine (HIN.out _ H2.out.2.2).mono ?_; rintro e w3 ⟨O3, o3, rfl, hR, hB⟩; have H3 := Aside0.mk (And.intro hR (And.intro hB (below_then H2.out.2.2 H2.out.2.2.size hB))); clear hR hB)
          have HS1 := Aside0.mk (HSM.out w3 H3.out.2.2 O2 o2 _ (Kd.R_below H2.out.1 H3.out.2.1))
          go_upto_region 15 with (go_at_call 10; refine HS1.out.mono ?_; rintro e w4 ⟨rfl, hD⟩; have HB4 := Aside0.mk hD.below; clear hD)
          have H4 := Aside0.mk (below_then H3.out.2.2 H3.out.2.2.size HB4.out)
          have HS2 := Aside0.mk (HSM.out w4 H4.out O3 o3 _ (Kd.R_below H3.out.1 HB4.out))
          go_upto_region 16 with (go_at_call 10; refine HS2.out.mono ?_; rintro e w5 ⟨rfl, hD⟩; have HB5 := Aside0.mk hD.below; clear hD)
          go_wp2
          go_ret
          exact ⟨rfl, below_then H4.out H4.out.size HB5.out⟩
end Go.Proofs.Ytlbiideeljbhlaa.Pr
