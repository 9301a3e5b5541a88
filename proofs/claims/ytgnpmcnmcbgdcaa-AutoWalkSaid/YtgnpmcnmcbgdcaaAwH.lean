/- What 'each' does at a place with what tells new numbers. Condition: the ways lie in rows of the call's own. -/
import Derived.Test.YtgnpmcnmcbgdcaaAwG
set_option linter.unusedSimpArgs false
set_option linter.unusedVariables false
namespace Go.Proofs.Ytgnpmcnmcbgdcaa.Aw
open Go.RowKit Go.Proofs.YtgnpmcnmcbgdcaaW.PrintWords Go.Proofs.YtgnpmcnmcbgdcaaW.PrintLast Go.Proofs.YtgnpmcnmcbgdcaaW.PrintMore Go.Proofs.Ytgnpmcnmcbgdcaa.PAutoWalk

set_option maxHeartbeats 1000000 in
set_option maxRecDepth 100000 in
theorem each_num (W : World) (ga : Nat) (T : List Nat) (hT : 36 ∉ T) (Inv0 : Nat → World → Prop) (Inv1 : Nat → Nat → World → Prop) (A0 A1 : Option Addr) (c0 c1 b0 o0 b1 o1 : Nat) (l : S36) (E : Nat → Option Addr) (ec eb eo : Nat → Nat)
    (h0 : 0 < l.f0.length → A0 = some ⟨b0, o0, none⟩) (h1 : 0 < l.f1.length → A1 = some ⟨b1, o1, none⟩) (hE : ∀ i (h : i < l.f1.length), 0 < l.f1[i].length → E i = some ⟨eb i, eo i, none⟩)
    (hesc : ∀ d k w, Inv1 d k w → ∀ i (h : i < l.f1.length), w.cell? ⟨b1, o1 + i, none⟩ = some (.slice (E i) l.f1[i].length (ec i)))
    (hmono0 : ∀ d w w', Inv0 d w → Below w.heap.size w w' → Inv0 d w') (h01 : ∀ w, Inv0 l.f0.length w → Inv1 0 0 w) (h11 : ∀ i (h : i < l.f1.length) w, Inv1 i l.f1[i].length w → Inv1 (i + 1) 0 w)
    (hdo0 : ∀ i (h : i < l.f0.length) w, Inv0 i w → Calls Try.prog 15 #[.pointer (some ⟨b0, o0 + i * 9, none⟩), .pointer (some ⟨ga, 0, none⟩)] w fun e w' => e = .returned (.tuple #[]) ∧ Aside0 (Inv0 (i + 1) w' ∧ KeepT T w w'))
    (hdo1 : ∀ i (h : i < l.f1.length) k (hk : k < l.f1[i].length) w, Inv1 i k w → Calls Try.prog 15 #[.pointer (some ⟨eb i, eo i + k * 9, none⟩), .pointer (some ⟨ga, 0, none⟩)] w fun e w' => e = .returned (.tuple #[]) ∧ Aside0 (Inv1 i (k + 1) w' ∧ KeepT T w w'))
    (hl0 : l.f0.length ≤ 4611686018427387904) (hl1 : l.f1.length ≤ 4611686018427387904) (hl2 : ∀ i (h : i < l.f1.length), l.f1[i].length ≤ 4611686018427387904) (hI : Inv0 0 W) :
    Calls Try.prog 9 #[.agg #[.slice A0 l.f0.length c0, .slice A1 l.f1.length c1, .bool l.f2, .bool l.f3, .bool l.f4, .bool l.f5, .bool l.f6], .func (.func 15) #[] #[.pointer (some ⟨ga, 0, none⟩)]] W fun e w' => e = .returned (.tuple #[]) ∧ Aside0 (Inv1 l.f1.length 0 w' ∧ KeepT T W w') := by
  have H0 := Aside0.mk h0
  have H1 := Aside0.mk h1
  have HE := Aside0.mk hE
  have HES := Aside0.mk hesc
  have HMO := Aside0.mk hmono0
  have H01 := Aside0.mk h01
  have H11 := Aside0.mk h11
  have HD0 := Aside0.mk hdo0
  have HD1 := Aside0.mk hdo1
  have HL2 := Aside0.mk hl2
  have HI := Aside0.mk hI
  have HTT := Aside0.mk hT
  obtain ⟨n0, hn0⟩ : ∃ n0, n0 = l.f0.length := ⟨_, rfl⟩
  obtain ⟨n1, hn1⟩ : ∃ n1, n1 = l.f1.length := ⟨_, rfl⟩
  have HN := Aside0.mk (And.intro hn0 hn1)
  rw [← hn0] at hl0 ⊢
  rw [← hn1] at hl1 ⊢
  clear h0 h1 hE hesc hmono0 h01 h11 hdo0 hdo1 hl2 hI hT hn0 hn1
  go_enter Try.func9, Try.ntmps9
  go_wp2
  go_loopg [11] n0 (fun gg s11 wz => ∃ i : Nat, i ≤ n0 ∧ n0 - i ≤ gg ∧ s11 = .int .i64 i ∧ Aside0 (Inv0 i wz ∧ wz.heap[W.heap.size]? = some (.cells #[.slice A0 n0 c0, .slice A1 n1 c1, .bool l.f2, .bool l.f3, .bool l.f4, .bool l.f5, .bool l.f6] 36 (0, 0)) ∧ KeepT T W wz))
  case atStart => exact ⟨0, Nat.zero_le _, Nat.le_of_eq (Nat.sub_zero _), rfl, ⟨HMO.out _ _ _ HI.out (below_alloc (Below.refl _ _) _), blk_new _ _, (KeepT.refl _ _).alloc _⟩⟩
  case round =>
    obtain ⟨i, hi, hg, rfl, HW⟩ := hrel
    have cl0 := (blk_cell HW.out.2.1 0).trans rfl
    have cl1 := (blk_cell HW.out.2.1 1).trans rfl
    by_cases hlt : i < n0
    · have d0 : ((i : Int) < (n0 : Int)) = True := eq_true (by omega)
      obtain rfl := H0.out (by have := HN.out.1; omega)
      have HC := Aside0.mk (HD0.out i (by have := HN.out.1; omega) wr HW.out.1)
      go_wp2_with (go_at_call 15; refine HC.out.mono ?_; rintro e w1 ⟨rfl, HP⟩)
      go_roundg (n0 - (i + 1))
      case measure => omega
      case rel => exact ⟨i + 1, by omega, by omega, by go_num, ⟨HP.out.1, HP.out.2.block _ _ _ HTT.out HW.out.2.1, HW.out.2.2.trans HP.out.2⟩⟩
    · have d0 : ((i : Int) < (n0 : Int)) = False := eq_false (by omega)
      have hin : i = l.f0.length := by have := HN.out.1; omega
      have hI1 := HW.out.1
      rw [hin] at hI1
      have HI1 := Aside0.mk hI1
      clear hin hI1 hlt hg hi
      go_wp2
      go_loopg [24] n1 (fun gg s24 wz => ∃ i : Nat, i ≤ n1 ∧ n1 - i ≤ gg ∧ s24 = .int .i64 i ∧ Aside0 (Inv1 i 0 wz ∧ wz.heap[W.heap.size]? = some (.cells #[.slice A0 n0 c0, .slice A1 n1 c1, .bool l.f2, .bool l.f3, .bool l.f4, .bool l.f5, .bool l.f6] 36 (0, 0)) ∧ KeepT T W wz))
      case atStart => exact ⟨0, Nat.zero_le _, Nat.le_of_eq (Nat.sub_zero _), rfl, ⟨H01.out _ HI1.out, HW.out.2.1, HW.out.2.2⟩⟩
      case round =>
        clear cl0 cl1
        obtain ⟨j, hj, hg, rfl, HY⟩ := hrel
        by_cases hlt : j < n1
        · have d1 : ((j : Int) < (n1 : Int)) = True := eq_true (by omega)
          have hjl : j < l.f1.length := by have := HN.out.2; omega
          obtain rfl := H1.out (by omega)
          have hcell := HES.out _ _ _ HY.out.1 j hjl
          have HDJ := Aside0.mk (HD1.out j hjl)
          have HEJ := Aside0.mk (HE.out j hjl)
          have hlj := HL2.out j hjl
          have HEM := Aside0.mk (H11.out j hjl)
          have HI2 := Aside0.mk HY.out.1
          generalize l.f1[j] = x at hcell HDJ HEJ hlj HEM
          generalize E j = Ej at hcell HEJ
          obtain ⟨nx, hnx⟩ : ∃ nx, nx = x.length := ⟨_, rfl⟩
          rw [← hnx] at hcell HDJ HEJ hlj HEM
          have HNX := Aside0.mk hnx
          clear hnx hjl
          go_wp2
          go_loopg [30] nx (fun gg s30 wz => ∃ k : Nat, k ≤ nx ∧ nx - k ≤ gg ∧ s30 = .int .i64 k ∧ Aside0 (Inv1 j k wz ∧ wz.heap[W.heap.size]? = some (.cells #[.slice A0 n0 c0, .slice (some ⟨b1, o1, none⟩) n1 c1, .bool l.f2, .bool l.f3, .bool l.f4, .bool l.f5, .bool l.f6] 36 (0, 0)) ∧ KeepT T W wz))
          case atStart => exact ⟨0, Nat.zero_le _, Nat.le_of_eq (Nat.sub_zero _), rfl, ⟨HI2.out, HY.out.2.1, HY.out.2.2⟩⟩
          case round =>
            obtain ⟨k, hk, hg2, rfl, HZ⟩ := hrel
            by_cases hkx : k < nx
            · have d2 : ((k : Int) < (nx : Int)) = True := eq_true (by omega)
              obtain rfl := HEJ.out (by omega)
              have HC := Aside0.mk (HDJ.out k hkx wr HZ.out.1)
              go_wp2_with (go_at_call 15; refine HC.out.mono ?_; rintro e w1 ⟨rfl, HP⟩)
              go_roundg (nx - (k + 1))
              case measure => omega
              case rel => exact ⟨k + 1, by omega, by omega, by go_num, ⟨HP.out.1, HP.out.2.block _ _ _ HTT.out HZ.out.2.1, HZ.out.2.2.trans HP.out.2⟩⟩
            · have d2 : ((k : Int) < (nx : Int)) = False := eq_false (by omega)
              have hkn : k = nx := by omega
              have HKN := Aside0.mk hkn
              clear hkn hkx hk hg2
              go_wp2
              go_roundg (n1 - (j + 1))
              case measure => omega
              case rel =>
                refine ⟨j + 1, by omega, by omega, by go_num, ⟨?_, HZ.out.2.1, HZ.out.2.2⟩⟩
                refine HEM.out _ ?_
                rw [← HKN.out]
                exact HZ.out.1
        · have d1 : ((j : Int) < (n1 : Int)) = False := eq_false (by omega)
          have hjn : j = l.f1.length := by have := HN.out.2; omega
          have hI3 := HY.out.1
          rw [hjn] at hI3
          have HI3 := Aside0.mk hI3
          clear hjn hI3 hlt hj hg
          go_wp2
          exact ⟨rfl, .tuple #[], (by simp [results, Try.results9, go_sem]), rfl, ⟨by first | exact HI3.out | (rw [← HN.out.2]; exact HI3.out) | (rw [HN.out.2]; exact HI3.out), HY.out.2.2⟩⟩

/-- The first k ways have new numbers. -/
def pre (num : List Int) (k : Nat) (ws : List S40) : List S40 := reWays num (ws.take k) ++ ws.drop k
def preRows (num : List Int) (i k : Nat) (rows : List (List S40)) : List (List S40) := rows.zipIdx.map fun (r, j) => if j < i then reWays num r else if j = i then pre num k r else r

theorem reWays_len (num : List Int) (ws : List S40) : (reWays num ws).length = ws.length := by simp [reWays]
theorem pre_len (num : List Int) (k : Nat) (ws : List S40) : (pre num k ws).length = ws.length := by simp [pre, reWays_len]; omega
theorem pre_zero (num : List Int) (ws : List S40) : pre num 0 ws = ws := by simp [pre, reWays]
theorem pre_all (num : List Int) (ws : List S40) : pre num ws.length ws = reWays num ws := by simp [pre, reWays]
theorem pre_at (num : List Int) (k : Nat) (ws : List S40) (h : k < ws.length) : (pre num k ws).getD k z40 = ws[k] := by
  unfold pre
  rw [List.getD_eq_getElem?_getD, List.getElem?_append_right (by simp [reWays_len]; omega)]
  simp [reWays_len, Nat.min_eq_left (Nat.le_of_lt h), h]
theorem pre_next (num : List Int) (k : Nat) (ws : List S40) (h : k < ws.length) : (pre num k ws).set k (toL (num.getD ws[k].f1.toNat 0) ws[k]) = pre num (k + 1) ws := by
  unfold pre
  have hl : (reWays num (ws.take k)).length = k := by rw [reWays_len, List.length_take]; omega
  have e : ws.take (k + 1) = ws.take k ++ [ws[k]] := by rw [List.take_add_one, List.getElem?_eq_getElem h]; rfl
  rw [List.set_append_right _ _ (by omega), hl, Nat.sub_self, List.drop_eq_getElem_cons h, List.set_cons_zero, e]
  simp only [reWays, List.map_append, List.map_cons, List.map_nil, List.append_assoc, List.singleton_append]

theorem preRows_len (num : List Int) (i k : Nat) (rows : List (List S40)) : (preRows num i k rows).length = rows.length := by simp [preRows]
theorem preRows_get (num : List Int) (i k : Nat) (rows : List (List S40)) (j : Nat) : (preRows num i k rows)[j]? = (rows[j]?).map fun r => if j < i then reWays num r else if j = i then pre num k r else r := by
  simp [preRows, List.getElem?_map, List.getElem?_zipIdx]
  cases rows[j]? <;> simp
theorem preRows_zero (num : List Int) (rows : List (List S40)) : preRows num 0 0 rows = rows := by
  refine List.ext_getElem? fun j => ?_
  rw [preRows_get]
  cases h : rows[j]? with
  | none => rfl
  | some r => simp [pre_zero]
theorem preRows_all (num : List Int) (rows : List (List S40)) : preRows num rows.length 0 rows = rows.map (reWays num) := by
  refine List.ext_getElem? fun j => ?_
  rw [preRows_get, List.getElem?_map]
  cases h : rows[j]? with
  | none => rfl
  | some r =>
    have := (List.getElem?_eq_some_iff.1 h).1
    simp [this]
theorem preRows_next (num : List Int) (i : Nat) (rows : List (List S40)) (h : i < rows.length) : preRows num i rows[i].length rows = preRows num (i + 1) 0 rows := by
  refine List.ext_getElem? fun j => ?_
  rw [preRows_get, preRows_get]
  cases hj : rows[j]? with
  | none => rfl
  | some r =>
    obtain ⟨hjl, rfl⟩ := List.getElem?_eq_some_iff.1 hj
    simp only [Option.map_some]
    congr 1
    by_cases h1 : j < i
    · rw [if_pos h1, if_pos (by omega)]
    · rw [if_neg h1]
      by_cases h2 : j = i
      · subst h2
        rw [if_pos rfl, if_pos (by omega), pre_all]
      · rw [if_neg h2, if_neg (by omega)]
        split
        · rw [pre_zero]
        · rfl
theorem preRows_set (num : List Int) (i k : Nat) (rows : List (List S40)) (h : i < rows.length) : (preRows num i k rows).set i (pre num (k + 1) rows[i]) = preRows num i (k + 1) rows := by
  refine List.ext_getElem? fun j => ?_
  rw [List.getElem?_set, preRows_get, preRows_get, preRows_len]
  by_cases e : i = j
  · subst e
    rw [if_pos rfl, if_pos h, List.getElem?_eq_getElem h]
    simp
  · rw [if_neg e]
    cases rows[j]? with
    | none => rfl
    | some r => simp [show ¬ j = i from fun h => e h.symm]
theorem preRows_at (num : List Int) (i k : Nat) (rows : List (List S40)) (h : i < rows.length) : (preRows num i k rows).getD i [] = pre num k rows[i] := by
  rw [List.getD_eq_getElem?_getD, preRows_get, List.getElem?_eq_getElem h]
  simp

/-- One way more of a row of the call's own has its number. -/
theorem R_number {w W : World} {base g n c k : Nat} {ok : Nat → Prop} {num : List Int} {ws : List S40} (h : (k40m w).R 40 W base ok (.slice (some ⟨g, 0, none⟩) n c) (pre num k ws)) (hk : k < ws.length) :
    W.cell? ⟨g, k * 9 + 7, none⟩ = some (.int .i64 ws[k].f1) ∧ W.frozen? ⟨g, k * 9 + 7, none⟩ = false ∧ ∀ nd, (k40m w).R 40 ((W.drewN nd).setCell ⟨g, k * 9 + 7, none⟩ (.int .i64 (num.getD ws[k].f1.toNat 0))) base ok (.slice (some ⟨g, 0, none⟩) n c) (pre num (k + 1) ws) ∧ (W.drewN nd).grownBy ((W.drewN nd).setCell ⟨g, k * 9 + 7, none⟩ (.int .i64 (num.getD ws[k].f1.toNat 0))) (some g) := by
  have hn := (Kd.R_reads' h).1
  rw [pre_len] at hn
  have el := fun (W' : World) (h' : (k40m w).R 40 W' base ok (.slice (some ⟨g, 0, none⟩) n c) (pre num k ws)) => Kd.R_elem h' z40 (k : Int) (by omega) (by omega)
  have key : ∀ cs : List Value, (k38.K w ws[k].f0 (cs.take 7)) → True := fun _ _ => trivial
  obtain ⟨cs, hcl, hM, hcc, hfz⟩ := el W h
  rw [Int.toNat_natCast, pre_at num k ws hk] at hM
  obtain ⟨c1, c2, rfl, h1, c3, c4, rfl, h3, h4⟩ := hM
  have h3' : c3 = [.int .i64 ws[k].f1] := h3
  have h4' : c4 = [.int .i64 ws[k].f2] := h4
  subst h3' h4'
  have hl1 : c1.length = 7 := k38.K_len h1
  have hcell : W.cell? ⟨g, k * 9 + 7, none⟩ = some (.int .i64 ws[k].f1) := by
    have := hcc 7 (.int .i64 ws[k].f1) (by rw [List.getElem?_append_right (by omega), hl1]; rfl)
    rw [Int.toNat_natCast] at this
    exact this
  refine ⟨hcell, by have := hfz 7; rw [Int.toNat_natCast] at this; exact this, fun nd => ?_⟩
  obtain ⟨cs', hcl', hM', hcc', hfz'⟩ := el (W.drewN nd) (Kd.R_drewN h nd)
  have hseg := Kd.R_seg (Kd.R_drewN h nd) (k : Int) (by omega) (by omega) (c := c1 ++ ([.int .i64 ws[k].f1] ++ [.int .i64 ws[k].f2])) (seg := [.int .i64 (num.getD ws[k].f1.toNat 0)]) (j := 7) (x' := toL (num.getD ws[k].f1.toNat 0) ws[k]) (okp := fun _ => False) (by simp [hl1]; rfl) (fun j u hu => by have := hcc j u hu; exact this) (by show 7 + 1 ≤ 9; omega) ?_ (fun k hk => hk.elim)
  · rw [Int.toNat_natCast, pre_next num k ws hk] at hseg
    exact hseg
  · refine ⟨c1, [.int .i64 (num.getD ws[k].f1.toNat 0), .int .i64 ws[k].f2], ?_, h1, [_], [_], rfl, rfl, rfl⟩
    rw [List.take_append_of_le_length (by omega), List.take_of_length_le (by omega), List.drop_append, List.drop_eq_nil_of_le (by simp; omega)]
    simp [hl1]

theorem S_number {w W : World} {base g1 n1 c1 i k : Nat} {ok : Nat → Prop} {num : List Int} {rows : List (List S40)} (h : Kd.S (k33m w) 33 W base ok (.slice (some ⟨g1, 0, none⟩) n1 c1) (preRows num i k rows)) (hi : i < rows.length) (hk : k < rows[i].length) :
    ∃ g c, W.cell? ⟨g1, i, none⟩ = some (.slice (some ⟨g, 0, none⟩) rows[i].length c) ∧ ok g ∧ base ≤ g ∧ (∃ cells, W.heap[g]? = some (.cells cells 40 (0, 0))) ∧ W.cell? ⟨g, k * 9 + 7, none⟩ = some (.int .i64 rows[i][k].f1) ∧ W.frozen? ⟨g, k * 9 + 7, none⟩ = false ∧
      ∀ nd, Kd.S (k33m w) 33 ((W.drewN nd).setCell ⟨g, k * 9 + 7, none⟩ (.int .i64 (num.getD rows[i][k].f1.toNat 0))) base ok (.slice (some ⟨g1, 0, none⟩) n1 c1) (preRows num i (k + 1) rows) := by
  have hn := (Kd.S_reads' h).1
  rw [preRows_len] at hn
  have bor := fun (W' : World) (h' : Kd.S (k33m w) 33 W' base ok (.slice (some ⟨g1, 0, none⟩) n1 c1) (preRows num i k rows)) => Kd.S_borrow h' [] (i : Int) (by omega) (by omega)
  have open1 : ∀ W' : World, Kd.S (k33m w) 33 W' base ok (.slice (some ⟨g1, 0, none⟩) n1 c1) (preRows num i k rows) → ∃ (oki : Nat → Prop) (g c : Nat), W'.cell? ⟨g1, i, none⟩ = some (.slice (some ⟨g, 0, none⟩) rows[i].length c) ∧ (k40m w).R 40 W' base oki (.slice (some ⟨g, 0, none⟩) rows[i].length c) (pre num k rows[i]) ∧ (∀ q, oki q → ok q) ∧
      ∀ {w1 : World} {row : Option Nat} {x' : List S40}, W'.grownBy w1 row → (∀ q, row = some q → oki q) → (k40m w).R 40 w1 base oki (.slice (some ⟨g, 0, none⟩) rows[i].length c) x' → Kd.S (k33m w) 33 w1 base ok (.slice (some ⟨g1, 0, none⟩) n1 c1) ((preRows num i k rows).set i x') := by
    intro W' h'
    obtain ⟨oki, c, _, ⟨v, rfl, hR⟩, hcc, hoki, hback⟩ := bor W' h'
    rw [Int.toNat_natCast, preRows_at num i k rows hi] at hR
    obtain ⟨g, cg, rfl, _⟩ := Kd.R_form hR (by rw [pre_len]; omega)
    rw [pre_len] at hR hcc hback
    have hc := hcc 0 _ rfl
    rw [Int.toNat_natCast, Go.WideShapes.add_plain] at hc
    refine ⟨oki, g, cg, by simpa [Kd.slice] using hc, hR, fun q hq => (hoki q hq).1, fun hg hrow hM => ?_⟩
    have := hback hg hrow ⟨_, rfl, hM⟩
    rwa [Int.toNat_natCast] at this
  obtain ⟨oki, g, c, hcell, hR, hok, _⟩ := open1 W h
  obtain ⟨q1, q2, _⟩ := R_number hR hk
  obtain ⟨cells, hcl⟩ := Kd.R_typed hR g (by simp [Value.ownBlock])
  refine ⟨g, c, hcell, hok g (hR.1 g (by simp [Value.ownBlock])), Kd.R_base hR g (by simp [Value.ownBlock]), ⟨cells, hcl⟩, q1, q2, fun nd => ?_⟩
  obtain ⟨oki2, g2, c2, hcell2, hR2, _, hback2⟩ := open1 (W.drewN nd) (Kd.S_drewN h nd)
  have e : some (Value.slice (some ⟨g2, 0, none⟩) rows[i].length c2) = some (Value.slice (some ⟨g, 0, none⟩) rows[i].length c) := hcell2.symm.trans hcell
  injection e with e
  injection e with e1 _ e3
  injection e1 with e1
  injection e1 with e1
  subst e1 e3
  obtain ⟨_, _, q3⟩ := R_number hR2 hk
  obtain ⟨q4, q5⟩ := q3 0
  have := hback2 q5 (fun q hq => by injection hq with hq; subst hq; exact hR2.1 g2 (by simp [Value.ownBlock])) q4
  rw [preRows_set num i k rows hi] at this
  exact this

theorem each_num_place (w W0 : World) (S : World → Prop) (g14 n b : Nat) (B A0 A1 : Option Addr) (base c0 c1 : Nat) (l : S36) (num : List Int)
    (hS14 : ∀ W, S W → W.cell? ⟨g14, 0, none⟩ = some (.slice B n b) ∧ k1.C W B n num) (hSm : ∀ W W', S W → KeepT [40] W W' → Below base W W' → S W')
    (hw : ∀ x, x ∈ ways l → insideL n x.f1 = true) (hbase : ∀ W, S W → base ≤ W.heap.size)
    (hl0 : l.f0.length ≤ 4611686018427387904) (hl1 : l.f1.length ≤ 4611686018427387904) (hl2 : ∀ i (h : i < l.f1.length), l.f1[i].length ≤ 4611686018427387904)
    (hI : S W0 ∧ (k40m w).R 40 W0 base (fun _ => True) (.slice A0 l.f0.length c0) l.f0 ∧ Kd.S (k33m w) 33 W0 base (fun k => some k ≠ (Value.slice A0 l.f0.length c0).ownBlock) (.slice A1 l.f1.length c1) l.f1) :
    Calls Try.prog 9 #[.agg #[.slice A0 l.f0.length c0, .slice A1 l.f1.length c1, .bool l.f2, .bool l.f3, .bool l.f4, .bool l.f5, .bool l.f6], .func (.func 15) #[] #[.pointer (some ⟨g14, 0, none⟩)]] W0 fun e w' => e = .returned (.tuple #[]) ∧ Aside0 ((S w' ∧ (k40m w).R 40 w' base (fun _ => True) (.slice A0 l.f0.length c0) (reWays num l.f0) ∧ Kd.S (k33m w) 33 w' base (fun k => some k ≠ (Value.slice A0 l.f0.length c0).ownBlock) (.slice A1 l.f1.length c1) (l.f1.map (reWays num))) ∧ KeepT [40] W0 w') := by
  have m0 : ∀ i (h : i < l.f0.length), insideL n l.f0[i].f1 = true := fun i h => hw _ (List.mem_append_left _ (List.getElem_mem h))
  have m1 : ∀ i (h : i < l.f1.length) k (hk : k < l.f1[i].length), insideL n l.f1[i][k].f1 = true := fun i h k hk => hw _ (List.mem_append_right _ (List.mem_flatten.2 ⟨_, List.getElem_mem h, List.getElem_mem hk⟩))
  obtain ⟨g0, hg0⟩ : ∃ g0, 0 < l.f0.length → A0 = some ⟨g0, 0, none⟩ := by
    rcases Nat.eq_zero_or_pos l.f0.length with h | h
    · exact ⟨0, fun h' => by omega⟩
    · obtain ⟨g, c, e, _⟩ := Kd.R_form hI.2.1 h
      injection e with e
      exact ⟨g, fun _ => e⟩
  obtain ⟨g1, hg1⟩ : ∃ g1, 0 < l.f1.length → A1 = some ⟨g1, 0, none⟩ := by
    rcases Nat.eq_zero_or_pos l.f1.length with h | h
    · exact ⟨0, fun h' => by omega⟩
    · obtain ⟨g, c, e, _⟩ := Kd.S_form hI.2.2 h
      injection e with e
      exact ⟨g, fun _ => e⟩
  have esc : ∀ i, ∃ (e : Option Addr) (c eb : Nat), ∀ h : i < l.f1.length, W0.cell? ⟨g1, i, none⟩ = some (.slice e l.f1[i].length c) ∧ (0 < l.f1[i].length → e = some ⟨eb, 0, none⟩) := by
    intro i
    by_cases hi : i < l.f1.length
    · obtain rfl := hg1 (by omega)
      obtain ⟨oki, c, _, ⟨v, rfl, hR⟩, hcc, _, _⟩ := Kd.S_borrow hI.2.2 [] (i : Int) (by omega) (by omega)
      have hg : l.f1.getD i [] = l.f1[i] := by rw [List.getD_eq_getElem?_getD, List.getElem?_eq_getElem hi]; rfl
      rw [Int.toNat_natCast, hg] at hR
      obtain ⟨e, cg, rfl⟩ := Kd.R_slice hR
      have hc := hcc 0 _ rfl
      rw [Int.toNat_natCast, Go.WideShapes.add_plain] at hc
      rcases Nat.eq_zero_or_pos l.f1[i].length with h0 | h0
      · exact ⟨e, cg, 0, fun _ => ⟨by simpa [Kd.slice] using hc, fun h => by omega⟩⟩
      · obtain ⟨g, c2, e2, _⟩ := Kd.R_form hR h0
        injection e2 with e2
        exact ⟨e, cg, g, fun _ => ⟨by simpa [Kd.slice] using hc, fun _ => e2⟩⟩
    · exact ⟨none, 0, 0, fun h => absurd h hi⟩
  have htop : 0 < l.f1.length → ∃ cs1, W0.heap[g1]? = some (.cells cs1 33 (0, 0)) := fun h => by
    obtain rfl := hg1 h
    exact Kd.S_typed hI.2.2 g1 (by simp [Value.ownBlock])
  obtain ⟨cs1, hcs1⟩ : ∃ cs1, 0 < l.f1.length → W0.heap[g1]? = some (.cells cs1 33 (0, 0)) := by
    rcases Nat.eq_zero_or_pos l.f1.length with h | h
    · exact ⟨#[], fun h' => by omega⟩
    · obtain ⟨cs1, hc⟩ := htop h
      exact ⟨cs1, fun _ => hc⟩
  have hescAll : ∀ W : World, (0 < l.f1.length → W.heap[g1]? = some (.cells cs1 33 (0, 0))) → ∀ i (h : i < l.f1.length), W.cell? ⟨g1, 0 + i, none⟩ = some (.slice ((esc i).choose) l.f1[i].length ((esc i).choose_spec.choose)) := fun W hW i h => by
    rw [Nat.zero_add, blk_cell (hW (by omega)), ← blk_cell (hcs1 (by omega))]
    exact ((esc i).choose_spec.choose_spec.choose_spec h).1
  have hset : ∀ (W : World) (nd g o : Nat) (u : Value), S W → (∃ cells, W.heap[g]? = some (.cells cells 40 (0, 0))) → base ≤ g → (0 < l.f1.length → W.heap[g1]? = some (.cells cs1 33 (0, 0))) → S ((W.drewN nd).setCell ⟨g, o, none⟩ u) ∧ (0 < l.f1.length → ((W.drewN nd).setCell ⟨g, o, none⟩ u).heap[g1]? = some (.cells cs1 33 (0, 0))) ∧ KeepT [40] W ((W.drewN nd).setCell ⟨g, o, none⟩ u) := fun W nd g o u hs ⟨cells, hc⟩ hb ht => by
    have hk : KeepT [40] W ((W.drewN nd).setCell ⟨g, o, none⟩ u) := ((KeepT.refl _ _).drewN nd).set (blk_drewN hc nd) (by decide) _ _
    exact ⟨hSm W _ hs hk (((Below.refl base W).trans (pw_below_drewN (Below.refl _ _) nd)).setCell hb _), fun h => hk.block _ _ _ (by decide) (ht h), hk⟩
  refine (each_num W0 g14 [40] (by decide)
    (fun i W => S W ∧ (k40m w).R 40 W base (fun _ => True) (.slice A0 l.f0.length c0) (pre num i l.f0) ∧ Kd.S (k33m w) 33 W base (fun k => some k ≠ (Value.slice A0 l.f0.length c0).ownBlock) (.slice A1 l.f1.length c1) (preRows num 0 0 l.f1) ∧ (0 < l.f1.length → W.heap[g1]? = some (.cells cs1 33 (0, 0))))
    (fun i k W => S W ∧ (k40m w).R 40 W base (fun _ => True) (.slice A0 l.f0.length c0) (reWays num l.f0) ∧ Kd.S (k33m w) 33 W base (fun k => some k ≠ (Value.slice A0 l.f0.length c0).ownBlock) (.slice A1 l.f1.length c1) (preRows num i k l.f1) ∧ (0 < l.f1.length → W.heap[g1]? = some (.cells cs1 33 (0, 0))))
    A0 A1 c0 c1 g0 0 g1 0 l (fun i => (esc i).choose) (fun i => (esc i).choose_spec.choose) (fun i => (esc i).choose_spec.choose_spec.choose) (fun _ => 0) hg0 hg1 (fun i h hp => ((esc i).choose_spec.choose_spec.choose_spec h).2 hp)
    (fun d k W h i hi => hescAll W h.2.2.2 i hi)
    (fun d W W' h hb => ⟨hSm W W' h.1 (KeepT.below hb) (hb.mono (hbase W h.1)), Kd.R_below h.2.1 hb, Kd.S_below h.2.2.1 hb, fun hp => blk_below (h.2.2.2 hp) hb⟩)
    (fun W h => by rw [pre_all] at h; exact h) (fun i hi W h => by rw [preRows_next num i l.f1 hi] at h; exact h)
    (fun i h W hW => ?_) (fun i h k hk W hW => ?_) hl0 hl1 hl2 ⟨hI.1, by rw [pre_zero]; exact hI.2.1, by rw [preRows_zero]; exact hI.2.2, hcs1⟩).mono (fun e w' h => ⟨h.1, ⟨⟨h.2.out.1.1, h.2.out.1.2.1, by rw [← preRows_all]; exact h.2.out.1.2.2.1⟩, h.2.out.2⟩⟩)
  · obtain rfl := hg0 (by omega)
    obtain ⟨q1, q2, q3⟩ := R_number hW.2.1 h
    obtain ⟨cells, hcl⟩ := Kd.R_typed hW.2.1 g0 (by simp [Value.ownBlock])
    have hin := (insideL_iff n _).1 (m0 i h)
    rw [Nat.zero_add]
    refine (number_walk W g14 g0 (i * 9) n b B num l.f0[i].f1 (hS14 W hW.1).1 (hS14 W hW.1).2 q1 q2 hin.1 hin.2).mono ?_
    rintro e w' ⟨rfl, nd, rfl⟩
    obtain ⟨s1, s2, s3⟩ := hset W nd g0 (i * 9 + 7) (.int .i64 (num.getD l.f0[i].f1.toNat 0)) hW.1 ⟨cells, hcl⟩ (Kd.R_base hW.2.1 g0 (by simp [Value.ownBlock])) hW.2.2.2
    refine ⟨rfl, ⟨⟨s1, (q3 nd).1, ?_, s2⟩, s3⟩⟩
    exact Kd.S_far (p := ⟨g0, i * 9 + 7, none⟩) (Kd.S_drewN hW.2.2.1 nd) (fun k hk e => hk (by rw [e]; simp [Value.ownBlock])) _
  · obtain rfl := hg1 (by omega)
    obtain ⟨g, c, hcell, hok, hbg, hty, q1, q2, q3⟩ := S_number hW.2.2.1 h hk
    have hcell2 := hescAll W hW.2.2.2 i h
    rw [Nat.zero_add, hcell] at hcell2
    have he := ((esc i).choose_spec.choose_spec.choose_spec h).2 (by omega)
    injection hcell2 with hcell2
    injection hcell2 with e1 _ _
    replace e1 := e1.trans he
    injection e1 with e1
    injection e1 with e1
    have hin := (insideL_iff n _).1 (m1 i h k hk)
    rw [Nat.zero_add, ← e1]
    refine (number_walk W g14 g (k * 9) n b B num l.f1[i][k].f1 (hS14 W hW.1).1 (hS14 W hW.1).2 q1 q2 hin.1 hin.2).mono ?_
    rintro e w' ⟨rfl, nd, rfl⟩
    obtain ⟨s1, s2, s3⟩ := hset W nd g (k * 9 + 7) (.int .i64 (num.getD l.f1[i][k].f1.toNat 0)) hW.1 hty hbg hW.2.2.2
    refine ⟨rfl, ⟨⟨s1, ?_, q3 nd, s2⟩, s3⟩⟩
    exact Kd.R_mono (Kd.R_far (p := ⟨g, k * 9 + 7, none⟩) (Kd.R_tight rfl (Kd.R_drewN hW.2.1 nd)) (fun k' hk' e => hok (by rw [← hk', e])) _) (fun _ _ => trivial)
end Go.Proofs.Ytgnpmcnmcbgdcaa.Aw
