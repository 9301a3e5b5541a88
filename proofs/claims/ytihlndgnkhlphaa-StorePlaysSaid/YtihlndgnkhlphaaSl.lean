/- Where a text lies in the table, or would lie: the walk of the search. Condition: texts are at most 2^63 - 1 bytes, slots at most a million. -/
import Derived.Test.YtihlndgnkhlphaaStA
import Derived.Outline
import Derived.WalkMore
import Derived.ScopeJumps
import Derived.WalkLawsBesides
import Derived.WalkSpells
namespace Go.Proofs.Ytihlndgnkhlphaa.St
open Go.RowKit Go.Proofs.YtihlndgnkhlphaaW.PrintWords Go.Proofs.YtihlndgnkhlphaaW.PrintLast Go.Proofs.YtihlndgnkhlphaaW.PrintMore Go.Proofs.Ytihlndgnkhlphaa.PStorePlays
open Go.Proofs.Ytihlndgnkhlphaa.Sm

theorem toList_one {a b : ByteArray} (h : a.toList = b.toList) : a = b := Go.WideShapes.bytes_inj (by rw [← ByteArray.toList_eq, ← ByteArray.toList_eq]; exact h)

theorem least {p : Nat → Prop} (h : ∃ n, p n) : ∃ n, p n ∧ ∀ m, p m → n ≤ m := by
  obtain ⟨n, hn⟩ := h
  induction n using Nat.strongRecOn with
  | _ n ih =>
    by_cases hh : ∃ m, m < n ∧ p m
    · obtain ⟨m, hm, hp⟩ := hh
      exact ih m hm hp
    · exact ⟨n, hn, fun m hm => Nat.le_of_not_lt fun hlt => hh ⟨m, hlt, hm⟩⟩

open Classical in
/-- A scope in which the run jumps back to one label: what holds at every jump, and a number that every pass lowers. -/
theorem wp_scope_ghost {P : Program} {a : Act} {w : World} {Q : Exit → Act → World → Prop} {c rest : Code} (l : Nat) (J : Nat → Act → World → Prop) (hf : findLabel c l = some rest)
    (first : c.wp P (Exit.jump l (fun a' w' => ∃ n, J n a' w') Q) a w)
    (pass : ∀ n a w, J n a w → rest.wp P (Exit.jump l (fun a' w' => ∃ m, m < n ∧ J m a' w') Q) a w) : (Code.scope c).wp P Q a w := by
  refine wp_scope_jumps l (fun a' w' => ∃ n, J n a' w') (fun a' w' => if h : ∃ n, J n a' w' then (least h).choose else 0) hf first (fun a' w' hJ => ?_)
  have hs := (least hJ).choose_spec
  refine Code.wp_mono (fun e b v q => ?_) (pass _ a' w' hs.1)
  cases e <;> try exact q
  obtain ⟨e1, m, hm, hj⟩ := q
  refine ⟨e1, ⟨m, hj⟩, ?_⟩
  have hx : ∃ n, J n b v := ⟨m, hj⟩
  rw [dif_pos hx, dif_pos hJ]
  have := (least hx).choose_spec.2 m hj
  omega

/-- What holds at each jump: k steps are still to be gone. -/
def J (w : World) (g : Nat) (key : ByteArray) (pl : Nat → Nat) (d : Nat) (k : Nat) (a' : Act) (w' : World) : Prop :=
  ∃ (e i : Nat), e + k = d ∧ i = pl e ∧ (∃ nd, w' = w.drewN nd) ∧ ∃ u2 u3 u6 u7 u8 u9 u10 u11 u12 u13 u14 u15 u16 u17 u18 u19 u20 u21 u22 u23 u24 u25 u26 u27 u28 u29 u30 u31 u32 u33 u34 u35 u36 u37 u38 u39 u40 u41 u42 u43 u44 u45 u46 : Value, a' = { tmps := #[.pointer (some ⟨g, 0, none⟩), .string key, u2, u3, .int .i64 0, .int .i64 (i : Int), u6, u7, u8, u9, u10, u11, u12, u13, u14, u15, u16, u17, u18, u19, u20, u21, u22, u23, u24, u25, u26, u27, u28, u29, u30, u31, u32, u33, u34, u35, u36, u37, u38, u39, u40, u41, u42, u43, u44, u45, u46], defers := [] }

set_option maxHeartbeats 800000 in
set_option maxRecDepth 100000 in
theorem slot_walk (w : World) (g : Nat) (key : ByteArray) (most hr : Int) (kv bv : Value) (kq kn kcap q n cap d : Nat) (pl : Nat → Nat)
    (H0 : Aside0 (store_hash.f (key.size + 1) key = some hr)) (r0 : 0 ≤ hr) (_r1 : hr < 18446744073709551616)
    (hg : w.heap[g]? = some (.cells #[.int .i64 most, kv, bv, .slice (some ⟨q, 0, none⟩) n cap] 53 (0, 0))) (hkv : Aside0 (0 < kn → kv = .slice (some ⟨kq, 0, none⟩) kn kcap)) (hn : 0 < n) (hn1 : n ≤ 1000000) (hkn : kn ≤ 1000000)
    (hp0 : hr % (n : Int) = (pl 0 : Nat)) (hpl : Aside0 (∀ e, pl e < n)) (hps : Aside0 (∀ e, (((pl e : Nat) : Int) + 1) % (n : Int) = ((pl (e + 1) : Nat) : Int)))
    (hgo : Aside0 (∀ e, e < d → ∃ (m : Nat) (k : ByteArray), m < kn ∧ w.cell? ⟨q, pl e, none⟩ = some (.int .i64 ((m : Int) + 1)) ∧ w.cell? ⟨kq, m, none⟩ = some (.string k) ∧ k ≠ key))
    (hst : Aside0 (w.cell? ⟨q, pl d, none⟩ = some (.int .i64 0) ∨ ∃ (m : Nat), m < kn ∧ w.cell? ⟨q, pl d, none⟩ = some (.int .i64 ((m : Int) + 1)) ∧ w.cell? ⟨kq, m, none⟩ = some (.string key))) :
    Calls Try.prog 23 #[.pointer (some ⟨g, 0, none⟩), .string key] w fun e w' => e = .returned (.int .i64 ((pl d : Nat) : Int)) ∧ Drawn0 w w' := by
  have c0 : w.cell? ⟨g, 0, none⟩ = some (.int .i64 most) := (blk_cell hg 0).trans rfl
  have C1 : Aside0 (0 < kn → w.cell? ⟨g, 1, none⟩ = some (.slice (some ⟨kq, 0, none⟩) kn kcap)) := ⟨fun h => by rw [← hkv.out h]; exact (blk_cell hg 1).trans rfl⟩
  have c3 : w.cell? ⟨g, 3, none⟩ = some (.slice (some ⟨q, 0, none⟩) n cap) := (blk_cell hg 3).trans rfl
  have e1 : IntKind.u64.wrap (n : Int) = n := by simp [IntKind.wrap, IntKind.bits, IntKind.signed]; omega
  clear hg
  go_enter Try.func23, Try.ntmps23
  go_wp2
  refine wp_scope_ghost 0 (J w g key pl d) rfl ?_ ?_
  · have e2 : IntKind.i64.wrap ((pl 0 : Nat) : Int) = (pl 0 : Nat) := by have := hpl.out 0; simp [IntKind.wrap, IntKind.bits, IntKind.signed]; omega
    have e3 : Int.tmod hr (n : Int) = ((pl 0 : Nat) : Int) := by rw [Int.tmod_eq_emod_of_nonneg r0]; exact hp0
    clear hp0
    have hin := hpl.out 0
    refine wp_seq ?_
    go_quiet ((go_at_call 29; exact Calls.quiet_of ((store_hash.calls _ _ _ _ H0.out).mono fun e w' h => ⟨h.1, h.2.out⟩)))
    clear e2 e3 e1
    by_cases hlt : 0 < d
    · obtain ⟨m, k', hm, hs, hk, hne⟩ := hgo.out 0 hlt
      have c1 := C1.out (by omega)
      have hz : (((m : Int) + 1) != 0) = true := by simp; omega
      have hq : (k'.toList == key.toList) = false := by simpa [beq_eq_false_iff_ne] using fun h => hne (toList_one h)
      have hnx := hps.out 0
      clear hne
      go_wp2
      go_step3
      go_wp2
      go_step3
      rw [hnx]
      refine ⟨rfl, d - 1, 1, _, by omega, rfl, ⟨nq, rfl⟩, _, _, _, _, _, _, _, _, _, _, _, _, _, _, _, _, _, _, _, _, _, _, _, _, _, _, _, _, _, _, _, _, _, _, _, _, _, _, _, _, _, _, _, rfl⟩
    · obtain rfl : d = 0 := by omega
      clear hlt
      rcases hst.out with hs | ⟨m, hm, hs, hk⟩
      · go_wp2
        go_step3
        go_wp2
        simp only [Exit.jump]
        go_ret
        exact ⟨rfl, by repeat (first | exact Drawn0.refl _ | apply Drawn0.step)⟩
      · have hz : (((m : Int) + 1) != 0) = true := by simp; omega
        have c1 := C1.out (by omega)
        go_wp2
        go_step3
        go_wp2
        simp only [Exit.jump]
        go_ret
        exact ⟨rfl, by repeat (first | exact Drawn0.refl _ | apply Drawn0.step)⟩
  · rintro k a' w' ⟨e, i, hek, rfl, ⟨nd, rfl⟩, u2, u3, u6, u7, u8, u9, u10, u11, u12, u13, u14, u15, u16, u17, u18, u19, u20, u21, u22, u23, u24, u25, u26, u27, u28, u29, u30, u31, u32, u33, u34, u35, u36, u37, u38, u39, u40, u41, u42, u43, u44, u45, u46, rfl⟩
    clear e1 hp0
    have hin := hpl.out e
    by_cases hlt : e < d
    · obtain ⟨m, k', hm, hs, hk, hne⟩ := hgo.out e hlt
      have c1 := C1.out (by omega)
      have hz : (((m : Int) + 1) != 0) = true := by simp; omega
      have hq : (k'.toList == key.toList) = false := by simpa [beq_eq_false_iff_ne] using fun h => hne (toList_one h)
      have hnx := hps.out e
      clear hne
      go_wp2
      go_step3
      rw [hnx]
      refine ⟨rfl, k - 1, by omega, e + 1, _, by omega, rfl, ⟨nd, rfl⟩, _, _, _, _, _, _, _, _, _, _, _, _, _, _, _, _, _, _, _, _, _, _, _, _, _, _, _, _, _, _, _, _, _, _, _, _, _, _, _, _, _, _, _, rfl⟩
    · obtain rfl : e = d := by omega
      clear hlt
      rcases hst.out with hs | ⟨m, hm, hs, hk⟩
      · go_wp2
        simp only [Exit.jump]
        go_ret
        exact ⟨rfl, by repeat (first | exact Drawn0.refl _ | apply Drawn0.step)⟩
      · have hz : (((m : Int) + 1) != 0) = true := by simp; omega
        have c1 := C1.out (by omega)
        go_wp2
        simp only [Exit.jump]
        go_ret
        exact ⟨rfl, by repeat (first | exact Drawn0.refl _ | apply Drawn0.step)⟩

/-- A row that is owned: its cells. -/
theorem row_cells {w : World} {b e : Nat} {v : Value} {xs : List Value} (h : w.ownsRow b e 1 v xs.length xs) (hp : 0 < xs.length) : ∃ q cap, v = .slice (some ⟨q, 0, none⟩) xs.length cap ∧ b ≤ q ∧ xs.length ≤ cap ∧ (∃ cur, w.heap[q]? = some (.cells cur e (0, 0))) ∧
    ∀ i x, xs[i]? = some x → w.cell? ⟨q, i, none⟩ = some x := by
  rcases h.2 with ⟨_, h0⟩ | ⟨q, cap, cur, hv, hb, hq, hn, _, _, _⟩
  · omega
  · refine ⟨q, cap, hv, hb, hn, ⟨cur, hq⟩, fun i x hx => ?_⟩
    have := h.cells (g := q) (by rw [hv]; rfl) i x hx
    rwa [add_plain] at this

theorem slot_any (w : World) (b g j : Nat) (S : Data) (key : ByteArray) (d : Nat) (hS : StoreIn w b g S) (hI : Inv hsh S.keys S.slots j) (hl : S.slots.length ≤ 1000000) (hkl : S.keys.length ≤ 1000000) (hk : key.size ≤ 9223372036854775807)
    (hF : Sm.Found hsh S.keys S.slots key d) : Calls Try.prog 23 #[.pointer (some ⟨g, 0, none⟩), .string key] w fun e w' => e = .returned (.int .i64 ((place hsh S.slots key d : Nat) : Int)) ∧ Drawn0 w w' := by
  obtain ⟨kv, bv, sv, hg, hbg, hkr, hbr, hsr⟩ := hS
  have hp := hI.pos
  obtain ⟨H0, H1⟩ := hash_tells key hk
  have hsl : (nums .i64 (ints S.slots)).length = (ints S.slots).length := nums_length _ _
  have hsl2 : (ints S.slots).length = S.slots.length := ints_length _
  obtain ⟨q, cap, rfl, _, _, _, hc⟩ := row_cells (by rw [hsl]; exact hsr) (by omega)
  have hkr' : w.ownsRow b 9 1 kv (pw_strs S.keys).length (pw_strs S.keys) := by
    have : (pw_strs S.keys).length = S.keys.length := by simp [pw_strs]
    rw [this]; exact hkr
  have hkl2 : (pw_strs S.keys).length = S.keys.length := by simp [pw_strs]
  obtain ⟨kq, kcap, hkv, hkc⟩ : ∃ kq kcap, (0 < S.keys.length → kv = .slice (some ⟨kq, 0, none⟩) S.keys.length kcap) ∧ (∀ i k, S.keys[i]? = some k → w.cell? ⟨kq, i, none⟩ = some (.string k)) := by
    by_cases hkp : 0 < S.keys.length
    · obtain ⟨kq, kcap, hv, _, _, _, hc⟩ := row_cells hkr' (by omega)
      refine ⟨kq, kcap, fun _ => by rw [hv, hkl2], fun i k hk => hc i _ ?_⟩
      simp [pw_strs, hk]
    · refine ⟨0, 0, fun h => absurd h hkp, fun i k hk => ?_⟩
      rw [List.getElem?_eq_none (by omega)] at hk
      cases hk
  have hcell : ∀ i v, S.slots[i]? = some v → w.cell? ⟨q, i, none⟩ = some (.int .i64 ((v : Nat) : Int)) := fun i v hv => hc i _ (by simp [nums, ints, hv])
  have hget : ∀ i, i < S.slots.length → ∃ v, S.slots[i]? = some v := fun i hi => ⟨_, List.getElem?_eq_getElem hi⟩
  rw [hsl, hsl2] at hg
  refine slot_walk w g key S.most (hsh key : Nat) kv bv kq S.keys.length kcap q S.slots.length cap d (place hsh S.slots key) ⟨H0⟩ (by omega) (by omega) hg ⟨hkv⟩ hp hl hkl (by unfold place; rw [Nat.add_zero]; exact (Int.natCast_emod _ _).symm) ⟨fun e => place_lt hp e⟩ ⟨fun e => ?_⟩ ⟨fun e he => ?_⟩ ⟨?_⟩
  · unfold place
    have : (hsh key + (e + 1)) % S.slots.length = ((hsh key + e) % S.slots.length + 1) % S.slots.length := by rw [← Nat.add_assoc, Nat.mod_add_mod]
    rw [this, Int.natCast_emod ((hsh key + e) % S.slots.length + 1)]
    rfl
  · have hno := hF.2 e he
    obtain ⟨v, hv⟩ := hget _ (place_lt (H := hsh) (key := key) hp e)
    cases v with
    | zero => exact absurd (Or.inl hv) hno
    | succ m =>
      have hm := hI.small _ _ hv
      have hml : m < S.keys.length := by have := hI.le; omega
      refine ⟨m, S.keys[m], hml, by have := hcell _ _ hv; simpa using this, hkc m _ (List.getElem?_eq_getElem hml), fun hke => hno (Or.inr ⟨m, hv, ?_⟩)⟩
      rw [List.getElem?_eq_getElem hml, hke]
  · rcases hF.1 with h | ⟨m, h, h'⟩
    · exact Or.inl (by have := hcell _ _ h; simpa using this)
    · have hm := hI.small _ _ h
      exact Or.inr ⟨m, by have := hI.le; omega, by have := hcell _ _ h; simpa using this, hkc m _ h'⟩
end Go.Proofs.Ytihlndgnkhlphaa.St
