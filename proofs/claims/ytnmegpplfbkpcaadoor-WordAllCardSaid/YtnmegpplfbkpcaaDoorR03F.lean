/- edenref03.Turn, Cmp, Back. -/
import Derived.Test.YtnmegpplfbkpcaaDoorWordT
import Derived.Test.YtnmegpplfbkpcaaDoorWordD
import Derived.Test.YtnmegpplfbkpcaaDoorWordR
import Derived.Test.YtnmegpplfbkpcaaDoorWordU
import Derived.Test.YtnmegpplfbkpcaaDoorLent
import Derived.WalkKit
import Derived.Deep.QuietTactic
import Derived.BigQuiet
import Derived.Lib.Hide
namespace Go.Proofs.YtnmegpplfbkpcaaDoor
open Go.RowKit
set_option linter.unusedVariables false
set_option maxRecDepth 100000
/-- the first k symbols are those of the turn -/
def TurnAt (l cur : List Int) (T k : Nat) : Prop := cur.length = l.length ∧ ∀ j, j < k → cur.getD j 0 = l.getD ((j + T) % l.length) 0
theorem turnAt_set {l cur : List Int} {T k : Nat} (h : TurnAt l cur T k) (hk : k < l.length) : TurnAt l (cur.set k (l.getD ((k + T) % l.length) 0)) T (k + 1) := by
  obtain ⟨h1, h2⟩ := h
  refine ⟨by simp [h1], fun j hj => ?_⟩
  simp only [List.getD_eq_getElem?_getD, List.getElem?_set]
  by_cases e : k = j
  · subst e; simp [h1, hk]
  · have := h2 j (by omega)
    simp only [List.getD_eq_getElem?_getD] at this
    rw [if_neg e]; exact this
theorem turnAt_end {l cur : List Int} {T k : Nat} (h : TurnAt l cur T k) (hk : l.length ≤ k) (hT : T ≤ l.length) : cur = rot l T := by
  refine ext_getD (by rw [h.1, rot_len]) fun j hj => ?_
  have := h.1
  rw [h.2 j (by omega), rot_get l T j hT (by omega)]

set_option maxHeartbeats 4000000 in
theorem refTurn_any (a : Option Addr) (n c : Nat) (l : List Int) (t : Int) (W : World) (hR : RK .i64 W a n l) (hn8 : n * 8 ≤ 140737488351232) :
    Calls Tryd.prog 61 #[.slice a n c, .int .i64 t] W fun e w' => ∃ a' c', e = .returned (.slice a' n c') ∧ w'.ownsRow W.heap.size 3 1 (.slice a' n c') n ((rot l (turnAt t n)).map (Value.int .i64)) ∧ Below W.heap.size W w' := by
  have HL := Lib.hid hR.len
  have HR := Lib.hid hR; clear hR
  by_cases h0 : n = 0
  · have hl : l = [] := List.eq_nil_of_length_eq_zero (by have := HL.out; omega)
    subst hl
    subst h0
    clear HR
    go_enter Tryd.func61, Tryd.ntmps61
    go_wp2_with (first
      | (at_make; refine mk_full rfl _ _ _ rfl W.heap.size et_int .i64 .i64 _ _ 0 rfl rfl rfl rfl (by omega) (by unfold maxLen; omega) (Nat.le_refl _) ?_; intro w1 hown1 hb1 hsz1; rw [made_i64] at hown1))
    go_ret
    exact ⟨_, _, rfl, by simpa [rot] using hown1, hb1⟩
  · obtain ⟨hti, htl⟩ := turn_int t n (by omega)
    obtain ⟨T, hT⟩ : ∃ T, turnAt t n = T := ⟨_, rfl⟩
    rw [hT] at hti htl ⊢
    clear hT
    have p1 := Int.lt_tmod_of_pos t (show (0 : Int) < (n : Int) by omega)
    have p2 := Int.tmod_lt_of_pos t (show (0 : Int) < (n : Int) by omega)
    have hcase : (0 ≤ t.tmod n ∧ t.tmod n = (T : Int)) ∨ (t.tmod n < 0 ∧ t.tmod n + n = (T : Int)) := by
      by_cases hneg : t.tmod n < 0
      · right
        refine ⟨hneg, ?_⟩
        rw [← hti, ← Int.add_emod_right, Int.emod_eq_of_lt (by omega) (by omega)]
      · left
        refine ⟨by omega, ?_⟩
        rw [← hti, Int.emod_eq_of_lt (by omega) (by omega)]
    have hnz : ((n : Int) == 0) = false := by rw [beq_eq_false_iff_ne]; omega
    have hnp : (0 : Int) < (n : Int) := by omega
    obtain ⟨b, o, rfl, hbo, hcell⟩ := HR.out.addr (by omega)
    have HC := Lib.hid hcell
    clear hcell hti
    generalize hq : t.tmod (n : Int) = q at *
    have HQ := Lib.hid hq
    have hqv : t.tmod (n : Int) = q := hq
    clear hq
    rcases hcase with ⟨q1, q2⟩ | ⟨q1, q2⟩
    all_goals
      go_enter Tryd.func61, Tryd.ntmps61
      go_wp2_with (first
        | (at_make; refine mk_full rfl _ _ _ rfl W.heap.size et_int .i64 .i64 _ _ n rfl rfl rfl rfl (by omega) (by unfold maxLen; omega) (Nat.le_refl _) ?_; intro w1 hown1 hb1 hsz1; rw [made_i64] at hown1))
      go_loopw [7] (fun ix wr => ∃ (k : Nat) (cur : List Int), k ≤ n ∧ ix = .int .i64 k ∧ TurnAt l cur T k ∧ wr.ownsRow W.heap.size 3 1 (.slice (some ⟨W.heap.size, 0, none⟩) n n) n (cur.map (Value.int .i64)) ∧ Below W.heap.size W wr) (fun ix _ => n - (intOf ix).toNat)
      case atStart => exact ⟨0, _, by omega, rfl, ⟨by have := HL.out; simp; omega, fun j hj => by omega⟩, hown1, hb1⟩
      case round =>
        clear hown1
        obtain ⟨k, cur, hk, rfl, htn, hown, hb⟩ := hrel
        by_cases hlt : k < n
        · obtain ⟨r, hr⟩ : ∃ r, (k + T) % n = r := ⟨_, rfl⟩
          have hr1 : r < n := by rw [← hr]; exact Nat.mod_lt _ (by omega)
          have m1 : ((k : Int) + (T : Int)) % (n : Int) = (r : Int) := by rw [← hr]; simp
          have c1 := (hb.cell (p := ⟨b, o + r, none⟩) hbo).trans (HC.out r hr1)
          have hcl : cur.length = n := by have := htn.1; have := HL.out; omega
          have c0 : wr.cell? ⟨W.heap.size, k, none⟩ = some (.int .i64 (cur.getD k 0)) := by rw [hown.cellAt k (by omega), map_at _ _ _ (by omega)]
          have f0 := hown.frozenAt k
          have hts := turnAt_set htn (by have := HL.out; omega)
          rw [← HL.out, hr] at hts
          have hst := own_set hown k (.int .i64 (l.getD r 0))
          rw [map_set64] at hst
          have HTS := Lib.hid hts
          have HST := Lib.hid hst
          clear hts hst hr htn hcl hown
          have i0 : (0 : Int) ≤ (r : Int) := by omega
          have i1 : (r : Int) < (n : Int) := by omega
          have i2 : (0 : Int) ≤ (k : Int) := by omega
          have i3 : (k : Int) < (n : Int) := by omega
          generalize l.getD r 0 = z at *
          generalize cur.getD k 0 = z2 at *
          go_wp2
          go_roundw
          case rel => exact ⟨k + 1, _, by omega, by go_num, HTS.out, HST.out, hb.setCell (p := ⟨W.heap.size, k, none⟩) (Nat.le_refl _) _⟩
          case measure => simp [intOf]; omega
        · have HF : Hid (cur = rot l T) := turnAt_end htn (by have := HL.out; omega) (by have := HL.out; omega)
          clear htn
          go_wp2
          go_ret
          exact ⟨_, _, rfl, by rw [← HF.out]; exact hown, hb⟩

/-! ### Cmp -/
set_option maxHeartbeats 2000000 in
theorem refCmp_same (a1 a2 : Option Addr) (n c1 c2 : Nat) (l1 l2 : List Int) (W : World) (hR1 : RK .i64 W a1 n l1) (hR2 : RK .i64 W a2 n l2) (hm1 : n ≤ maxLen) :
    Calls Tryd.prog 57 #[.slice a1 n c1, .slice a2 n c2] W fun e w' => e = .returned (.int .i64 (lexI l1 l2)) ∧ ∃ q, w' = W.drewN q := by
  unfold maxLen at hm1
  have HL1 := Lib.hid hR1.len
  have HL2 := Lib.hid hR2.len
  have HR1 := Lib.hid hR1; clear hR1
  have HR2 := Lib.hid hR2; clear hR2
  have hnn : ¬ (n : Int) < (n : Int) := by omega
  go_enter Tryd.func57, Tryd.ntmps57
  go_wp2_with fail
  clear hnn
  go_loopw [5] (fun i wr => ∃ k q : Nat, k ≤ n ∧ i = .int .i64 k ∧ lexI l1 l2 = lexI (l1.drop k) (l2.drop k) ∧ wr = W.drewN q) (fun i _ => n - (intOf i).toNat)
  case atStart => exact ⟨0, 0, by omega, rfl, by simp, rfl⟩
  case round =>
    obtain ⟨k, q, hk1, rfl, heq, rfl⟩ := hrel
    have HEQ := Lib.hid heq; clear heq
    by_cases hlt : k < n
    · obtain ⟨b1, o1, rfl, hbo1, hc1⟩ := HR1.out.addr (by omega)
      have x0 := hc1 k hlt
      obtain ⟨b2, o2, rfl, hbo2, hc2⟩ := HR2.out.addr (by omega)
      have y0 := hc2 k hlt
      clear hc1 hc2
      have i0 : (0 : Int) ≤ (k : Int) := by omega
      have i1 : (k : Int) < (n : Int) := by omega
      have HD := Lib.hid (lexI_drop (l1 := l1) (l2 := l2) (k := k) (by have := HL1.out; omega) (by have := HL2.out; omega))
      generalize l1.getD k 0 = z1 at *
      generalize l2.getD k 0 = z2 at *
      rcases Int.lt_trichotomy z1 z2 with hz | hz | hz
      · have HN : Hid (lexI l1 l2 = -1) := by
          have e : sgn z1 z2 = -1 := by unfold sgn; rw [if_pos hz]
          have := HD.out
          rw [e, if_neg (by omega)] at this
          exact HEQ.out.trans this
        clear HD HEQ
        go_wp2_with fail
        go_quiet (fail)
        go_wp2
        go_ret
        exact ⟨by rw [HN.out]; rfl, q + nq, by simp⟩
      · have HN : Hid (lexI l1 l2 = lexI (l1.drop (k + 1)) (l2.drop (k + 1))) := by
          have e : sgn z1 z2 = 0 := by unfold sgn; rw [if_neg (by omega), if_neg (by omega)]
          have := HD.out
          rw [e, if_pos rfl] at this
          exact HEQ.out.trans this
        have h1 : ¬ z1 < z2 := by omega
        have h2 : ¬ z2 < z1 := by omega
        have d1 : decide (z1 < z2) = false := by simpa using h1
        have d2 : decide (z2 < z1) = false := by simpa using h2
        clear HD HEQ hz
        go_wp2_with fail
        go_quiet (fail)
        generalize nq = q1 at *
        go_wp2_with fail
        go_quiet (fail)
        go_wp2
        go_roundw
        case rel => exact ⟨k + 1, q + q1 + nq, by omega, by go_num, HN.out, by simp⟩
        case measure => simp [intOf]; omega
      · have HN : Hid (lexI l1 l2 = 1) := by
          have e : sgn z1 z2 = 1 := by unfold sgn; rw [if_neg (by omega), if_pos hz]
          have := HD.out
          rw [e, if_neg (by omega)] at this
          exact HEQ.out.trans this
        have h1 : ¬ z1 < z2 := by omega
        have d1 : decide (z1 < z2) = false := by simpa using h1
        clear HD HEQ
        go_wp2_with fail
        go_quiet (fail)
        generalize nq = q1 at *
        go_wp2_with fail
        go_quiet (fail)
        go_wp2
        go_ret
        exact ⟨by rw [HN.out]; rfl, q + q1 + nq, by simp⟩
    · have HN : Hid (lexI l1 l2 = 0) := HEQ.out.trans (lexI_end0 (by have := HL1.out; omega) (by have := HL2.out; omega))
      clear HEQ
      go_wp2
      go_ret
      exact ⟨by rw [HN.out]; rfl, q, rfl⟩


/-- the first k symbols stand where the last are read from -/
def BackAt (l cur : List Int) (k : Nat) : Prop := cur.length = l.length ∧ ∀ j, l.length - k ≤ j → j < l.length → cur.getD j 0 = l.getD (l.length - 1 - j) 0
theorem backAt_set {l cur : List Int} {k : Nat} (h : BackAt l cur k) (hk : k < l.length) : BackAt l (cur.set (l.length - 1 - k) (l.getD k 0)) (k + 1) := by
  obtain ⟨h1, h2⟩ := h
  refine ⟨by simp [h1], fun j hj hj2 => ?_⟩
  rw [set_get _ _ _ _ (by omega)]
  by_cases e : l.length - 1 - k = j
  · rw [if_pos e]; congr 1; omega
  · rw [if_neg e]; exact h2 j (by omega) hj2
theorem backAt_end {l cur : List Int} {k : Nat} (h : BackAt l cur k) (hk : l.length ≤ k) : cur = l.reverse := by
  apply List.ext_getElem (by simp [h.1])
  intro j a b
  have hj : j < l.length := by have := h.1; omega
  have e := h.2 j (by omega) hj
  have e1 : cur.getD j 0 = cur[j] := by simp [a]
  have e2 : l.getD (l.length - 1 - j) 0 = l[l.length - 1 - j]'(by omega) := by simp [show l.length - 1 - j < l.length by omega]
  rw [e1, e2] at e
  rw [e, List.getElem_reverse]

set_option maxHeartbeats 2000000 in
theorem refBack_any (a : Option Addr) (n c : Nat) (l : List Int) (W : World) (hR : RK .i64 W a n l) (hn8 : n * 8 ≤ 140737488351232) :
    Calls Tryd.prog 59 #[.slice a n c] W fun e w' => ∃ a' c', e = .returned (.slice a' n c') ∧ w'.ownsRow W.heap.size 3 1 (.slice a' n c') n (l.reverse.map (Value.int .i64)) ∧ Below W.heap.size W w' := by
  have HL := Lib.hid hR.len
  have HR := Lib.hid hR; clear hR
  go_enter Tryd.func59, Tryd.ntmps59
  go_wp2_with (first
    | (at_make; refine mk_full rfl _ _ _ rfl W.heap.size et_int .i64 .i64 _ _ n rfl rfl rfl rfl (by omega) (by unfold maxLen; omega) (Nat.le_refl _) ?_; intro w1 hown1 hb1 hsz1; rw [made_i64'] at hown1))
  go_loopw [4] (fun ix wr => ∃ (k : Nat) (cur : List Int), k ≤ n ∧ ix = .int .i64 k ∧ BackAt l cur k ∧ wr.ownsRow W.heap.size 3 1 (.slice (some ⟨W.heap.size, 0, none⟩) n n) n (cur.map (Value.int .i64)) ∧ Below W.heap.size W wr) (fun ix _ => n - (intOf ix).toNat)
  case atStart => exact ⟨0, _, by omega, rfl, ⟨by have := HL.out; simp; omega, fun j h1 h2 => by have := HL.out; omega⟩, hown1, hb1⟩
  case round =>
    clear hown1
    obtain ⟨k, cur, hk, rfl, hbk, hown, hb⟩ := hrel
    by_cases hlt : k < n
    · obtain ⟨b, o, rfl, hbo, hcell⟩ := HR.out.addr (by omega)
      have c1 := (hb.cell (p := ⟨b, o + k, none⟩) hbo).trans (hcell k hlt)
      clear hcell
      obtain ⟨r, hr⟩ : ∃ r, n - 1 - k = r := ⟨_, rfl⟩
      have hri : (n : Int) - 1 - (k : Int) = (r : Int) := by omega
      have hrn : r < n := by omega
      have hcl : cur.length = n := by have := hbk.1; have := HL.out; omega
      have c0 : wr.cell? ⟨W.heap.size, r, none⟩ = some (.int .i64 (cur.getD r 0)) := by rw [hown.cellAt r (by omega), map_at _ _ _ (by omega)]
      have f0 := hown.frozenAt r
      have hts := backAt_set hbk (by have := HL.out; omega)
      rw [← HL.out, hr] at hts
      have hst := own_set hown r (.int .i64 (l.getD k 0))
      rw [map_set64] at hst
      have HTS := Lib.hid hts
      have HST := Lib.hid hst
      clear hts hst hr hbk hcl hown
      have i0 : (0 : Int) ≤ (r : Int) := by omega
      have i1 : (r : Int) < (n : Int) := by omega
      have i2 : (0 : Int) ≤ (k : Int) := by omega
      have i3 : (k : Int) < (n : Int) := by omega
      generalize l.getD k 0 = z at *
      generalize cur.getD r 0 = z2 at *
      go_wp2
      go_roundw
      case rel => exact ⟨k + 1, _, by omega, by go_num, HTS.out, HST.out, hb.setCell (p := ⟨W.heap.size, r, none⟩) (Nat.le_refl _) _⟩
      case measure => simp [intOf]; omega
    · have HF : Hid (cur = l.reverse) := backAt_end hbk (by have := HL.out; omega)
      clear hbk
      go_wp2
      go_ret
      exact ⟨_, _, rfl, by rw [← HF.out]; exact hown, hb⟩
theorem refCmp03 (a1 a2 : Option Addr) (n1 n2 c1 c2 : Nat) (l1 l2 : List Int) (W : World) (hR1 : RK .i64 W a1 n1 l1) (hR2 : RK .i64 W a2 n2 l2) (hm1 : n1 ≤ maxLen) (hm2 : n2 ≤ maxLen) :
    Calls Tryd.prog 57 #[.slice a1 n1 c1, .slice a2 n2 c2] W fun e w' => e = .returned (.int .i64 (cmpW l1 l2)) ∧ Below W.heap.size W w' := by
  have hl1 := hR1.len
  have hl2 := hR2.len
  unfold maxLen at hm1 hm2
  rcases Nat.lt_trichotomy n1 n2 with h | h | h
  · have HF : Hid (cmpW l1 l2 = -1) := by show _ = _; unfold cmpW or2 sgn; rw [← hl1, ← hl2, if_pos (show (n1 : Int) < (n2 : Int) by omega)]; rfl
    clear hR1 hR2 hl1 hl2
    go_enter Tryd.func57, Tryd.ntmps57
    go_wp2
    go_ret
    exact ⟨by rw [HF.out]; rfl, bnil _⟩
  · subst h
    have HF : Hid (cmpW l1 l2 = lexI l1 l2) := by show _ = _; unfold cmpW or2 sgn; rw [← hl1, ← hl2, if_neg (show ¬ (n1 : Int) < (n1 : Int) by omega), if_neg (show ¬ (n1 : Int) < (n1 : Int) by omega)]; rfl
    refine (refCmp_same a1 a2 n1 c1 c2 l1 l2 W hR1 hR2 (by unfold maxLen; omega)).mono ?_
    rintro e w' ⟨rfl, q, rfl⟩
    exact ⟨by rw [HF.out], bdrewN (bnil W) q⟩
  · have HF : Hid (cmpW l1 l2 = 1) := by show _ = _; unfold cmpW or2 sgn; rw [← hl1, ← hl2, if_neg (show ¬ (n1 : Int) < (n2 : Int) by omega), if_pos (show (n2 : Int) < (n1 : Int) by omega)]; rfl
    clear hR1 hR2 hl1 hl2
    go_enter Tryd.func57, Tryd.ntmps57
    go_wp2
    go_ret
    exact ⟨by rw [HF.out]; rfl, bnil _⟩
end Go.Proofs.YtnmegpplfbkpcaaDoor
