/- The contracts of slices.Clone, cmp.Compare, cmp.Or, slices.Compare, word.Cmp. -/
import Derived.Test.YtnmegpplfbkpcaaDoorWordC
import Derived.Test.YtnmegpplfbkpcaaDoorBase
import Derived.WalkKit
import Derived.WalkSpells
import Derived.Lib.Hide
namespace Go.Proofs.YtnmegpplfbkpcaaDoor
open Go.RowKit
set_option linter.unusedVariables false
set_option maxRecDepth 100000

/-- -1, 0, 1 -/
def sgn (a b : Int) : Int := if a < b then -1 else if b < a then 1 else 0
theorem cmpCompare_any (a b : Int) (W : World) :
    Calls Tryd.prog 73 #[.int .i64 a, .int .i64 b] W fun e w' => e = .returned (.int .i64 (sgn a b)) ∧ W = w' := by
  have ha : (a != a) = false := by simp
  have hb : (b != b) = false := by simp
  rcases Int.lt_trichotomy a b with h | h | h
  · have e : sgn a b = -1 := by unfold sgn; rw [if_pos h]
    rw [e]; clear e
    go_enter Tryd.func73, Tryd.ntmps73
    go_wp2
    go_ret
    exact ⟨rfl, rfl⟩
  · subst h
    have e : sgn a a = 0 := by unfold sgn; simp
    rw [e]; clear e
    go_enter Tryd.func73, Tryd.ntmps73
    go_wp2
    go_ret
    exact ⟨rfl, rfl⟩
  · have e : sgn a b = 1 := by unfold sgn; rw [if_neg (by omega), if_pos h]
    rw [e]; clear e
    go_enter Tryd.func73, Tryd.ntmps73
    go_wp2
    go_ret
    exact ⟨rfl, rfl⟩

/-- the first of two that is not 0 -/
def or2 (x y : Int) : Int := if x = 0 then y else x
theorem cmpOr_any (g : Nat) (x y : Int) (W : World) (h0 : W.cell? ⟨g, 0, none⟩ = some (.int .i64 x)) (h1 : W.cell? ⟨g, 1, none⟩ = some (.int .i64 y)) :
    Calls Tryd.prog 72 #[.slice (some ⟨g, 0, none⟩) 2 2] W fun e w' => e = .returned (.int .i64 (or2 x y)) ∧ W = w' := by
  by_cases hx : x = 0
  · subst hx
    have e : or2 0 y = y := by unfold or2; rw [if_pos rfl]
    rw [e]; clear e
    by_cases hy : y = 0
    · subst hy
      go_enter Tryd.func72, Tryd.ntmps72
      go_wp2_with fail
      refine wp_loop_rounds 3 ?_
      rw [rounds_succ]; go_wp2
      rw [rounds_succ]; go_wp2
      rw [rounds_succ]; go_wp2
      go_ret
      exact ⟨rfl, rfl⟩
    · have hyn : (y != 0) = true := by simpa using hy
      clear hy
      go_enter Tryd.func72, Tryd.ntmps72
      go_wp2_with fail
      refine wp_loop_rounds 2 ?_
      rw [rounds_succ]; go_wp2
      rw [rounds_succ]; go_wp2
      go_ret
      exact ⟨rfl, rfl⟩
  · have e : or2 x y = x := by unfold or2; rw [if_neg hx]
    have hxn : (x != 0) = true := by simpa using hx
    rw [e]; clear e hx
    go_enter Tryd.func72, Tryd.ntmps72
    go_wp2_with fail
    refine wp_loop_rounds 1 ?_
    rw [rounds_succ]; go_wp2
    go_ret
    exact ⟨rfl, rfl⟩

/-- the order of lists by their first place that differs -/
def lexI : List Int → List Int → Int
  | [], [] => 0
  | [], _ :: _ => -1
  | _ :: _, [] => 1
  | x :: a, y :: b => if x < y then -1 else if y < x then 1 else lexI a b

theorem lexI_drop {l1 l2 : List Int} {k : Nat} (h1 : k < l1.length) (h2 : k < l2.length) : lexI (l1.drop k) (l2.drop k) = if sgn (l1.getD k 0) (l2.getD k 0) = 0 then lexI (l1.drop (k + 1)) (l2.drop (k + 1)) else sgn (l1.getD k 0) (l2.getD k 0) := by
  rw [List.drop_eq_getElem_cons h1, List.drop_eq_getElem_cons h2]
  simp only [lexI, sgn, List.getD_eq_getElem?_getD, List.getElem?_eq_getElem h1, List.getElem?_eq_getElem h2, Option.getD_some]
  by_cases a : l1[k] < l2[k]
  · simp [a]
  · by_cases b : l2[k] < l1[k]
    · simp [a, b]
    · simp [a, b]
theorem lexI_end1 {l1 l2 : List Int} {k : Nat} (h1 : k < l1.length) (h2 : l2.length ≤ k) : lexI (l1.drop k) (l2.drop k) = 1 := by
  rw [List.drop_eq_getElem_cons h1, List.drop_of_length_le h2]; rfl
theorem lexI_end2 {l1 l2 : List Int} {k : Nat} (h1 : l1.length ≤ k) (h2 : k < l2.length) : lexI (l1.drop k) (l2.drop k) = -1 := by
  rw [List.drop_eq_getElem_cons h2, List.drop_of_length_le h1]; rfl
theorem lexI_end0 {l1 l2 : List Int} {k : Nat} (h1 : l1.length ≤ k) (h2 : l2.length ≤ k) : lexI (l1.drop k) (l2.drop k) = 0 := by
  rw [List.drop_of_length_le h1, List.drop_of_length_le h2]; rfl

set_option maxHeartbeats 1000000 in
theorem slicesCompare_any (a1 a2 : Option Addr) (n1 n2 c1 c2 : Nat) (l1 l2 : List Int) (W : World) (hR1 : RK .i64 W a1 n1 l1) (hR2 : RK .i64 W a2 n2 l2) (hm1 : n1 ≤ maxLen) (hm2 : n2 ≤ maxLen) :
    Calls Tryd.prog 74 #[.slice a1 n1 c1, .slice a2 n2 c2] W fun e w' => e = .returned (.int .i64 (lexI l1 l2)) ∧ W = w' := by
  unfold maxLen at hm1 hm2
  have HL1 := Lib.hid hR1.len
  have HL2 := Lib.hid hR2.len
  have HR1 := Lib.hid hR1; clear hR1
  have HR2 := Lib.hid hR2; clear hR2
  go_enter Tryd.func74, Tryd.ntmps74
  go_wp2_with fail
  go_loop [11] (fun i => ∃ k : Nat, k ≤ n1 ∧ k ≤ n2 ∧ i = .int .i64 k ∧ lexI l1 l2 = lexI (l1.drop k) (l2.drop k)) (fun i => n1 - (intOf i).toNat)
  case atStart => exact ⟨0, by omega, by omega, rfl, by simp⟩
  case round =>
    obtain ⟨k, hk1, hk2, rfl, heq⟩ := hrel
    have HEQ := Lib.hid heq; clear heq
    by_cases hlt : k < n1
    · obtain ⟨b1, o1, rfl, hbo1, hc1⟩ := HR1.out.addr (by omega)
      have x0 := hc1 k hlt
      clear hc1
      have i0 : (0 : Int) ≤ (k : Int) := by omega
      have i1 : (k : Int) < (n1 : Int) := by omega
      by_cases hlt2 : k < n2
      · obtain ⟨b2, o2, rfl, hbo2, hc2⟩ := HR2.out.addr (by omega)
        have y0 := hc2 k hlt2
        clear hc2
        have i2 : (k : Int) < (n2 : Int) := by omega
        have HD := Lib.hid (lexI_drop (l1 := l1) (l2 := l2) (k := k) (by have := HL1.out; omega) (by have := HL2.out; omega))
        generalize l1.getD k 0 = z1 at *
        generalize l2.getD k 0 = z2 at *
        go_wp2_with fail
        refine (cmpCompare_any z1 z2 _).mono ?_; rintro e w' ⟨rfl, rfl⟩
        by_cases hs : sgn z1 z2 = 0
        · have hsn : (sgn z1 z2 != 0) = false := by simpa using hs
          have HN : Hid (lexI l1 l2 = lexI (l1.drop (k + 1)) (l2.drop (k + 1))) := by
            have := HD.out
            rw [if_pos hs] at this
            exact HEQ.out.trans this
          clear hs
          generalize sgn z1 z2 = z at *
          go_wp2
          go_round
          case rel => exact ⟨k + 1, by omega, by omega, by go_num, HN.out⟩
          case measure => simp [intOf]; omega
        · have hsn : (sgn z1 z2 != 0) = true := by simpa using hs
          have HN : Hid (lexI l1 l2 = sgn z1 z2) := by
            have := HD.out
            rw [if_neg hs] at this
            exact HEQ.out.trans this
          clear hs
          generalize sgn z1 z2 = z at *
          go_wp2
          go_ret
          exact ⟨by rw [HN.out]; rfl, rfl⟩
      · have HN : Hid (lexI l1 l2 = 1) := HEQ.out.trans (lexI_end1 (by have := HL1.out; omega) (by have := HL2.out; omega))
        go_wp2
        go_ret
        exact ⟨by rw [HN.out]; rfl, rfl⟩
    · by_cases hlt2 : k < n2
      · have HN : Hid (lexI l1 l2 = -1) := HEQ.out.trans (lexI_end2 (by have := HL1.out; omega) (by have := HL2.out; omega))
        have hlt3 : n1 < n2 := by omega
        go_wp2
        go_ret
        exact ⟨by rw [HN.out]; rfl, rfl⟩
      · have HN : Hid (lexI l1 l2 = 0) := HEQ.out.trans (lexI_end0 (by have := HL1.out; omega) (by have := HL2.out; omega))
        have hge : n2 ≤ n1 := by omega
        go_wp2
        go_ret
        exact ⟨by rw [HN.out]; rfl, rfl⟩

/-- the order of words -/
def cmpW (l1 l2 : List Int) : Int := or2 (sgn l1.length l2.length) (lexI l1 l2)

set_option maxHeartbeats 1000000 in
theorem wordCmp_any (a1 a2 : Option Addr) (n1 n2 c1 c2 : Nat) (l1 l2 : List Int) (W : World) (hR1 : RK .i64 W a1 n1 l1) (hR2 : RK .i64 W a2 n2 l2) (hm1 : n1 ≤ maxLen) (hm2 : n2 ≤ maxLen) :
    Calls Tryd.prog 41 #[.slice a1 n1 c1, .slice a2 n2 c2] W fun e w' => e = .returned (.int .i64 (cmpW l1 l2)) ∧ Below W.heap.size W w' := by
  have HL1 := Lib.hid hR1.len
  have HL2 := Lib.hid hR2.len
  have HR1 := Lib.hid hR1; clear hR1
  have HR2 := Lib.hid hR2; clear hR2
  go_enter Tryd.func41, Tryd.ntmps41
  go_wp2_with fail
  refine (cmpCompare_any _ _ _).mono ?_; rintro e w' ⟨rfl, rfl⟩
  go_wp2_with fail
  refine (slicesCompare_any a1 a2 n1 n2 c1 c2 l1 l2 _ HR1.out HR2.out hm1 hm2).mono ?_; rintro e w' ⟨rfl, rfl⟩
  go_wp2_with fail
  refine (cmpOr_any _ (sgn n1 n2) (lexI l1 l2) _ (by simp) (by simp)).mono ?_; rintro e w' ⟨rfl, rfl⟩
  go_wp2
  go_ret
  refine ⟨?_, balloc (bnil W) _⟩
  unfold cmpW
  rw [← HL1.out, ← HL2.out]; rfl
end Go.Proofs.YtnmegpplfbkpcaaDoor
