/- The contracts of slices.Clone, word.Next. -/
import Derived.Test.YtnmegpplfbkpcaaDoorWordD
import Derived.Test.YtnmegpplfbkpcaaDoorWordP
import Derived.Test.YtnmegpplfbkpcaaDoorClone
import Derived.WalkKit
import Derived.WalkSpells
import Derived.Lib.Hide
namespace Go.Proofs.YtnmegpplfbkpcaaDoor
open Go.RowKit
set_option linter.unusedVariables false
set_option maxRecDepth 100000

theorem made_intE (n : Nat) : (madeCells (Value.int .i64 0).cells (n * 1)).toList = (List.replicate n (0 : Int)).map (Value.int .i64) := by
  rw [show (Value.int .i64 0).cells = #[.int .i64 0] from by rfl, toList_madeCells_one]
  simp

/-- l with its number at i raised, and nothing behind -/
def bump (l : List Int) (i : Nat) : List Int := l.take i ++ (l.getD i 0 + 1) :: List.replicate (l.length - 1 - i) 0
theorem bump_len {l : List Int} {i : Nat} (h : i < l.length) : (bump l i).length = l.length := by simp [bump]; omega
/-- the word behind l, in its length: i is the last place that can be raised -/
def LastUp (k : Int) (l : List Int) (i : Nat) : Prop := i < l.length ∧ l.getD i 0 < k - 1 ∧ ∀ j, i < j → j < l.length → ¬ l.getD j 0 < k - 1
def NoUp (k : Int) (l : List Int) : Prop := ∀ j, j < l.length → ¬ l.getD j 0 < k - 1
theorem lastUp_or (k : Int) (l : List Int) : (∃ i, LastUp k l i) ∨ NoUp k l := by
  by_cases h : ∃ j, j < l.length ∧ l.getD j 0 < k - 1
  · left
    have : ∀ m, (∃ j, l.length ≤ j + m ∧ j < l.length ∧ l.getD j 0 < k - 1) → ∃ i, LastUp k l i := by
      intro m
      induction m with
      | zero => rintro ⟨j, h1, h2, _⟩; omega
      | succ m ih =>
        rintro ⟨j, h1, h2, h3⟩
        by_cases hn : ∃ j2, j < j2 ∧ j2 < l.length ∧ l.getD j2 0 < k - 1
        · obtain ⟨j2, a, b, c⟩ := hn
          exact ih ⟨j2, by omega, b, c⟩
        · exact ⟨j, h2, h3, fun j2 a b c => hn ⟨j2, a, b, c⟩⟩
    obtain ⟨j, a, b⟩ := h
    exact this l.length ⟨j, by omega, a, b⟩
  · right
    exact fun j hj hlt => h ⟨j, hj, hlt⟩

/-- l as far as the place i, nothing behind -/
def zeroed (l : List Int) (i : Nat) : List Int := l.take i ++ List.replicate (l.length - i) 0
theorem zeroed_len (l : List Int) (i : Nat) (h : i ≤ l.length) : (zeroed l i).length = l.length := by simp [zeroed]; omega
theorem zeroed_at (l : List Int) (i j : Nat) (h : i ≤ l.length) (hj : j < i) : (zeroed l i).getD j 0 = l.getD j 0 := by
  unfold zeroed
  simp only [List.getD_eq_getElem?_getD]
  rw [List.getElem?_append_left (by simp; omega), List.getElem?_take, if_pos hj]
theorem zeroed_set (l : List Int) (i : Nat) (h : i < l.length) : (zeroed l (i + 1)).set i 0 = zeroed l i := by
  unfold zeroed
  rw [List.take_succ_eq_append_getElem h, List.append_assoc, List.set_append_right _ _ (by simp; omega)]
  have e : i - (l.take i).length = 0 := by simp; omega
  rw [e]
  have e2 : l.length - i = (l.length - (i + 1)) + 1 := by omega
  rw [e2, List.replicate_succ]
  rfl
theorem zeroed_bump (l : List Int) (i : Nat) (h : i < l.length) : (zeroed l (i + 1)).set i (l.getD i 0 + 1) = bump l i := by
  unfold zeroed bump
  rw [List.take_succ_eq_append_getElem h, List.append_assoc, List.set_append_right _ _ (by simp; omega)]
  have e : i - (l.take i).length = 0 := by simp; omega
  rw [e]
  have e2 : l.length - 1 - i = l.length - (i + 1) := by omega
  rw [e2]
  rfl
theorem zeroed_all (l : List Int) : zeroed l l.length = l := by simp [zeroed]
theorem map_set64 (l : List Int) (i : Nat) (x : Int) : (l.map (Value.int .i64)).set i (.int .i64 x) = (l.set i x).map (Value.int .i64) := by rw [List.map_set]
theorem map_at (k : IntKind) (l : List Int) (i : Nat) (h : i < l.length) : (l.map (Value.int k))[i]? = some (.int k (l.getD i 0)) := by simp [h]

theorem next_err0 (k : Int) (a : Option Addr) (n c : Nat) (l : List Int) (W : World) (R : Nat → Addr) (hG : Glob W R) (hR : RK .i64 W a n l) (hm : n ≤ maxLen) (x : Int × Int) (he : chkErr k l = some x) :
    Calls Tryd.prog 39 #[.int .i64 k, .slice a n c] W fun e w' => ∃ g, e = .returned (.tuple #[.slice none 0 0, .iface 100 (.pointer (some ⟨g, 0, none⟩))]) ∧ IsErr W.heap.size R w' (.iface 100 (.pointer (some ⟨g, 0, none⟩))) opWord x.1 x.2 ∧ Below W.heap.size W w' := by
  have HE := Lib.hid he; clear he
  have HG := Lib.hid hG; clear hG
  have HR := Lib.hid hR; clear hR
  go_enter Tryd.func39, Tryd.ntmps39
  go_wp2_with fail
  refine (check_err k a n c l _ R HG.out HR.out hm x HE.out).mono ?_; rintro e w1 ⟨g, rfl, he1, hb1⟩
  have HE1 := Lib.hid he1; clear he1
  go_wp2
  go_ret2
  exact ⟨g, rfl, HE1.out, hb1⟩

set_option maxHeartbeats 2000000 in
theorem next_up (k : Int) (a : Option Addr) (n c : Nat) (l : List Int) (W : World) (R : Nat → Addr) (hG : Glob W R) (hR : RK .i64 W a n l) (hm : n * 8 ≤ 140737488351232) (hnc : n ≤ c) (hcap : a = none → c = 0) (he : chkErr k l = none) (i : Nat) (hu : LastUp k l i) :
    Calls Tryd.prog 39 #[.int .i64 k, .slice a n c] W fun e w' => ∃ a' c', e = .returned (.tuple #[.slice a' n c', .nilIface]) ∧ w'.ownsRow W.heap.size 3 1 (.slice a' n c') n ((bump l i).map (Value.int .i64)) ∧ Below W.heap.size W w' := by
  obtain ⟨k1, k2, h4096, hall⟩ := chk_none he
  have hlen := hR.len
  have hin : i < n := by have := hu.1; omega
  have hz : 0 ≤ l.getD i 0 ∧ l.getD i 0 < k - 1 := ⟨(hall _ (by simp [hu.1])).1, hu.2.1⟩
  have hn4 : n ≤ 4096 := by omega
  have HL := Lib.hid hlen; clear hlen
  have HU := Lib.hid hu.2.2; clear hu
  have HALL := Lib.hid hall; clear hall
  have HE := Lib.hid he; clear he
  have HG := Lib.hid hG; clear hG
  have HR := Lib.hid hR; clear hR
  go_enter Tryd.func39, Tryd.ntmps39
  go_wp2_with fail
  refine (check_ok k a n c l _ R HG.out HR.out (by unfold maxLen; omega) HE.out).mono ?_; rintro e w1 ⟨rfl, hb1⟩
  go_wp2_with fail
  refine (clone_any a n c l _ (HR.out.up hb1) hm hnc hcap).mono ?_; rintro e w2 ⟨a2, c2, rfl, hown2, hb2⟩
  obtain ⟨g, rfl, hg1, hg2⟩ := own_form hown2 (by omega)
  have hown3 : w2.ownsRow w1.heap.size 3 1 (.slice (some ⟨g, 0, none⟩) n c2) n ((zeroed l n).map (Value.int .i64)) := by
    rw [show zeroed l n = l from by rw [HL.out]; exact zeroed_all l]; exact hown2
  clear hown2
  go_wp2_with fail
  go_loopw [8] (fun ix wr => ∃ (j : Nat), i < j ∧ j ≤ n ∧ ix = .int .i64 ((j : Int) - 1) ∧ wr.ownsRow w1.heap.size 3 1 (.slice (some ⟨g, 0, none⟩) n c2) n ((zeroed l j).map (Value.int .i64)) ∧ Below w1.heap.size w1 wr) (fun ix _ => (intOf ix + 1).toNat)
  case atStart => exact ⟨n, hin, Nat.le_refl _, rfl, hown3, hb2⟩
  case round =>
    clear hown3
    obtain ⟨j, hij, hjn, rfl, hown, hb⟩ := hrel
    obtain ⟨j, rfl⟩ : ∃ j', j = j' + 1 := ⟨j - 1, by omega⟩
    have ej : ((j + 1 : Nat) : Int) - 1 = (j : Int) := by omega
    rw [ej]
    clear ej
    have c0 : wr.cell? ⟨g, j, none⟩ = some (.int .i64 (l.getD j 0)) := by
      rw [hown.cellAt j (by omega), map_at _ _ _ (by rw [zeroed_len _ _ (by have := HL.out; omega)]; have := HL.out; omega), zeroed_at _ _ _ (by have := HL.out; omega) (by omega)]
    have f0 := hown.frozenAt j
    have i0 : (0 : Int) ≤ (j : Int) := by omega
    have i1 : (j : Int) < (n : Int) := by omega
    have hz2 : l.getD j 0 < k := (HALL.out _ (by have := HL.out; simp [show j < l.length by omega])).2
    by_cases hji : j = i
    · subst hji
      have hst := own_set hown j (.int .i64 (l.getD j 0 + 1))
      rw [map_set64, zeroed_bump _ _ (by have := HL.out; omega)] at hst
      have HST := Lib.hid hst; clear hst hown
      obtain ⟨z1, z2⟩ := hz
      generalize l.getD j 0 = z at *
      go_wp2
      go_ret2
      exact ⟨_, _, rfl, owns_base HST.out hb1.size, hb1.trans ((hb.setCell (p := ⟨g, j, none⟩) hg1 _).mono hb1.size)⟩
    · have hge : k - 1 ≤ l.getD j 0 := by have := HU.out j (by omega) (by have := HL.out; omega); omega
      have hst := own_set hown j (.int .i64 0)
      rw [map_set64, zeroed_set _ _ (by have := HL.out; omega)] at hst
      have HST := Lib.hid hst; clear hst hown
      clear hz
      generalize l.getD j 0 = z at *
      go_wp2
      go_roundw
      case rel => exact ⟨j, by omega, by omega, by go_num, HST.out, hb.setCell (p := ⟨g, j, none⟩) hg1 _⟩
      case measure => first | (simp [intOf]; done) | (simp [intOf]; omega)

set_option maxHeartbeats 2000000 in
theorem next_all (k : Int) (a : Option Addr) (n c : Nat) (l : List Int) (W : World) (R : Nat → Addr) (hG : Glob W R) (hR : RK .i64 W a n l) (hm : n * 8 ≤ 140737488351232) (hnc : n ≤ c) (hcap : a = none → c = 0) (he : chkErr k l = none) (hu : NoUp k l) :
    Calls Tryd.prog 39 #[.int .i64 k, .slice a n c] W fun e w' =>
      (n < 4096 → ∃ a' c', e = .returned (.tuple #[.slice a' (n + 1) c', .nilIface]) ∧ w'.ownsRow W.heap.size 3 1 (.slice a' (n + 1) c') (n + 1) ((List.replicate (n + 1) 0).map (Value.int .i64)) ∧ Below W.heap.size W w') ∧
      (¬ n < 4096 → ∃ g, e = .returned (.tuple #[.slice none 0 0, .iface 100 (.pointer (some ⟨g, 0, none⟩))]) ∧ IsErr W.heap.size R w' (.iface 100 (.pointer (some ⟨g, 0, none⟩))) opWord 0 4 ∧ Below W.heap.size W w') := by
  obtain ⟨k1, k2, h4096, hall⟩ := chk_none he
  have hlen := hR.len
  have hn4 : n ≤ 4096 := by omega
  have HL := Lib.hid hlen; clear hlen
  have HU := Lib.hid hu; clear hu
  have HALL := Lib.hid hall; clear hall
  have HE := Lib.hid he; clear he
  have HG := Lib.hid hG; clear hG
  have HR := Lib.hid hR; clear hR
  go_enter Tryd.func39, Tryd.ntmps39
  go_wp2_with fail
  refine (check_ok k a n c l _ R HG.out HR.out (by unfold maxLen; omega) HE.out).mono ?_; rintro e w1 ⟨rfl, hb1⟩
  go_wp2_with fail
  refine (clone_any a n c l _ (HR.out.up hb1) hm hnc hcap).mono ?_; rintro e w2 ⟨a2, c2, rfl, hown2, hb2⟩
  have hown3 : w2.ownsRow w1.heap.size 3 1 (.slice a2 n c2) n ((zeroed l n).map (Value.int .i64)) := by
    rw [show zeroed l n = l from by rw [HL.out]; exact zeroed_all l]; exact hown2
  clear hown2
  go_wp2_with fail
  go_loopw [8] (fun ix wr => ∃ (j : Nat), j ≤ n ∧ ix = .int .i64 ((j : Int) - 1) ∧ wr.ownsRow w1.heap.size 3 1 (.slice a2 n c2) n ((zeroed l j).map (Value.int .i64)) ∧ Below w1.heap.size w1 wr) (fun ix _ => (intOf ix + 1).toNat)
  case atStart => exact ⟨n, Nat.le_refl _, rfl, hown3, hb2⟩
  case round =>
    clear hown3
    obtain ⟨j, hjn, rfl, hown, hb⟩ := hrel
    cases j with
    | succ j =>
      obtain ⟨g, rfl, hg1, hg2⟩ := own_form hown (by omega)
      have ej : ((j + 1 : Nat) : Int) - 1 = (j : Int) := by omega
      rw [ej]
      clear ej
      have c0 : wr.cell? ⟨g, j, none⟩ = some (.int .i64 (l.getD j 0)) := by
        rw [hown.cellAt j (by omega), map_at _ _ _ (by rw [zeroed_len _ _ (by have := HL.out; omega)]; have := HL.out; omega), zeroed_at _ _ _ (by have := HL.out; omega) (by omega)]
      have f0 := hown.frozenAt j
      have i0 : (0 : Int) ≤ (j : Int) := by omega
      have i1 : (j : Int) < (n : Int) := by omega
      have hz2 : l.getD j 0 < k := (HALL.out _ (by have := HL.out; simp [show j < l.length by omega])).2
      have hge : k - 1 ≤ l.getD j 0 := by have := HU.out j (by have := HL.out; omega); omega
      have hst := own_set hown j (.int .i64 0)
      rw [map_set64, zeroed_set _ _ (by have := HL.out; omega)] at hst
      have HST := Lib.hid hst; clear hst hown
      generalize l.getD j 0 = z at *
      go_wp2
      go_roundw
      case rel => exact ⟨j, by omega, by go_num, HST.out, hb.setCell (p := ⟨g, j, none⟩) hg1 _⟩
      case measure => first | (simp [intOf]; done) | (simp [intOf]; omega)
    | zero =>
      have hbW : Below W.heap.size W wr := hb1.trans (hb.mono hb1.size)
      clear hown
      have e0 : ((0 : Nat) : Int) - 1 = -1 := by omega
      rw [e0]
      clear e0
      by_cases h4 : n < 4096
      · have heq : ((n : Int) == 4096) = false := by simp; omega
        go_wp2_with (first
          | (at_make; refine mk_full rfl _ _ _ rfl wr.heap.size et_int .i64 .i64 _ _ (n + 1) rfl rfl (by omega) (by omega) (by omega) (by unfold maxLen; omega) (Nat.le_refl _) ?_; intro w3 hown3 hb3 hsz3))
        go_ret2
        refine ⟨fun _ => ⟨_, _, rfl, ?_, bstep hbW hb3⟩, fun h => absurd h4 h⟩
        rw [made_intE] at hown3
        exact owns_base hown3 hbW.size
      · have heq : ((n : Int) == 4096) = true := by simp; omega
        go_wp2_with fail
        refine (word_wrong _ _ _ R (HG.out.up hbW) rfl).mono ?_; rintro e w' ⟨rfl, rfl⟩
        go_wp2
        go_ret2
        exact ⟨fun h => absurd h h4, fun _ => ⟨_, rfl, isErr_at rfl hbW.size, balloc hbW _⟩⟩
end Go.Proofs.YtnmegpplfbkpcaaDoor
