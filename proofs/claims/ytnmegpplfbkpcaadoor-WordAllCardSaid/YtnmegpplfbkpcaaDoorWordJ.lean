/- The contract of word.At. -/
import Derived.Test.YtnmegpplfbkpcaaDoorNatE
import Derived.Test.YtnmegpplfbkpcaaDoorWordI
namespace Go.Proofs.YtnmegpplfbkpcaaDoor
open Go.RowKit
set_option linter.unusedVariables false
set_option maxRecDepth 100000

def dig (k n I q : Nat) : Nat := I / k ^ (n - 1 - q) % k
def digs (k n I : Nat) : List Int := (List.range n).map fun q => ((dig k n I q : Nat) : Int)
theorem digs_len (k n I : Nat) : (digs k n I).length = n := by simp [digs]
/-- the digits from place p on are written -/
def AtAt (k n I : Nat) (cur : List Int) (p : Nat) : Prop := cur.length = n ∧ ∀ q, p ≤ q → q < n → cur.getD q 0 = (dig k n I q : Nat)
theorem atAt_step {k n I t : Nat} {cur : List Int} (h : AtAt k n I cur (t + 1)) (ht : t < n) : AtAt k n I (cur.set t ((I / k ^ (n - (t + 1)) % k : Nat) : Int)) t := by
  refine ⟨by simpa using h.1, fun q hq hqn => ?_⟩
  by_cases e : q = t
  · subst e
    have hl : q < cur.length := by rw [h.1]; exact ht
    rw [List.getD_eq_getElem?_getD, List.getElem?_set_self hl]
    show ((I / k ^ (n - (q + 1)) % k : Nat) : Int) = _
    unfold dig
    rw [show n - 1 - q = n - (q + 1) by omega]
  · have := h.2 q (by omega) hqn
    rw [List.getD_eq_getElem?_getD, List.getElem?_set_ne (fun e2 => e e2.symm), ← List.getD_eq_getElem?_getD]
    exact this
theorem atAt_end {k n I : Nat} {cur : List Int} (h : AtAt k n I cur 0) : cur = digs k n I := by
  apply List.ext_getElem
  · rw [h.1, digs_len]
  · intro i h1 h2
    have := h.2 i (Nat.zero_le _) (by rw [← h.1]; exact h1)
    simp [h1] at this
    simp [digs, this]
theorem left_step {k n I t : Nat} (ht : t < n) : I / k ^ (n - (t + 1)) / k = I / k ^ (n - t) := by
  rw [Nat.div_div_eq_div_mul, ← Nat.pow_succ, show (n - (t + 1)).succ = n - t from by omega]
theorem made_i64z (n : Nat) : (madeCells (Value.int .i64 0).cells (n * 1)).toList = (List.replicate n (0 : Int)).map (Value.int .i64) := by
  rw [show (Value.int .i64 0).cells = #[.int .i64 0] from by rfl, toList_madeCells_one]
  simp
theorem div_len {l : List Nat} {k : Nat} (h : U32 l) : (limbs (val l / k)).length ≤ l.length := limbs_len_le (Nat.lt_of_le_of_lt (Nat.div_le_self _ _) (val_lt h))

set_option maxHeartbeats 4000000 in
theorem at_any (k n : Nat) (a : Option Addr) (n1 c1 : Nat) (l : List Nat) (W : World) (R : Nat → Addr) (hG : Glob W R) (hR : NR W a n1 l) (hm : n1 ≤ 1000000) (hnc : n1 ≤ c1) (hcm : c1 ≤ maxLen) (k1 : 1 ≤ k) (k4 : k ≤ 4) (hn : n ≤ 256) :
    Calls Tryd.prog 50 #[.int .i64 k, .int .i64 n, .slice a n1 c1] W fun e w' => Below W.heap.size W w' ∧
      (val l < k ^ n → ∃ a' c', e = .returned (.tuple #[.slice a' n c', .nilIface]) ∧ w'.ownsRow W.heap.size 3 1 (.slice a' n c') n ((digs k n (val l)).map (Value.int .i64))) ∧
      (k ^ n ≤ val l → ∃ g, e = .returned (.tuple #[.slice none 0 0, .iface 100 (.pointer (some ⟨g, 0, none⟩))]) ∧ IsErr W.heap.size R w' (.iface 100 (.pointer (some ⟨g, 0, none⟩))) opWord 0 3) := by
  obtain ⟨I, hI⟩ : ∃ I, val l = I := ⟨_, rfl⟩
  rw [hI]
  have hal : alphB (k : Int) = true := alph_true.2 ⟨by omega, by omega⟩
  have hk0 : 0 < k ^ n := Nat.pow_pos k1
  obtain ⟨K, hK⟩ : ∃ K, k ^ n = K := ⟨_, rfl⟩
  rw [hK]
  rw [hK] at hk0
  have HK := Lib.hid hK; clear hK
  have HI := Lib.hid hI; clear hI
  have HR := Lib.hid hR; clear hR
  have HG := Lib.hid hG; clear hG
  go_enter Tryd.func50, Tryd.ntmps50
  go_wp2_with fail
  refine (alph_any _ _).mono ?_; rintro e w' ⟨rfl, rfl⟩
  rw [hal]
  go_wp2_with (first
    | (at_make; refine mk_full rfl _ _ _ rfl W.heap.size et_int .i64 .i64 _ _ n rfl rfl rfl rfl (by omega) (by unfold maxLen; omega) (Nat.le_refl _) ?_; intro w1 hown1 hb1 hsz1; rw [made_i64z] at hown1))
  go_loopw [2, 9] (fun sx ix wr => ∃ (p : Nat) (a2 : Option Addr) (n2 c2 : Nat) (l2 : List Nat) (cur : List Int), p ≤ n ∧ ix = .int .i64 ((p : Int) - 1) ∧ sx = .slice a2 n2 c2 ∧ NR wr a2 n2 l2 ∧ n2 ≤ 1000000 ∧ n2 ≤ c2 ∧ c2 ≤ maxLen ∧ val l2 = I / k ^ (n - p) ∧ AtAt k n I cur p ∧ wr.ownsRow W.heap.size 3 1 (.slice (some ⟨W.heap.size, 0, none⟩) n n) n (cur.map (Value.int .i64)) ∧ Below W.heap.size W wr) (fun _ ix _ => (intOf ix + 1).toNat)
  case atStart => exact ⟨n, a, n1, c1, l, _, Nat.le_refl _, rfl, rfl, HR.out.up hb1, hm, hnc, hcm, by rw [HI.out, Nat.sub_self, Nat.pow_zero, Nat.div_one], ⟨by simp, fun q h1 h2 => by omega⟩, hown1, hb1⟩
  case round =>
    clear hown1
    obtain ⟨p, a2, n2, c2, l2, cur, hp, rfl, rfl, hR2, hm2, hnc2, hcm2, hval, hat, hown, hb⟩ := hrel
    have hl2 := hR2.len
    cases p with
    | zero =>
      rw [Nat.sub_zero, HK.out] at hval
      have hcur := atAt_end hat
      subst hcur
      have e0 : ((0 : Nat) : Int) - 1 = -1 := by omega
      rw [e0]
      have HV := Lib.hid hval
      have HO := Lib.hid hown
      have HB := Lib.hid hb
      have HR2 := Lib.hid hR2
      clear hval hat hown hb hR2 hl2 e0
      go_wp2_with fail
      refine (bits_any a2 n2 c2 l2 _ HR2.out hm2 hnc2 hcm2).mono ?_; rintro e w5 ⟨m, rfl, hm0, rfl⟩
      rw [HV.out] at hm0
      by_cases hlt : I < K
      · have hd : I / K = 0 := Nat.div_eq_of_lt hlt
        obtain rfl : m = 0 := hm0.2 hd
        have HLT := Lib.hid hlt
        clear hm0 hd hlt
        go_wp2
        go_ret2
        exact ⟨HB.out, fun _ => ⟨_, _, rfl, HO.out⟩, fun h => by have := HLT.out; omega⟩
      · have hd : I / K ≠ 0 := by
          have := Nat.div_pos (show K ≤ I by omega) hk0
          omega
        have hmp : 0 < m := by
          rcases Nat.eq_zero_or_pos m with h | h
          · exact absurd (hm0.1 h) hd
          · exact h
        have HLT := Lib.hid hlt
        have HG2 := Lib.hid (HG.out.up HB.out)
        clear hm0 hd hlt
        have hsz := HB.out.size
        go_wp2_with fail
        refine (word_wrong _ _ _ R HG2.out rfl).mono ?_; rintro e w' ⟨rfl, rfl⟩
        have HB9 := Lib.hid (HB.out.alloc HB.out.size (faultObj opWord 0 (.iface 166 (.pointer (some (R (rix 3)))))))
        go_wp2
        go_ret2
        exact ⟨HB9.out, fun h => absurd h HLT.out, fun _ => ⟨_, rfl, isErr_new hsz⟩⟩
    | succ t =>
      have ej : ((t + 1 : Nat) : Int) - 1 = (t : Int) := by omega
      rw [ej]
      have hov := over_any a2 n2 c2 k l2 wr hR2 (by omega) (by show k < 4294967296; omega) k1
      rw [hval, left_step (by omega)] at hov
      have hnx := atAt_step hat (by omega)
      have hrk : I / k ^ (n - (t + 1)) % k < 4 := Nat.lt_of_lt_of_le (Nat.mod_lt _ k1) k4
      have hdl : (limbs (I / k ^ (n - t))).length ≤ 1000000 := by
        have h1 := div_len (k := k) hR2.2
        rw [hval, left_step (by omega)] at h1
        omega
      have htl : t < cur.length := by rw [hat.1]; omega
      have HNX := Lib.hid hnx
      have HDL := Lib.hid hdl
      have HOV := Lib.hid hov
      have HO := Lib.hid hown
      have HB := Lib.hid hb
      have HTL := Lib.hid htl
      clear hval hat hown hb hR2 hl2 ej hnx hdl hov htl
      generalize I / k ^ (n - (t + 1)) % k = r at *
      have i0 : (0 : Int) ≤ (t : Int) := by omega
      have i1 : (t : Int) < (n : Int) := by omega
      have km : (k : Int) % 4294967296 = (k : Int) := Int.emod_eq_of_lt (by omega) (by omega)
      go_wp2_with fail
      refine HOV.out.mono ?_; rintro e w5 ⟨a3, n3, c3, rfl, ho3, hv3, hb5⟩
      have hown5 := own_up HO.out hb5
      have z0 : w5.cell? ⟨W.heap.size, t, none⟩ = some (.int .i64 (cur.getD t 0)) := by
        rw [hown5.cellAt t (by omega)]
        have := HTL.out
        simp [this]
      have f0 := hown5.frozenAt t
      have hst := own_set hown5 t (.int .i64 (r : Int))
      rw [← List.map_set] at hst
      have hb9 := (HB.out.trans (hb5.mono HB.out.size)).setCell (p := ⟨W.heap.size, t, none⟩) (Nat.le_refl _) (.int .i64 (r : Int))
      have hn3 : n3 ≤ 1000000 := by rw [hv3.len]; exact HDL.out
      have hv9 : NR (w5.setCell ⟨W.heap.size, t, none⟩ (.int .i64 (r : Int))) a3 n3 (limbs (I / k ^ (n - t))) := by
        have hlt := own_lt HO.out W.heap.size rfl
        refine ⟨RK.of_own (own_set_other ho3 ?_ _), hv3.nr.2⟩
        intro e
        have := (ho3.lt _ e).1
        omega
      have HST := Lib.hid hst
      have HB9 := Lib.hid hb9
      have HV9 := Lib.hid hv9
      have hle3 := hv3.le
      have hcm3 := hv3.cm
      clear hown5 hst hb9 hv9 hb5 hv3 ho3 HO HB HOV
      generalize cur.getD t 0 = z at *
      go_wp2
      go_roundw
      case rel => exact ⟨t, _, _, _, _, _, by omega, rfl, rfl, HV9.out, hn3, hle3, hcm3, val_limbs _, HNX.out, HST.out, HB9.out⟩
      case measure => first | (simp [intOf]; done) | (simp [intOf]; omega)

set_option maxHeartbeats 2000000 in
theorem at_err (k n : Int) (v : Value) (W : World) (R : Nat → Addr) (hG : Glob W R) (c : Int) (h : ((alphB k = false ∨ n < 0) ∧ c = 3) ∨ (alphB k = true ∧ 256 < n ∧ c = 4)) :
    Calls Tryd.prog 50 #[.int .i64 k, .int .i64 n, v] W fun e w' => ∃ g, e = .returned (.tuple #[.slice none 0 0, .iface 100 (.pointer (some ⟨g, 0, none⟩))]) ∧ IsErr W.heap.size R w' (.iface 100 (.pointer (some ⟨g, 0, none⟩))) opWord 0 c ∧ Below W.heap.size W w' := by
  have HG := Lib.hid hG; clear hG
  by_cases ha : alphB k = true
  · by_cases hn : n < 0
    · obtain rfl : c = 3 := by
        rcases h with ⟨_, h⟩ | ⟨_, h, _⟩
        · exact h
        · omega
      have d1 : decide (n < 0) = true := by simpa using hn
      clear h
      go_enter Tryd.func50, Tryd.ntmps50
      go_wp2_with fail
      refine (alph_any _ _).mono ?_; rintro e w' ⟨rfl, rfl⟩
      rw [ha]
      go_wp2_with fail
      refine (word_wrong _ _ _ R HG.out rfl).mono ?_; rintro e w' ⟨rfl, rfl⟩
      go_wp2
      go_ret2
      exact ⟨_, rfl, isErr_new (Nat.le_refl _), balloc (bnil W) _⟩
    · obtain ⟨h1, rfl⟩ : 256 < n ∧ c = 4 := by
        rcases h with ⟨h | h, _⟩ | ⟨_, h1, h2⟩
        · rw [ha] at h; cases h
        · exact absurd h hn
        · exact ⟨h1, h2⟩
      have d1 : decide (n < 0) = false := by simpa using hn
      clear h
      go_enter Tryd.func50, Tryd.ntmps50
      go_wp2_with fail
      refine (alph_any _ _).mono ?_; rintro e w' ⟨rfl, rfl⟩
      rw [ha]
      go_wp2_with fail
      refine (word_wrong _ _ _ R HG.out rfl).mono ?_; rintro e w' ⟨rfl, rfl⟩
      go_wp2
      go_ret2
      exact ⟨_, rfl, isErr_new (Nat.le_refl _), balloc (bnil W) _⟩
  · have ha2 : alphB k = false := by simpa using ha
    obtain rfl : c = 3 := by
      rcases h with ⟨_, h⟩ | ⟨h, _⟩
      · exact h
      · exact absurd h ha
    clear h ha
    go_enter Tryd.func50, Tryd.ntmps50
    go_wp2_with fail
    refine (alph_any _ _).mono ?_; rintro e w' ⟨rfl, rfl⟩
    rw [ha2]
    go_wp2_with fail
    refine (word_wrong _ _ _ R HG.out rfl).mono ?_; rintro e w' ⟨rfl, rfl⟩
    go_wp2
    go_ret2
    exact ⟨_, rfl, isErr_new (Nat.le_refl _), balloc (bnil W) _⟩
end Go.Proofs.YtnmegpplfbkpcaaDoor
