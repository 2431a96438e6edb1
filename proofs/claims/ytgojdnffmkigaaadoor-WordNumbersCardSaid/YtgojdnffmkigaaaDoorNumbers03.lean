/- The walk of edenlaw03.WordNumbers. -/
import Derived.Test.YtgojdnffmkigaaaDoorAwake03
import Derived.Test.YtgojdnffmkigaaaDoorWordS
import Derived.Test.YtgojdnffmkigaaaDoorWordK
import Derived.WalkKit
import Derived.Lib.Hide
namespace Go.Proofs.YtgojdnffmkigaaaDoor
open Go.RowKit
set_option linter.unusedVariables false
set_option maxRecDepth 100000

/-- a slice of limbs with its bounds -/
structure Ns (w : World) (a : Option Addr) (n c : Nat) (l : List Nat) : Prop where
  nr : NR w a n l
  le : n ≤ c
  cm : c ≤ maxLen
theorem Ns.up {w w' : World} {a : Option Addr} {n c : Nat} {l : List Nat} (h : Ns w a n c l) (hb : Below w.heap.size w w') : Ns w' a n c l := ⟨h.nr.up hb, h.le, h.cm⟩

def PairBelow (W : World) (e : Ending) (w' : World) : Prop := ∃ v1 v2, e = .returned (.tuple #[v1, v2]) ∧ Below W.heap.size W w'
theorem pow_all (k : Nat) (n : Int) (W : World) (R : Nat → Addr) (hG : Glob W R) (hk : k < B32) :
    Calls Tryd.prog 28 #[.int .u32 k, .int .i64 n] W (PairBelow W) := by
  by_cases h1 : n < 0
  · exact (pow_err k n W R hG 3 (.inl ⟨h1, rfl⟩)).mono fun e w' ⟨g, h, _, hb⟩ => ⟨_, _, h, hb⟩
  · by_cases h2 : 1024 < n
    · exact (pow_err k n W R hG 4 (.inr ⟨h2, rfl⟩)).mono fun e w' ⟨g, h, _, hb⟩ => ⟨_, _, h, hb⟩
    · obtain ⟨m, rfl⟩ : ∃ m : Nat, n = (m : Int) := ⟨n.toNat, by omega⟩
      exact (pow_any k m W hk (by omega)).mono fun e w' ⟨_, _, _, h, _, _, hb⟩ => ⟨_, _, h, hb⟩

theorem pow_allI (x n : Int) (W : World) (R : Nat → Addr) (hG : Glob W R) (h0 : 0 ≤ x) (h1 : x < 4294967296) :
    Calls Tryd.prog 28 #[.int .u32 x, .int .i64 n] W (PairBelow W) := by
  obtain ⟨k, rfl⟩ : ∃ k : Nat, x = (k : Int) := ⟨x.toNat, by omega⟩
  exact pow_all k n W R hG (by show k < 4294967296; omega)

theorem numbers_big (k n : Int) (a : Option Addr) (n1 c1 : Nat) (W : World) (R : Nat → Addr) (hG : Glob W R) (hb : 100 < n1) (hm : n1 ≤ maxLen) :
    Calls Tryd.prog 8 #[.int .i64 k, .int .i64 n, .slice a n1 c1] W (TrueBelow W) := by
  unfold maxLen at hm
  have HG := Lib.hid hG; clear hG
  go_enter Tryd.func8, Tryd.ntmps8
  go_wp2_with fail
  refine (awake03 _ R HG.out).mono ?_; rintro e w1 ⟨rfl, hb1⟩
  go_wp2
  go_ret
  exact ⟨rfl, hb1⟩

/-- At refuses: the reason stands in the arguments -/
theorem numbers_err (k n : Int) (a : Option Addr) (n1 c1 : Nat) (l : List Nat) (W : World) (R : Nat → Addr) (hG : Glob W R) (hS : Ns W a n1 c1 l) (h100 : n1 ≤ 100) (h : (alphB k = false ∨ n < 0) ∨ (alphB k = true ∧ 256 < n)) :
    Calls Tryd.prog 8 #[.int .i64 k, .int .i64 n, .slice a n1 c1] W (TrueBelow W) := by
  have hm1 : n1 ≤ 9223372036854775807 := by omega
  obtain ⟨c, hc⟩ : ∃ c : Int, ((alphB k = false ∨ n < 0) ∧ c = 3) ∨ (alphB k = true ∧ 256 < n ∧ c = 4) := by
    rcases h with h | ⟨h1, h2⟩
    · exact ⟨3, .inl ⟨h, rfl⟩⟩
    · exact ⟨4, .inr ⟨h1, h2, rfl⟩⟩
  have hor : k < 1 ∨ (¬ k < 1 ∧ 4 < k) ∨ (¬ k < 1 ∧ ¬ 4 < k ∧ n < 0) ∨ (¬ k < 1 ∧ ¬ 4 < k ∧ ¬ n < 0 ∧ 256 < n) := by
    rcases h with h | ⟨h1, h2⟩
    · by_cases hn : n < 0
      · by_cases a : k < 1
        · exact .inl a
        · by_cases b : 4 < k
          · exact .inr (.inl ⟨a, b⟩)
          · exact .inr (.inr (.inl ⟨a, b, hn⟩))
      · have h : alphB k = false := h.resolve_right hn
        have h3 : ¬ (1 ≤ k ∧ k ≤ 4) := fun h4 => by rw [alph_true.2 h4] at h; cases h
        by_cases a : k < 1
        · exact .inl a
        · exact .inr (.inl ⟨a, by omega⟩)
    · have := alph_true.1 h1
      exact .inr (.inr (.inr ⟨by omega, by omega, by omega, h2⟩))
  have HC := Lib.hid hc
  have HG := Lib.hid hG; clear hG
  have HS := Lib.hid hS; clear hS
  clear h hc
  go_enter Tryd.func8, Tryd.ntmps8
  go_wp2_with fail
  refine (awake03 _ R HG.out).mono ?_; rintro e w1 ⟨rfl, hb1⟩
  have HG1 := Lib.hid (HG.out.up hb1)
  go_wp2_with fail
  refine (at_err k n _ _ R HG1.out c HC.out).mono ?_; rintro e w2 ⟨g, rfl, he2, hb2⟩
  clear he2
  have hb2W := bstep hb1 hb2
  have HG2 := Lib.hid (HG1.out.up hb2)
  have HOR := Lib.hid hor; clear hor
  go_wp2_with fail
  all_goals
    refine (pow_allI _ n _ R HG2.out (by omega) (by omega)).mono ?_; rintro e w3 ⟨v1, v2, rfl, hb3⟩
    have hb3W := bstep hb2W hb3
    clear hb3
    rcases HOR.out with h1 | ⟨h1, h2⟩ | ⟨h1, h2, h3⟩ | ⟨h1, h2, h3, h4⟩
    · go_wp2
      go_ret
      exact ⟨rfl, hb3W⟩
    · go_wp2
      go_ret
      exact ⟨rfl, hb3W⟩
    · go_wp2
      go_ret
      exact ⟨rfl, hb3W⟩
    · go_wp2
      go_ret
      exact ⟨rfl, hb3W⟩

set_option maxHeartbeats 4000000 in
theorem numbers_lt (k n : Nat) (a : Option Addr) (n1 c1 : Nat) (l : List Nat) (W : World) (R : Nat → Addr) (hG : Glob W R) (hS : Ns W a n1 c1 l) (h100 : n1 ≤ 100) (k1 : 1 ≤ k) (k4 : k ≤ 4) (hn : n ≤ 256) (hlt : val l < k ^ n) :
    Calls Tryd.prog 8 #[.int .i64 k, .int .i64 n, .slice a n1 c1] W (TrueBelow W) := by
  have HG := Lib.hid hG; clear hG
  have HS := Lib.hid hS; clear hS
  have HLT := Lib.hid hlt; clear hlt
  have hck : chkErr (k : Int) (digs k n (val l)) = none := chk_none_of (by omega) (by omega) (by rw [digs_len]; omega) (digs_mem k1)
  have HCK := Lib.hid hck; clear hck
  go_enter Tryd.func8, Tryd.ntmps8
  go_wp2_with fail
  refine (awake03 _ R HG.out).mono ?_; rintro e w1 ⟨rfl, hb1⟩
  have HS1 := Lib.hid (HS.out.up hb1)
  have HG1 := Lib.hid (HG.out.up hb1)
  go_wp2_with fail
  refine (at_any k n a n1 c1 l _ R HG1.out HS1.out.nr (by omega) HS1.out.le HS1.out.cm k1 k4 hn).mono ?_; rintro e w2 ⟨hb2, hok, _⟩
  obtain ⟨a2, c2, rfl, hown2⟩ := hok HLT.out
  have HR2 : Hid (RK .i64 w2 a2 n (digs k n (val l))) := RK.of_own hown2
  clear hok hown2
  have hb2W := bstep hb1 hb2
  have HG2 := Lib.hid (HG1.out.up hb2)
  go_wp2_with fail
  refine (index_ok (k : Int) a2 n c2 _ _ R HG2.out HR2.out HCK.out hn).mono ?_; rintro e w3 ⟨a3, n3, c3, rfl, hv3, hb3⟩
  rw [Int.toNat_natCast, horn_digs HLT.out] at hv3
  have HV3 := Lib.hid hv3; clear hv3
  have hb3W := bstep hb2W hb3
  have HG3 := Lib.hid (HG2.out.up hb3)
  have HR3 := Lib.hid (HR2.out.up hb3)
  have HS3 := Lib.hid (HS1.out.up (bstep hb2 hb3))
  have hn3 : n3 ≤ 100 := by
    rw [HV3.out.len]
    have := limbs_len_le (val_lt HS3.out.nr.2)
    have := HS3.out.nr.len
    omega
  clear hb2 hb3 HG2 HR2
  go_wp2_with fail
  refine (at_any k n a3 n3 c3 _ _ R HG3.out HV3.out.nr (by omega) HV3.out.le HV3.out.cm k1 k4 hn).mono ?_; rintro e w4 ⟨hb4, hok, _⟩
  rw [val_limbs] at hok
  obtain ⟨a4, c4, rfl, hown4⟩ := hok HLT.out
  have HR4 : Hid (RK .i64 w4 a4 n (digs k n (val l))) := RK.of_own hown4
  clear hok hown4
  have hb4W := bstep hb3W hb4
  have HG4 := Lib.hid (HG3.out.up hb4)
  have HR34 := Lib.hid (HR3.out.up hb4)
  have HS4 := Lib.hid (HS3.out.up hb4)
  have HV4 := Lib.hid (HV3.out.up hb4)
  clear hb4
  go_wp2_with fail
  refine (check_ok (k : Int) a2 n c2 _ _ R HG4.out HR34.out (by unfold maxLen; omega) HCK.out).mono ?_; rintro e w5 ⟨rfl, hb5⟩
  go_wp2_with fail
  refine (natCmp_any a a3 n1 n3 c1 c3 _ _ _ (HS4.out.nr.up hb5) (HV4.out.nr.up hb5) HS4.out.le HV4.out.le HS4.out.cm HV4.out.cm).mono ?_; rintro e w6 ⟨rfl, q, rfl⟩
  rw [val_limbs, cmpN_self]
  have hb6 := bdrewN hb5 q
  go_wp2_with fail
  refine (ints_sl a4 a2 n n c4 c2 _ _ _ (HR4.out.up hb6) (HR34.out.up hb6) rfl (by omega)).mono ?_; rintro e w7 ⟨rfl, hb7⟩
  go_wp2
  go_ret
  exact ⟨rfl, bstep (bstep hb4W hb6) hb7⟩

set_option maxHeartbeats 4000000 in
theorem numbers_ge (k n : Nat) (a : Option Addr) (n1 c1 : Nat) (l : List Nat) (W : World) (R : Nat → Addr) (hG : Glob W R) (hS : Ns W a n1 c1 l) (h100 : n1 ≤ 100) (k1 : 1 ≤ k) (k4 : k ≤ 4) (hn : n ≤ 256) (hge : k ^ n ≤ val l) :
    Calls Tryd.prog 8 #[.int .i64 k, .int .i64 n, .slice a n1 c1] W (TrueBelow W) := by
  have HG := Lib.hid hG; clear hG
  have HS := Lib.hid hS; clear hS
  have HGE := Lib.hid hge; clear hge
  have hkm : max (k : Int) 0 = (k : Int) := by omega
  have hk4 : (k : Int) % 4294967296 = (k : Int) := Int.emod_eq_of_lt (by omega) (by omega)
  go_enter Tryd.func8, Tryd.ntmps8
  go_wp2_with fail
  refine (awake03 _ R HG.out).mono ?_; rintro e w1 ⟨rfl, hb1⟩
  have HS1 := Lib.hid (HS.out.up hb1)
  have HG1 := Lib.hid (HG.out.up hb1)
  go_wp2_with fail
  refine (at_any k n a n1 c1 l _ R HG1.out HS1.out.nr (by omega) HS1.out.le HS1.out.cm k1 k4 hn).mono ?_; rintro e w2 ⟨hb2, _, hok⟩
  obtain ⟨g, rfl, he2⟩ := hok HGE.out
  clear hok he2
  have hb2W := bstep hb1 hb2
  have HS2 := Lib.hid (HS1.out.up hb2)
  go_wp2_with fail
  refine (pow_any k n _ (by show k < 4294967296; omega) (by omega)).mono ?_; rintro e w3 ⟨a3, n3, c3, rfl, ho3, hv3, hb3⟩
  have HV3 := Lib.hid hv3
  clear ho3 hv3
  have d1 : decide ((k : Int) < 1) = false := by simp; omega
  have d2 : decide ((4 : Int) < (k : Int)) = false := by simp; omega
  have d3 : decide ((n : Int) < 0) = false := by simp
  have d4 : decide ((256 : Int) < (n : Int)) = false := by simp; omega
  have hcmp : 0 ≤ cmpN (val l) (k ^ n) := cmpN_ge HGE.out
  have d5 : decide (0 ≤ cmpN (val l) (k ^ n)) = true := by simpa using hcmp
  go_wp2_with fail
  refine (natCmp_any a a3 n1 n3 c1 c3 _ _ _ (HS2.out.nr.up hb3) HV3.out.nr HS2.out.le HV3.out.le HS2.out.cm HV3.out.cm).mono ?_; rintro e w6 ⟨rfl, q, rfl⟩
  rw [val_limbs]
  generalize cmpN (val l) (k ^ n) = z at *
  go_wp2
  go_ret
  exact ⟨rfl, bdrewN (bstep hb2W hb3) q⟩

theorem numbers_row (k n : Int) (a : Option Addr) (c : Nat) (l : List Int) (W : World) (R : Nat → Addr) (hS : Sent W R) (hR : Rd W a l.length 1 (l.map (Value.int .u32))) (hl : l.length ≤ c) (hc : c * 4 ≤ 140737488351232) (hn : a = none → c = 0) (hx : ∀ x ∈ l, 0 ≤ x ∧ x ≤ 4294967295) :
    Calls Tryd.prog 8 #[.int .i64 k, .int .i64 n, .slice a l.length c] W (TrueBelow W) := by
  have hN : Ns W a l.length c (l.map Int.toNat) := by
    refine ⟨⟨⟨by simp [ofN], ?_⟩, fun x hx' => ?_⟩, hl, by unfold maxLen; omega⟩
    · have e : ofN (l.map Int.toNat) = l := by
        unfold ofN
        rw [List.map_map]
        conv => rhs; rw [← List.map_id l]
        exact List.map_congr_left fun x hm => by have := hx x hm; simp; omega
      rw [e]; exact hR
    · obtain ⟨y, hy, rfl⟩ := List.mem_map.1 hx'
      have := hx y hy
      show _ < 4294967296
      omega
  by_cases h1 : 100 < l.length
  · exact numbers_big k n a l.length c W R hS.glob h1 (by unfold maxLen; omega)
  · by_cases h2 : alphB k = true
    · obtain ⟨k1, k4⟩ := alph_true.1 h2
      by_cases h3 : n < 0
      · exact numbers_err k n a l.length c _ W R hS.glob hN (by omega) (.inl (.inr h3))
      · by_cases h4 : 256 < n
        · exact numbers_err k n a l.length c _ W R hS.glob hN (by omega) (.inr ⟨h2, h4⟩)
        · obtain ⟨kn, rfl⟩ : ∃ kn : Nat, k = (kn : Int) := ⟨k.toNat, by omega⟩
          obtain ⟨nn, rfl⟩ : ∃ nn : Nat, n = (nn : Int) := ⟨n.toNat, by omega⟩
          by_cases h5 : val (l.map Int.toNat) < kn ^ nn
          · exact numbers_lt kn nn a l.length c _ W R hS.glob hN (by omega) (by omega) (by omega) (by omega) h5
          · exact numbers_ge kn nn a l.length c _ W R hS.glob hN (by omega) (by omega) (by omega) (by omega) (by omega)
    · exact numbers_err k n a l.length c _ W R hS.glob hN (by omega) (.inl (.inl (by simpa using h2)))
end Go.Proofs.YtgojdnffmkigaaaDoor
