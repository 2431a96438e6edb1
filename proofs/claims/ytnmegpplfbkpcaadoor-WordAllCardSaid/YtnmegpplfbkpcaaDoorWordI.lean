/- The contract of word.Index. -/
import Derived.Test.YtnmegpplfbkpcaaDoorNatD
import Derived.Test.YtnmegpplfbkpcaaDoorWordB
import Derived.WalkKit
import Derived.Lib.Hide
namespace Go.Proofs.YtnmegpplfbkpcaaDoor
open Go.RowKit
set_option linter.unusedVariables false
set_option maxRecDepth 100000

/-- the number whose digits a word is -/
def horn (k : Nat) (l : List Int) : Nat := l.foldl (fun s x => s * k + x.toNat) 0
theorem horn_nil (k : Nat) : horn k [] = 0 := rfl
theorem horn_snoc (k : Nat) (l : List Int) (x : Int) : horn k (l ++ [x]) = horn k l * k + x.toNat := by simp [horn]
theorem horn_take {k : Nat} {l : List Int} {j : Nat} (h : j < l.length) : horn k (l.take (j + 1)) = horn k (l.take j) * k + (l.getD j 0).toNat := by
  rw [List.take_succ_eq_append_getElem h, horn_snoc]; simp [h]
theorem horn_lt {k : Nat} {l : List Int} (h : ∀ x ∈ l, 0 ≤ x ∧ x < (k : Int)) : horn k l < k ^ l.length := by
  have : ∀ j, j ≤ l.length → horn k (l.take j) < k ^ j := by
    intro j
    induction j with
    | zero => intro _; simp [horn]
    | succ j ih =>
      intro hj
      have hx := h (l.getD j 0) (by simp [show j < l.length by omega])
      rw [horn_take (by omega), Nat.pow_succ]
      have h1 := ih (by omega)
      have h2 : (horn k (l.take j) + 1) * k ≤ k ^ j * k := Nat.mul_le_mul_right _ h1
      rw [Nat.add_mul, Nat.one_mul] at h2
      omega
  have := this l.length (Nat.le_refl _)
  rwa [List.take_of_length_le (Nat.le_refl _)] at this
theorem horn_len {k j : Nat} {l : List Int} (hk : k ≤ 4) (h : ∀ x ∈ l, 0 ≤ x ∧ x < (k : Int)) : (limbs (horn k (l.take j))).length ≤ l.length := by
  refine limbs_len_le ?_
  have h1 := horn_lt (k := k) (l := l.take j) fun x hx => h x (List.mem_of_mem_take hx)
  refine Nat.lt_of_lt_of_le h1 ?_
  rcases Nat.eq_zero_or_pos k with rfl | hk0
  · refine Nat.le_trans ?_ (Nat.one_le_pow _ _ (by decide))
    rcases Nat.eq_zero_or_pos (l.take j).length with h2 | h2
    · rw [h2]; exact Nat.le_refl _
    · rw [Nat.zero_pow h2]; exact Nat.zero_le _
  · calc k ^ (l.take j).length ≤ k ^ l.length := Nat.pow_le_pow_right hk0 (by simp; omega)
      _ ≤ B32 ^ l.length := Nat.pow_le_pow_left (by show k ≤ 4294967296; omega) _
theorem nv_nil (w : World) : NV w none 0 0 0 := ⟨⟨RK.nil, limbs_u32 0⟩, Nat.le_refl _, by decide, fun _ => rfl⟩

set_option maxHeartbeats 4000000 in
theorem index_ok (k : Int) (a : Option Addr) (n c : Nat) (l : List Int) (W : World) (R : Nat → Addr) (hG : Glob W R) (hR : RK .i64 W a n l) (he : chkErr k l = none) (hn : n ≤ 256) :
    Calls Tryd.prog 47 #[.int .i64 k, .slice a n c] W fun e w' => ∃ a' n' c', e = .returned (.tuple #[.slice a' n' c', .nilIface]) ∧ NV w' a' n' c' (horn k.toNat l) ∧ Below W.heap.size W w' := by
  obtain ⟨k1, k2, h4096, hall⟩ := chk_none he
  obtain ⟨kn, rfl⟩ : ∃ kn : Nat, k = (kn : Int) := ⟨k.toNat, by omega⟩
  simp only [Int.toNat_natCast]
  have hlen := hR.len
  have kn4 : kn ≤ 4 := by omega
  have HL := Lib.hid hlen; clear hlen
  have HALL := Lib.hid hall; clear hall
  have HE := Lib.hid he; clear he
  have HG := Lib.hid hG; clear hG
  have HR := Lib.hid hR; clear hR
  clear h4096
  go_enter Tryd.func47, Tryd.ntmps47
  go_wp2_with fail
  refine (check_ok (kn : Int) a n c l _ R HG.out HR.out (by unfold maxLen; omega) HE.out).mono ?_; rintro e w2 ⟨rfl, hb2⟩
  go_wp2_with fail
  go_loopw [7, 22] (fun sx ix wr => ∃ (j : Nat) (a1 : Option Addr) (n1 c1 : Nat), j ≤ n ∧ ix = .int .i64 j ∧ sx = .slice a1 n1 c1 ∧ NV wr a1 n1 c1 (horn kn (l.take j)) ∧ Below W.heap.size W wr) (fun _ ix _ => n - (intOf ix).toNat)
  case atStart => exact ⟨0, none, 0, 0, by omega, rfl, rfl, nv_nil _, hb2⟩
  case round =>
    clear hb2
    obtain ⟨j, a1, n1, c1, hj, rfl, rfl, hv, hb⟩ := hrel
    by_cases hjn : j < n
    · obtain ⟨b, o, rfl, hbl, hx⟩ := HR.out.addr (by omega)
      have x0 := (hb.cell (p := ⟨b, o + j, none⟩) hbl).trans (hx j hjn)
      clear hx
      have hjl : j < l.length := by have := HL.out; omega
      have hxx := HALL.out (l.getD j 0) (by simp [hjl])
      have hnx := horn_take (k := kn) hjl
      have hn1 : n1 ≤ 256 := by
        rw [hv.len]
        have := horn_len (k := kn) (l := l) (j := j) kn4 HALL.out
        have := HL.out
        omega
      obtain ⟨y, hy⟩ : ∃ y : Nat, l.getD j 0 = (y : Int) := ⟨(l.getD j 0).toNat, by omega⟩
      rw [hy] at x0 hnx hxx
      simp only [Int.toNat_natCast] at hnx
      have HNX := Lib.hid hnx
      have HV := Lib.hid hv
      have HB := Lib.hid hb
      have y4 : y < 4 := by omega
      clear hnx hv hb hxx hjl hy
      have j0 : (0 : Int) ≤ (j : Int) := by omega
      have j1 : (j : Int) < (n : Int) := by omega
      have m1 : (kn : Int) % 18446744073709551616 = (kn : Int) := Int.emod_eq_of_lt (by omega) (by omega)
      have m2 : (y : Int) % 18446744073709551616 = (y : Int) := Int.emod_eq_of_lt (by omega) (by omega)
      go_wp2_with fail
      refine (from_any kn _ (by omega)).mono ?_; rintro e w3 ⟨n3, rfl, ho3, hv3, hb3⟩
      have hn3 : n3 ≤ 2 := hv3.le
      have hv3' := HV.out.up hb3
      have HB3 := Lib.hid (HB.out.trans (hb3.mono HB.out.size))
      have HV3 := Lib.hid hv3
      have HV3' := Lib.hid hv3'
      clear ho3 hv3 hv3' hb3 HV HB
      go_wp2_with fail
      refine (mul_any _ _ n1 n3 c1 2 _ _ _ HV3'.out.nr HV3.out.nr (by omega)).mono ?_; rintro e w4 ⟨a4, n4, c4, rfl, ho4, hv4, hb4⟩
      rw [val_limbs, val_limbs] at hv4
      have hn4 : n4 ≤ n1 + n3 := by
        have h1 := val_lt HV3'.out.nr.2
        have h2 := val_lt HV3.out.nr.2
        rw [val_limbs] at h1 h2
        rw [hv4.len, HV3'.out.len, HV3.out.len]
        refine limbs_len_le ?_
        rw [Nat.pow_add]
        exact Nat.mul_lt_mul'' h1 h2
      have HB4 := Lib.hid (HB3.out.trans (hb4.mono HB3.out.size))
      have HV4 := Lib.hid hv4
      clear ho4 hv4 hb4 HB3 HV3 HV3'
      go_wp2_with fail
      refine (from_any y _ (by omega)).mono ?_; rintro e w5 ⟨n5, rfl, ho5, hv5, hb5⟩
      have hn5 : n5 ≤ 2 := hv5.le
      have HB5 := Lib.hid (HB4.out.trans (hb5.mono HB4.out.size))
      have HV5 := Lib.hid hv5
      have HV5' := Lib.hid (HV4.out.up hb5)
      clear ho5 hv5 hb5 HB4 HV4
      go_wp2_with fail
      refine (add_any _ _ n4 n5 c4 2 _ _ _ HV5'.out.nr HV5.out.nr (by omega) (by omega)).mono ?_; rintro e w6 ⟨a6, n6, c6, rfl, ho6, hv6, hb6⟩
      rw [val_limbs, val_limbs, ← HNX.out] at hv6
      have HB6 := Lib.hid (HB5.out.trans (hb6.mono HB5.out.size))
      have HV6 := Lib.hid hv6
      clear ho6 hv6 hb6 HB5 HV5 HV5'
      go_wp2
      go_roundw
      case rel => exact ⟨j + 1, _, _, _, by omega, by go_num, rfl, HV6.out, HB6.out⟩
      case measure => simp [intOf]; omega
    · obtain rfl : j = n := by omega
      rw [List.take_of_length_le (by have := HL.out; omega)] at hv
      have HV := Lib.hid hv
      have HB := Lib.hid hb
      clear hv hb
      go_wp2
      go_ret2
      exact ⟨_, _, _, rfl, HV.out, HB.out⟩

set_option maxHeartbeats 2000000 in
theorem index_err (k : Int) (a : Option Addr) (n c : Nat) (l : List Int) (W : World) (R : Nat → Addr) (hG : Glob W R) (hR : RK .i64 W a n l) (hm : n ≤ maxLen) (x : Int × Int) (he : chkErr k l = some x) :
    Calls Tryd.prog 47 #[.int .i64 k, .slice a n c] W fun e w' => ∃ g, e = .returned (.tuple #[.slice none 0 0, .iface 100 (.pointer (some ⟨g, 0, none⟩))]) ∧ IsErr W.heap.size R w' (.iface 100 (.pointer (some ⟨g, 0, none⟩))) opWord x.1 x.2 ∧ Below W.heap.size W w' := by
  have HE := Lib.hid he; clear he
  have HG := Lib.hid hG; clear hG
  have HR := Lib.hid hR; clear hR
  go_enter Tryd.func47, Tryd.ntmps47
  go_wp2_with fail
  refine (check_err k a n c l _ R HG.out HR.out hm x HE.out).mono ?_; rintro e w2 ⟨g, rfl, h2, hb2⟩
  have H2 := Lib.hid h2; clear h2
  go_wp2
  go_ret2
  exact ⟨_, rfl, H2.out, hb2⟩
end Go.Proofs.YtnmegpplfbkpcaaDoor
