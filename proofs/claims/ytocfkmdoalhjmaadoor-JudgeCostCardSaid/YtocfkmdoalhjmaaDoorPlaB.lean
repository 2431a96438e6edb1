/- The contracts of bits.OnesCount at small numbers, of plane.about and plane.counted. -/
import Derived.Test.YtocfkmdoalhjmaaDoorPlaP
import Derived.Test.YtocfkmdoalhjmaaDoorPatB
import Derived.Test.YtocfkmdoalhjmaaDoorBitI
import Derived.IntWalk
import Derived.Deep.Cut
import Derived.Deep.RegionLaw
namespace Go.Proofs.YtocfkmdoalhjmaaDoor
open Go.RowKit
set_option linter.unusedVariables false
set_option maxRecDepth 100000

theorem wrap_u64 (n : Nat) (h : n < 18446744073709551616) : IntKind.u64.wrap (n : Int) = (n : Int) := by
  show ((n : Int) % 18446744073709551616) = _
  omega
theorem and_u64 {a b : Nat} (ha : a < 18446744073709551616) (hb : b < 18446744073709551616) : bits .and .u64 (a : Int) (b : Int) = ((a &&& b : Nat) : Int) := by
  have hlt : a &&& b < 2 ^ 64 := Nat.and_lt_two_pow _ hb
  have e : ∀ x : Nat, x < 18446744073709551616 → (BitVec.ofInt 64 (x : Int)).toNat = x := by
    intro x hx
    have := ofInt64_nat (x : Int)
    omega
  show IntKind.u64.wrap ((BitVec.ofInt 64 (a : Int) &&& BitVec.ofInt 64 (b : Int)).toNat : Int) = _
  rw [BitVec.toNat_and, e a ha, e b hb, wrap_u64 _ (by omega)]
def o1p (x : Nat) : Nat := x / 2 &&& 6148914691236517205
def o1q (x : Nat) : Nat := x &&& 6148914691236517205
def o1 (x : Nat) : Nat := o1p x + o1q x
def o2p (x : Nat) : Nat := o1 x / 4 &&& 3689348814741910323
def o2q (x : Nat) : Nat := o1 x &&& 3689348814741910323
def o2 (x : Nat) : Nat := o2p x + o2q x
def o3 (x : Nat) : Nat := o2 x / 16 + o2 x &&& 1085102592571150095
def o4 (x : Nat) : Nat := o3 x + o3 x / 256
def o5 (x : Nat) : Nat := o4 x + o4 x / 65536
def o6 (x : Nat) : Nat := o5 x + o5 x / 4294967296
def onesN (x : Nat) : Nat := x / 256 % 2 + x / 128 % 2 + x / 64 % 2 + x / 32 % 2 + x / 16 % 2 + x / 8 % 2 + x / 4 % 2 + x / 2 % 2 + x % 2
theorem o_bd : ∀ x : Fin 512, o1p x.val ≤ 600 ∧ o1q x.val ≤ 600 ∧ o2p x.val ≤ 600 ∧ o2q x.val ≤ 600 ∧ o3 x.val ≤ 3000 ∧ (o6 x.val &&& 127) = onesN x.val := by decide +kernel
set_option maxHeartbeats 4000000 in
theorem ones64 (x : Nat) (hx : x < 512) (w : World) : Calls Tryd.prog 121 #[.int .u64 x] w fun e w' => e = .returned (.int .i64 (onesN x)) ∧ w = w' := by
  obtain ⟨b1, b2, b3, b4, b5, hfin⟩ := o_bd ⟨x, hx⟩
  simp only at b1 b2 b3 b4 b5 hfin
  have e1 : bits .and .u64 ((x : Int) / 2) 6148914691236517205 = ((o1p x : Nat) : Int) := by
    have := and_u64 (a := x / 2) (b := 6148914691236517205) (by omega) (by omega)
    rw [Int.natCast_ediv] at this
    exact this
  have e2 : bits .and .u64 (x : Int) 6148914691236517205 = ((o1q x : Nat) : Int) := and_u64 (a := x) (b := 6148914691236517205) (by omega) (by omega)
  have d1 : o1 x = o1p x + o1q x := rfl
  have e3 : bits .and .u64 ((o1 x : Int) / 4) 3689348814741910323 = ((o2p x : Nat) : Int) := by
    have := and_u64 (a := o1 x / 4) (b := 3689348814741910323) (by omega) (by omega)
    rw [Int.natCast_ediv] at this
    exact this
  have e4 : bits .and .u64 (o1 x : Int) 3689348814741910323 = ((o2q x : Nat) : Int) := and_u64 (a := o1 x) (b := 3689348814741910323) (by omega) (by omega)
  have d2 : o2 x = o2p x + o2q x := rfl
  have e5 : bits .and .u64 (((o2 x / 16 + o2 x : Nat)) : Int) 1085102592571150095 = ((o3 x : Nat) : Int) := and_u64 (a := o2 x / 16 + o2 x) (b := 1085102592571150095) (by omega) (by omega)
  have d4 : o4 x = o3 x + o3 x / 256 := rfl
  have d5 : o5 x = o4 x + o4 x / 65536 := rfl
  have d6 : o6 x = o5 x + o5 x / 4294967296 := rfl
  have e7 : bits .and .i64 (o6 x : Int) 127 = ((onesN x : Nat) : Int) := by
    have := and_i64 (a := o6 x) (b := 127) (by omega) (by omega)
    rw [hfin] at this
    exact this
  generalize o1p x = p1 at *
  generalize o1q x = q1 at *
  generalize o1 x = y1 at *
  generalize o2p x = p2 at *
  generalize o2q x = q2 at *
  generalize o2 x = y2 at *
  generalize o3 x = y3 at *
  generalize o4 x = y4 at *
  generalize o5 x = y5 at *
  generalize o6 x = y6 at *
  generalize onesN x = z at *
  have w1 : IntKind.u64.wrap ((p1 : Int) + (q1 : Int)) = (y1 : Int) := by have := wrap_u64 y1 (by omega); rw [d1] at this ⊢; exact this
  have w2 : IntKind.u64.wrap ((p2 : Int) + (q2 : Int)) = (y2 : Int) := by have := wrap_u64 y2 (by omega); rw [d2] at this ⊢; exact this
  have w3 : IntKind.u64.wrap ((y2 : Int) / 16 + (y2 : Int)) = ((y2 / 16 + y2 : Nat) : Int) := by have := wrap_u64 (y2 / 16 + y2) (by omega); rw [← this]; rfl
  have w4 : IntKind.u64.wrap ((y3 : Int) + (y3 : Int) / 256) = (y4 : Int) := by have := wrap_u64 y4 (by omega); rw [d4] at this ⊢; exact this
  have w5 : IntKind.u64.wrap ((y4 : Int) + (y4 : Int) / 65536) = (y5 : Int) := by have := wrap_u64 y5 (by omega); rw [d5] at this ⊢; exact this
  have w6 : IntKind.u64.wrap ((y5 : Int) + (y5 : Int) / 4294967296) = (y6 : Int) := by have := wrap_u64 y6 (by omega); rw [d6] at this ⊢; exact this
  have hy6 : y6 ≤ 10000 := by omega
  have w7 : IntKind.i64.wrap (y6 : Int) = (y6 : Int) := IntWalk.i64_in _ (by omega)
  obtain ⟨v, hv⟩ : ∃ v : Nat, y2 / 16 + y2 = v := ⟨_, rfl⟩
  rw [hv] at e5 w3
  clear d1 d2 d4 d5 d6 hfin hv
  go_enter Tryd.func121, Tryd.ntmps121
  go_wp2
  go_ret
  exact ⟨rfl, rfl⟩

set_option maxHeartbeats 4000000 in
theorem ones_any (x : Nat) (hx : x < 512) (w : World) : Calls Tryd.prog 108 #[.int .u64 x] w fun e w' => e = .returned (.int .i64 (onesN x)) ∧ w = w' := by
  go_enter Tryd.func108, Tryd.ntmps108
  go_wp2_with fail
  refine (ones64 x hx w).mono ?_; rintro e w1 ⟨rfl, rfl⟩
  go_wp2
  go_ret
  exact ⟨rfl, rfl⟩
theorem andNot16 : ∀ x : Fin 512, bits .andNot .i64 (x.val : Int) 16 = ((x.val - x.val / 16 % 2 * 16 : Nat) : Int) ∧ bits .and .i64 (x.val : Int) 16 = ((x.val / 16 % 2 * 16 : Nat) : Int) ∧ onesN (x.val - x.val / 16 % 2 * 16) = aboutN x.val ∧ aboutN x.val ≤ 8 := by decide +kernel
set_option maxHeartbeats 4000000 in
theorem about_any (i : Nat) (hi : i < 512) (w : World) : Calls Tryd.prog 72 #[.int .i64 i] w fun e w' => e = .returned (.int .i64 (aboutN i)) ∧ w = w' := by
  obtain ⟨h1, _, h3, _⟩ := andNot16 ⟨i, hi⟩
  simp only at h1 h3
  obtain ⟨j, hj⟩ : ∃ j, i - i / 16 % 2 * 16 = j := ⟨_, rfl⟩
  rw [hj] at h1 h3
  have hj2 : j < 512 := by omega
  have hw : IntKind.u64.wrap (j : Int) = (j : Int) := wrap_u64 _ (by omega)
  have H3 := Lib.hid h3
  clear hj h3
  go_enter Tryd.func72, Tryd.ntmps72
  go_wp2_with fail
  refine (ones_any j hj2 w).mono ?_; rintro e w1 ⟨rfl, rfl⟩
  go_wp2
  go_ret
  rw [H3.out]
  exact ⟨rfl, rfl⟩
theorem take_set {L : List Int} {n i : Nat} {u : Int} (hL : L.length = n) (hi : i < n) (hu : L.getD i 0 = u) : (L.take i ++ List.replicate (n - i) 0).set i u = L.take (i + 1) ++ List.replicate (n - (i + 1)) 0 := by
  have h1 : (L.take i).length = i := by simp; omega
  rw [List.set_append_right _ _ (by omega), h1, Nat.sub_self, show n - i = (n - (i + 1)) + 1 by omega, List.replicate_succ, List.set_cons_zero, List.take_succ_eq_append_getElem (by omega), List.append_assoc]
  congr 1
  rw [← hu]
  simp [hL, hi]
theorem app_at {L : List Int} {n i : Nat} (hL : L.length = n) (hi : i < n) : (L.take i ++ List.replicate (n - i) 0)[i]? = some 0 := by
  have h1 : (L.take i).length = i := by simp; omega
  rw [List.getElem?_append_right (by omega), h1, Nat.sub_self, List.getElem?_replicate, if_pos (by omega)]
theorem map_set_j {l : List Int} {j : Nat} {v : Int} : (l.map (Value.int .i64)).set j (.int .i64 v) = (l.set j v).map (Value.int .i64) := (List.map_set).symm
set_option maxHeartbeats 8000000 in
theorem counted_any (b s : Nat) (hb : b < 512) (hs : s < 512) (W : World) : Calls Tryd.prog 54 #[.int .i64 b, .int .i64 s] W fun e w' => ∃ g c', e = .returned (.slice (some ⟨g, 0, none⟩) 512 c') ∧ OwI w' W.heap.size (some ⟨g, 0, none⟩) 512 c' (tabOf b s) ∧ Below W.heap.size W w' := by
  obtain ⟨L, hL⟩ : ∃ L, tabOf b s = L := ⟨_, rfl⟩
  have hLl : L.length = 512 := by rw [← hL]; exact tabOf_len b s
  have HL := Lib.hid hL
  have HLL := Lib.hid hLl
  rw [hL]
  clear hL hLl
  go_enter Tryd.func54, Tryd.ntmps54
  go_wp2_with (first
    | (at_make; refine mk_full rfl _ _ _ rfl W.heap.size et_int .i64 .i64 _ _ 512 rfl rfl rfl rfl (by omega) (by unfold maxLen; omega) (Nat.le_refl _) ?_; intro w2 hown hb2 hsz2; rw [made_i64p] at hown))
  obtain ⟨g, hg⟩ : ∃ g, W.heap.size = g := ⟨_, rfl⟩
  rw [hg] at hown
  rw [hg]
  have HO2 : Hid (w2.ownsRow g 3 1 (.slice (some ⟨g, 0, none⟩) 512 512) 512 ((L.take 0 ++ List.replicate (512 - 0) 0).map (Value.int .i64))) := by show World.ownsRow _ _ _ _ _ _ _; simpa using hown
  have HG := Lib.hid hg
  have HB2 := Lib.hid hb2
  clear hown hg hb2 hsz2
  go_loopw [11] (fun ix wr => ∃ i : Nat, i ≤ 512 ∧ ix = .int .i64 i ∧ wr.ownsRow g 3 1 (.slice (some ⟨g, 0, none⟩) 512 512) 512 ((L.take i ++ List.replicate (512 - i) 0).map (Value.int .i64)) ∧ Below W.heap.size W wr) (fun ix _ => 512 - (intOf ix).toNat)
  case atStart => exact ⟨0, by omega, rfl, HO2.out, HB2.out⟩
  case round =>
    obtain ⟨i, hi, rfl, ho, hbr⟩ := hrel
    have HO := Lib.hid ho
    have HBR := Lib.hid hbr
    clear ho hbr
    by_cases hin : i < 512
    · obtain ⟨_, h2, _, h8⟩ := andNot16 ⟨i, hin⟩
      simp only at h2 h8
      obtain ⟨k, hk⟩ : ∃ k, aboutN i = k := ⟨_, rfl⟩
      have hget : L.getD i 0 = ((tabF b s i : Nat) : Int) := by rw [← HL.out]; exact tabOf_get hin
      have i0 : (0 : Int) ≤ (i : Int) := by omega
      have i1 : (i : Int) < 512 := by omega
      rw [hk] at h8
      have k0 : (0 : Int) ≤ (k : Int) := by omega
      have k1 : (k : Int) ≤ 64 := by omega
      have HK := Lib.hid hk
      by_cases hm : i / 16 % 2 = 1
      · rw [hm] at h2
        obtain ⟨v, hv⟩ : ∃ v, s / 2 ^ k = v := ⟨_, rfl⟩
        have hvI : (s : Int) / 2 ^ k = (v : Int) := by rw [← hv, Int.natCast_ediv, Int.natCast_pow]; rfl
        have hv2 : v < 512 := by rw [← hv]; exact Nat.lt_of_le_of_lt (Nat.div_le_self _ _) hs
        have ha := and1_i64 (a := v) (by omega)
        have hu : tabF b s i = v % 2 := by unfold tabF; rw [if_pos hm, hk, hv]
        rw [hu] at hget
        have hset := take_set HLL.out hin hget
        have ho6 := own_set HO.out i (.int .i64 ((v % 2 : Nat) : Int))
        rw [map_set_j, hset] at ho6
        have HO6 := Lib.hid ho6
        have HB6 := Lib.hid (HBR.out.setCell (p := ⟨g, i, none⟩) (by rw [HG.out]; exact Nat.le_refl _) (.int .i64 ((v % 2 : Nat) : Int)))
        have hc0 : wr.cell? ⟨g, i, none⟩ = some (.int .i64 0) := by
          rw [HO.out.cellAt i (by omega), List.getElem?_map, app_at HLL.out hin]
          rfl
        have f0 := HO.out.frozenAt i
        have h2b : bits .and .i64 (i : Int) 16 = 16 := h2
        generalize v % 2 = z at *
        clear hk hget hset ho6 hu hv hm h2
        go_wp2_with fail
        refine (about_any i hin wr).mono ?_; rintro e w3 ⟨rfl, rfl⟩
        rw [HK.out]
        go_wp2
        go_roundw
        case rel => exact ⟨i + 1, by omega, by go_num, HO6.out, HB6.out⟩
        case measure => simp [intOf]; omega
      · have hm0 : i / 16 % 2 = 0 := by omega
        rw [hm0] at h2
        obtain ⟨v, hv⟩ : ∃ v, b / 2 ^ k = v := ⟨_, rfl⟩
        have hvI : (b : Int) / 2 ^ k = (v : Int) := by rw [← hv, Int.natCast_ediv, Int.natCast_pow]; rfl
        have hv2 : v < 512 := by rw [← hv]; exact Nat.lt_of_le_of_lt (Nat.div_le_self _ _) hb
        have ha := and1_i64 (a := v) (by omega)
        have hu : tabF b s i = v % 2 := by unfold tabF; rw [if_neg hm, hk, hv]
        rw [hu] at hget
        have hset := take_set HLL.out hin hget
        have ho6 := own_set HO.out i (.int .i64 ((v % 2 : Nat) : Int))
        rw [map_set_j, hset] at ho6
        have HO6 := Lib.hid ho6
        have HB6 := Lib.hid (HBR.out.setCell (p := ⟨g, i, none⟩) (by rw [HG.out]; exact Nat.le_refl _) (.int .i64 ((v % 2 : Nat) : Int)))
        have hc0 : wr.cell? ⟨g, i, none⟩ = some (.int .i64 0) := by
          rw [HO.out.cellAt i (by omega), List.getElem?_map, app_at HLL.out hin]
          rfl
        have f0 := HO.out.frozenAt i
        have h2b : bits .and .i64 (i : Int) 16 = 0 := h2
        generalize v % 2 = z at *
        clear hk hget hset ho6 hu hv hm hm0 h2
        go_wp2_with fail
        refine (about_any i hin wr).mono ?_; rintro e w3 ⟨rfl, rfl⟩
        rw [HK.out]
        go_wp2
        go_roundw
        case rel => exact ⟨i + 1, by omega, by go_num, HO6.out, HB6.out⟩
        case measure => simp [intOf]; omega
    · obtain rfl : i = 512 := by omega
      have ho := HO.out
      rw [Nat.sub_self, List.replicate_zero, List.append_nil, List.take_of_length_le (by have := HLL.out; omega)] at ho
      have HO3 := Lib.hid ho
      clear ho HO
      go_wp2
      go_ret
      exact ⟨g, 512, rfl, OwI.base ⟨HO3.out⟩ (by have := HG.out; omega), HBR.out⟩
end Go.Proofs.YtocfkmdoalhjmaaDoor
