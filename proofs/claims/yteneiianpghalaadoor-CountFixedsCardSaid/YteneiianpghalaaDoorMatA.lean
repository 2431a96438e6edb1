/- The contracts of mat.through and mat.product. -/
import Derived.Test.YteneiianpghalaaDoorMatM
import Derived.Test.YteneiianpghalaaDoorMatL
import Derived.Test.YteneiianpghalaaDoorNatE
import Derived.Deep.RegionWith
import Derived.WalkKit
import Derived.Lib.Hide
namespace Go.Proofs.YteneiianpghalaaDoor
open Go.RowKit
set_option linter.unusedVariables false
set_option maxRecDepth 100000

/-- the numbers of a row of limbs -/
abbrev vN (V : Nat → List Nat) : Nat → Nat := fun i => val (V i)
abbrev vM (M : Nat → Nat → List Nat) : Mat := fun i j => val (M i j)
/-- the row while line i is gone through: k columns are done -/
def part (v : Nat → Nat) (m : Mat) (i k : Nat) : Nat → List Nat := fun j => limbs (if j < k then thr v m (i + 1) j else thr v m i j)
theorem part_zero (v : Nat → Nat) (m : Mat) (i : Nat) : part v m i 0 = fun j => limbs (thr v m i j) := by funext j; simp [part]
theorem part_end {v : Nat → Nat} {m : Mat} {i n j : Nat} (h : j < n) : part v m i n j = limbs (thr v m (i + 1) j) := by simp [part, h]
theorem part_skip {v : Nat → Nat} {m : Mat} {i k j : Nat} (h : v i * m i k = 0) : part v m i k j = part v m i (k + 1) j := by
  unfold part
  by_cases e : j < k
  · rw [if_pos e, if_pos (by omega)]
  · rw [if_neg e]
    by_cases e2 : j < k + 1
    · obtain rfl : j = k := by omega
      rw [if_pos e2, thr_succ, h, Nat.add_zero]
    · rw [if_neg e2]
theorem part_at (v : Nat → Nat) (m : Mat) (i k : Nat) : part v m i k k = limbs (thr v m i k) := by simp [part]
theorem part_upd (v : Nat → Nat) (m : Mat) (i k j : Nat) : upd (part v m i k) k (limbs (thr v m i k + v i * m i k)) j = part v m i (k + 1) j := by
  by_cases e : j = k
  · subst e; rw [upd_self]; simp [part, thr_succ]
  · rw [upd_ne _ _ e]
    unfold part
    by_cases e2 : j < k
    · rw [if_pos e2, if_pos (by omega)]
    · rw [if_neg e2, if_neg (by omega)]
theorem thr_len {v : Nat → Nat} {V : Nat → List Nat} {M : Nat → Nat → List Nat} {i j n L : Nat} (hi : i ≤ n) (hj : j < n) (hn : n ≤ 96) (hV : ∀ k, k < n → U32 (V k) ∧ (V k).length ≤ L) (hM : ∀ k j, k < n → j < n → U32 (M k j) ∧ (M k j).length ≤ L) : (limbs (thr (vN V) (vM M) i j)).length ≤ L + L + 1 := by
  refine limbs_len_le (thr_lt (n := n) (by omega) (fun k hk => ?_) (fun k q hk hq => ?_) hj)
  · exact Nat.lt_of_lt_of_le (val_lt (hV k (by omega)).1) (Nat.pow_le_pow_right (by decide) (hV k (by omega)).2)
  · exact Nat.lt_of_lt_of_le (val_lt (hM k q (by omega) hq).1) (Nat.pow_le_pow_right (by decide) (hM k q (by omega) hq).2)
theorem NsR.u32 {w : World} {a : Option Addr} {n : Nat} {F : Nat → List Nat} (h : NsR w a n F) : ∀ j, j < n → U32 (F j) := fun j hj => by
  obtain ⟨b, o, _, _, h⟩ := h.addr (by omega)
  obtain ⟨_, _, _, _, h⟩ := h j hj
  exact h.nr.2
theorem MsR.u32 {w : World} {a : Option Addr} {n : Nat} {len : Nat → Nat} {F : Nat → Nat → List Nat} (h : MsR w a n len F) : ∀ i j, i < n → j < len i → U32 (F i j) := fun i j hi hj => by
  obtain ⟨b, o, _, _, h⟩ := h.addr (by omega)
  obtain ⟨_, _, _, _, _, _, h⟩ := h i hi
  exact h.u32 j hj

theorem put_sum {wr w4 w6 : World} {g n k i : Nat} {its : Nat → It} {v : Nat → Nat} {m : Mat} {a6 : Option Addr} {n6 c6 : Nat} (ho : OwNs wr g (.slice (some ⟨g, 0, none⟩) n n) n its (part v m i k)) (hk : k < n) (hb4 : Below wr.heap.size wr w4) (hb6 : Below w4.heap.size w4 w6)
    (ho6 : w6.ownsRow w4.heap.size 95 1 (.slice a6 n6 c6) n6 ((ofN (limbs (thr v m i k + v i * m i k))).map (Value.int .u32))) (hg : g ≤ wr.heap.size) :
    OwNs (w6.setCell ⟨g, k, none⟩ (.slice a6 n6 c6)) g (.slice (some ⟨g, 0, none⟩) n n) n (upd its k (a6, n6, c6)) (part v m i (k + 1)) := by
  have h1 := ho.up (bstep hb4 hb6)
  have hp : OwN w6 g (a6, n6, c6) (limbs (thr v m i k + v i * m i k)) := OwN.base ⟨ho6, limbs_u32 _⟩ (Nat.le_trans hg hb4.size)
  exact (h1.store hk hp fun q hq hne => ap_after (ho.num q hq).own ho6 hb4.size).congr fun j hj => part_upd v m i k j
theorem Ns.small {w : World} {a : Option Addr} {n c L : Nat} {l : List Nat} (h : Ns w a n c l) (hl : l.length ≤ L) : n ≤ L := by have := h.nr.len; omega

theorem mul_len {w w' : World} {a1 a2 : Option Addr} {n1 n2 c1 c2 : Nat} {l1 l2 : List Nat} (h1 : Ns w a1 n1 c1 l1) (h2 : Ns w' a2 n2 c2 l2) : (limbs (val l1 * val l2)).length ≤ n1 + n2 := by
  rw [h1.nr.len, h2.nr.len]
  refine limbs_len_le ?_
  rw [Nat.pow_add]
  exact Nat.mul_lt_mul'' (val_lt h1.nr.2) (val_lt h2.nr.2)

set_option maxHeartbeats 4000000 in
theorem through_any (av am : Option Addr) (n cv cm : Nat) (V : Nat → List Nat) (M : Nat → Nat → List Nat) (L : Nat) (W : World) (hV : NsR W av n V) (hM : MsR W am n (fun _ => n) M) (hn : n ≤ 96) (hLV : ∀ i, i < n → (V i).length ≤ L) (hLM : ∀ i j, i < n → j < n → (M i j).length ≤ L) (hL : L ≤ 400000) :
    Calls Tryd.prog 97 #[.slice av n cv, .slice am n cm] W fun e w' => ∃ a' c' its, e = .returned (.slice a' n c') ∧ OwNs w' W.heap.size (.slice a' n c') n its (fun j => limbs (thr (vN V) (vM M) n j)) ∧ Below W.heap.size W w' := by
  have hlen : ∀ i j, i ≤ n → j < n → (limbs (thr (vN V) (vM M) i j)).length ≤ L + L + 1 := fun i j hi hj => thr_len (v := vN V) hi hj hn (fun k hk => ⟨hV.u32 k hk, hLV k hk⟩) (fun k q hk hq => ⟨hM.u32 k q hk hq, hLM k q hk hq⟩)
  have HLEN := Lib.hid hlen; clear hlen
  have HLV := Lib.hid hLV; clear hLV
  have HLM := Lib.hid hLM; clear hLM
  have HV := Lib.hid hV; clear hV
  have HM := Lib.hid hM; clear hM
  go_enter Tryd.func97, Tryd.ntmps97
  go_wp2_with (first
    | (at_make; refine mk_full rfl _ _ _ rfl W.heap.size et_nats .i64 .i64 _ _ n rfl rfl rfl rfl (by omega) (by unfold maxLen; omega) (Nat.le_refl _) ?_; intro w1 hown1 hb1 hsz1; rw [made_nats] at hown1))
  have hst : OwNs w1 W.heap.size (.slice (some ⟨W.heap.size, 0, none⟩) n n) n (fun _ => (none, 0, 0)) (fun j => limbs (thr (vN V) (vM M) 0 j)) := OwNs.made hown1
  have HST := Lib.hid hst; clear hst hown1
  obtain ⟨g, hg⟩ : ∃ g, W.heap.size = g := ⟨_, rfl⟩
  have HGS := Lib.hid hg
  rw [hg] at HST
  simp only [hg]
  clear hg
  go_loopw [15] (fun ix wr => ∃ (i : Nat) (its : Nat → It), i ≤ n ∧ ix = .int .i64 i ∧ OwNs wr g (.slice (some ⟨g, 0, none⟩) n n) n its (fun j => limbs (thr (vN V) (vM M) i j)) ∧ Below W.heap.size W wr) (fun ix _ => n - (intOf ix).toNat)
  case atStart => exact ⟨0, _, by omega, rfl, HST.out, hb1⟩
  case round =>
    clear HST hb1
    obtain ⟨i, its, hi, rfl, ho, hb⟩ := hrel
    by_cases hin : i < n
    · obtain ⟨bv, ov, rfl, hbv, hcv⟩ := HV.out.addr (by omega)
      obtain ⟨a1, n1, c1, x0, hx⟩ := hcv i hin
      have x1 := (hb.cell (p := ⟨bv, ov + i, none⟩) hbv).trans x0
      have HX := Lib.hid (hx.up hb)
      have HXW := Lib.hid hx
      have n1L := hx.small (HLV.out i hin)
      have HO := Lib.hid ho
      have HB := Lib.hid hb
      clear hcv x0 hx ho hb
      have i0 : (0 : Int) ≤ (i : Int) := by omega
      have i1 : (i : Int) < (n : Int) := by omega
      generalize wr = wo at *
      go_wp2_with fail
      refine (bits_any a1 n1 c1 (V i) _ HX.out.nr (by omega) HX.out.le HX.out.cm).mono ?_; rintro e w2 ⟨m, rfl, hm0, rfl⟩
      by_cases hz : val (V i) = 0
      · obtain rfl : m = 0 := hm0.2 hz
        have hn2 := HO.out.congr (G := fun j => limbs (thr (vN V) (vM M) (i + 1) j)) fun j hj => by rw [thr_succ]; simp only [vN]; rw [hz, Nat.zero_mul, Nat.add_zero]
        have HN2 := Lib.hid hn2
        clear hm0 hz hn2
        go_wp2
        go_roundw
        case rel => exact ⟨i + 1, its, by omega, by go_num, HN2.out, HB.out⟩
        case measure => simp [intOf]; omega
      · have hmb : ((m : Int) == 0) = false := by rw [beq_eq_false_iff_ne]; intro e; exact hz (hm0.1 (by omega))
        obtain ⟨bm, om, rfl, hbm, hcm⟩ := HM.out.addr (by omega)
        obtain ⟨a2, c2, y0, hle2, hcm2, hn2, hrow⟩ := hcm i hin
        have y1 := (HB.out.cell (p := ⟨bm, om + i, none⟩) hbm).trans y0
        have HROW := Lib.hid hrow
        have HP := Lib.hid (HO.out.congr (G := part (vN V) (vM M) i 0) fun j hj => by rw [part_zero])
        clear hcm y0 hrow hm0 hz hn2 HO
        go_wp2_with fail
        go_loopw [28] (fun jx wr => ∃ (k : Nat) (its : Nat → It), k ≤ n ∧ jx = .int .i64 k ∧ OwNs wr g (.slice (some ⟨g, 0, none⟩) n n) n its (part (vN V) (vM M) i k) ∧ Below W.heap.size W wr) (fun jx _ => n - (intOf jx).toNat)
        case atStart => exact ⟨0, its, by omega, rfl, HP.out, HB.out⟩
        case round =>
          clear HP
          obtain ⟨k, its, hk, rfl, ho, hb⟩ := hrel
          by_cases hkn : k < n
          · obtain ⟨b3, o3, rfl, hb3, hc3⟩ := HROW.out.addr (by omega)
            obtain ⟨a3, n3, c3, z0, hy⟩ := hc3 k hkn
            have z1 := (hb.cell (p := ⟨b3, o3 + k, none⟩) hb3).trans z0
            have HY := Lib.hid (hy.up hb)
            have HX2 := Lib.hid (HXW.out.up hb)
            have n3L := hy.small (HLM.out i k hin hkn)
            have HO := Lib.hid ho
            have HB2 := Lib.hid hb
            clear hc3 z0 hy ho hb
            have k0 : (0 : Int) ≤ (k : Int) := by omega
            have k1 : (k : Int) < (n : Int) := by omega
            go_wp2_with fail
            refine (bits_any a3 n3 c3 (M i k) _ HY.out.nr (by omega) HY.out.le HY.out.cm).mono ?_; rintro e w2 ⟨m2, rfl, hm0, rfl⟩
            by_cases hz : val (M i k) = 0
            · obtain rfl : m2 = 0 := hm0.2 hz
              have hn2 := HO.out.congr (G := part (vN V) (vM M) i (k + 1)) fun j hj => part_skip (by simp only [vM]; rw [hz, Nat.mul_zero])
              have HN2 := Lib.hid hn2
              clear hm0 hz hn2
              go_wp2
              go_roundw
              case rel => exact ⟨k + 1, its, by omega, by go_num, HN2.out, HB2.out⟩
              case measure => simp [intOf]; omega
            · have hmb2 : 0 < m2 := by
                have : m2 ≠ 0 := fun e => hz (hm0.1 e)
                omega
              have hcell := HO.out.row.cellAt k (by omega)
              rw [range_at _ hkn] at hcell
              have f0 := HO.out.row.frozenAt k
              have hnk := (HO.out.num k hkn).ns
              rw [part_at] at hnk
              have hlk := hnk.small (HLEN.out i k (by omega) hkn)
              obtain ⟨a4, n4, c4, hit⟩ : ∃ a4 n4 c4, its k = (a4, n4, c4) := ⟨_, _, _, rfl⟩
              rw [hit] at hcell hnk hlk
              simp only [IV] at hcell hnk hlk
              have HNK := Lib.hid hnk
              have hgl : g < wr.heap.size := own_lt HO.out.row g rfl
              have HGL := Lib.hid hgl
              clear hm0 hz hnk hit hgl
              go_wp2_with fail
              go_region_with (first
                | (go_at_call 72; refine (mul_any a1 a3 n1 n3 c1 c3 (V i) (M i k) _ (HX2.out.up (bnil _).drew).nr (HY.out.up (bnil _).drew).nr (by omega)).mono ?_; rintro e w4 ⟨a5, n5, c5, rfl, ho5, hv5, hb5⟩; have H5 := Lib.hid ho5; have HV5 := Lib.hid hv5; have HB5 := Lib.hid ((bnil wr).drew.trans hb5); have hn5 : n5 ≤ n1 + n3 := by { have := hv5.len; have := mul_len HX2.out HY.out; omega }; have c4' := (hb5.cell (p := ⟨g, k, none⟩) HGL.out).trans hcell; clear ho5 hv5 hb5)
                | (go_at_call 71; refine (add_any a4 a5 n4 n5 c4 c5 _ _ _ (HNK.out.up HB5.out).nr HV5.out.nr (by omega) (by omega)).mono ?_; rintro e w6 ⟨a6, n6, c6, rfl, ho6, hv6, hb6⟩; rw [val_limbs, val_limbs] at ho6; have H6 := Lib.hid ho6; have HB6 := Lib.hid hb6; have c6' := (hb6.cell (p := ⟨g, k, none⟩) (Nat.lt_of_lt_of_le HGL.out HB5.out.size)).trans c4'; have f6' := (hb6.frozen (p := ⟨g, k, none⟩) (Nat.lt_of_lt_of_le HGL.out HB5.out.size)).trans ((HB5.out.frozen (p := ⟨g, k, none⟩) HGL.out).trans f0); clear ho6 hv6 hb6))
              all_goals
                have hb9 := (HB2.out.trans ((HB5.out.trans (HB6.out.mono HB5.out.size)).mono HB2.out.size)).setCell (p := ⟨g, k, none⟩) (by rw [HGS.out]; exact Nat.le_refl _) (.slice a6 n6 c6)
                have HS := Lib.hid (put_sum HO.out hkn HB5.out HB6.out H6.out (by have := HGL.out; omega))
                have HB9 := Lib.hid hb9
                clear hb9 HO HB5 HB6 H6 HB2
                go_wp2
                go_roundw
                case rel => exact ⟨k + 1, _, by omega, by go_num, HS.out, HB9.out⟩
                case measure => simp [intOf]; omega
          · obtain rfl : k = n := by omega
            have HN2 := Lib.hid (ho.congr (G := fun j => limbs (thr (vN V) (vM M) (i + 1) j)) fun j hj => part_end hj)
            have HB2 := Lib.hid hb
            clear ho hb
            go_wp2
            go_roundw
            case rel => exact ⟨i + 1, its, by omega, by go_num, HN2.out, HB2.out⟩
            case measure => simp [intOf]; omega
    · obtain rfl : i = n := by omega
      have HO := Lib.hid ho
      have HB := Lib.hid hb
      clear ho hb
      go_wp2
      go_ret
      exact ⟨_, _, its, rfl, by rw [HGS.out]; exact HO.out, HB.out⟩
end Go.Proofs.YteneiianpghalaaDoor
