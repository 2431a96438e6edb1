/- edenref16.Product. -/
import Derived.Test.YteneiianpghalaaDoorMatG
import Derived.Test.YteneiianpghalaaDoorR02C
import Derived.Deep.RegionHeld3
namespace Go.Proofs.YteneiianpghalaaDoor
open Go.RowKit
set_option linter.unusedVariables false
set_option maxRecDepth 100000

/-- the product's entries before entry (i, j) -/
def prd (n : Nat) (a b : Mat) (i j p q : Nat) : List Nat := if p < i ∨ (p = i ∧ q < j) then limbs (mm n a b p q) else []
theorem prd_line {n i : Nat} {a b : Mat} (p q : Nat) : upd (prd n a b i 0) i (fun _ => []) p q = prd n a b i 0 p q := by
  by_cases e : p = i
  · subst e; rw [upd_self]; unfold prd; rw [if_neg (by omega)]
  · rw [upd_ne _ _ e]
theorem prd_put {n i j : Nat} {a b : Mat} (p q : Nat) : upd (prd n a b i j) i (upd (prd n a b i j i) j (limbs (mm n a b i j))) p q = prd n a b i (j + 1) p q := by
  by_cases e : p = i
  · subst e
    rw [upd_self]
    by_cases e2 : q = j
    · subst e2; rw [upd_self]; unfold prd; rw [if_pos (by omega)]
    · rw [upd_ne _ _ e2]; unfold prd
      by_cases e3 : q < j
      · rw [if_pos (by omega), if_pos (by omega)]
      · rw [if_neg (by omega), if_neg (by omega)]
  · rw [upd_ne _ _ e]; unfold prd
    by_cases e3 : p < i
    · rw [if_pos (by omega), if_pos (by omega)]
    · rw [if_neg (by omega), if_neg (by omega)]
theorem prd_next {n i p q : Nat} {a b : Mat} (hq : q < n) : prd n a b i n p q = prd n a b (i + 1) 0 p q := by
  unfold prd
  by_cases e3 : p ≤ i
  · rw [if_pos (by omega), if_pos (by omega)]
  · rw [if_neg (by omega), if_neg (by omega)]
theorem prd_end {n p q : Nat} {a b : Mat} (hp : p < n) : prd n a b n 0 p q = limbs (mm n a b p q) := by unfold prd; rw [if_pos (by omega)]
def MsRet (W : World) (n : Nat) (F : Nat → Nat → List Nat) (e : Ending) (w' : World) : Prop :=
  ∃ a' c' rows its, e = .returned (.slice a' n c') ∧ OwMs w' W.heap.size (.slice a' n c') n n rows its F ∧ Below W.heap.size W w'

set_option maxHeartbeats 16000000 in
theorem prod16 (aa ab : Option Addr) (n ca cb : Nat) (A B : Nat → Nat → List Nat) (L : Nat) (W : World) (hA : MsR W aa n (fun _ => n) A) (hB : MsR W ab n (fun _ => n) B) (hn : n ≤ 96) (hLA : ∀ i j, i < n → j < n → (A i j).length ≤ L) (hLB : ∀ i j, i < n → j < n → (B i j).length ≤ L) (hL : L ≤ 90000) :
    Calls Tryd.prog 93 #[.slice aa n ca, .slice ab n cb] W (MsRet W n fun i j => limbs (mm n (vM A) (vM B) i j)) := by
  have HLEN : Hid (∀ k i j, k ≤ n → i < n → j < n → (limbs (thr (vM A i) (vM B) k j)).length ≤ L + L + 1) := fun k i j hk hi hj => thr_len (v := vM A i) (V := A i) hk hj hn (fun q hq => ⟨hA.u32 i q hi hq, hLA i q hi hq⟩) (fun p q hp hq => ⟨hB.u32 p q hp hq, hLB p q hp hq⟩)
  have HLA := Lib.hid hLA; clear hLA
  have HLB := Lib.hid hLB; clear hLB
  have HA := Lib.hid hA; clear hA
  have HB := Lib.hid hB; clear hB
  go_enter Tryd.func93, Tryd.ntmps93
  go_wp2_with (first
    | (at_make; refine mk_full rfl _ _ _ rfl W.heap.size et_natss .i64 .i64 _ _ n rfl rfl rfl rfl (by omega) (by unfold maxLen; omega) (Nat.le_refl _) ?_; intro w1 hown1 hb1 hsz1; rw [made_natss] at hown1))
  have hst := OwMs.made hown1 (prd n (vM A) (vM B) 0 0)
  have HST := Lib.hid hst; clear hst hown1
  obtain ⟨g, hg⟩ : ∃ g, W.heap.size = g := ⟨_, rfl⟩
  have HGS := Lib.hid hg
  rw [hg] at HST
  simp only [hg]
  clear hg
  go_loopw [7] (fun ix wr => ∃ (i : Nat) (rows : Nat → It) (its : Nat → Nat → It), i ≤ n ∧ ix = .int .i64 i ∧ OwMs wr g (.slice (some ⟨g, 0, none⟩) n n) n i rows its (prd n (vM A) (vM B) i 0) ∧ Below W.heap.size W wr) (fun ix _ => n - (intOf ix).toNat)
  case atStart => exact ⟨0, _, _, by omega, rfl, HST.out, hb1⟩
  case round =>
    clear HST hb1
    obtain ⟨i, rows, its, hi, rfl, ho, hb⟩ := hrel
    have HO := Lib.hid ho
    have HBW := Lib.hid hb
    clear ho hb
    by_cases hin : i < n
    · have hcell := HO.out.row.cellAt i (by omega)
      rw [range_at _ hin] at hcell
      obtain ⟨u, hu⟩ : ∃ u, wr.cell? ⟨g, i, none⟩ = some u := ⟨_, hcell⟩
      have f0 := HO.out.row.frozenAt i
      have hgl : g < wr.heap.size := own_lt HO.out.row g rfl
      have HGL := Lib.hid hgl
      clear hcell hgl
      have i0 : (0 : Int) ≤ (i : Int) := by omega
      have i1 : (i : Int) < (n : Int) := by omega
      go_wp2_with (first
        | (at_make; refine mk_full rfl _ _ _ rfl wr.heap.size et_nats .i64 .i64 _ _ n rfl rfl rfl rfl (by omega) (by unfold maxLen; omega) (Nat.le_refl _) ?_; intro w2 hown2 hb2 hsz2; rw [made_nats] at hown2; have H2 := Lib.hid (OwNs.made hown2); have HB2 := Lib.hid hb2; have u2 := (hb2.cell (p := ⟨g, i, none⟩) HGL.out).trans hu; have f2 := (hb2.frozen (p := ⟨g, i, none⟩) HGL.out).trans f0; clear hown2 hb2))
      have hlat := HO.out.later (p := (some ⟨wr.heap.size, 0, none⟩, n, n)) H2.out (Nat.le_refl _)
      have hst := ((HO.out.up HB2.out).store (p := (some ⟨wr.heap.size, 0, none⟩, n, n)) hin rfl (OwNs.base (b' := g) H2.out (Nat.le_of_lt HGL.out)) hlat.1 hlat.2).congr fun p q _ _ => prd_line p q
      have hb3 := (HBW.out.trans (HB2.out.mono HBW.out.size)).setCell (p := ⟨g, i, none⟩) (by rw [HGS.out]; exact Nat.le_refl _) (.slice (some ⟨wr.heap.size, 0, none⟩) n n)
      have HB3 := Lib.hid hb3
      obtain ⟨g2, hg2⟩ : ∃ g2, wr.heap.size = g2 := ⟨_, rfl⟩
      have hg2W : W.heap.size ≤ g2 := by rw [← hg2]; exact HBW.out.size
      have HG2W := Lib.hid hg2W
      rw [hg2] at hst
      rw [hg2] at HB3
      simp only [IV] at hst
      obtain ⟨w3, hw3⟩ : ∃ w3, w2.setCell ⟨g, i, none⟩ (.slice (some ⟨g2, 0, none⟩) n n) = w3 := ⟨_, rfl⟩
      rw [hw3] at hst HB3
      simp only [hg2, hw3]
      obtain ⟨ROWS, hrows⟩ : ∃ R, upd rows i (some ⟨g2, 0, none⟩, n, n) = R := ⟨_, rfl⟩
      rw [hrows] at hst
      have HROW : Hid (ROWS i = (some ⟨g2, 0, none⟩, n, n)) := by show _ = _; rw [← hrows, upd_self]
      have HST := Lib.hid hst
      clear hst hb3 hlat H2 HB2 hw3 u2 f2 hg2 hg2W hrows hu f0 u HO HBW HGL
      go_loopw [8] (fun jx wr => ∃ (j : Nat) (its : Nat → Nat → It), j ≤ n ∧ jx = .int .i64 j ∧ OwMs wr g (.slice (some ⟨g, 0, none⟩) n n) n (i + 1) ROWS its (prd n (vM A) (vM B) i j) ∧ Below W.heap.size W wr) (fun jx _ => n - (intOf jx).toNat)
      case atStart => exact ⟨0, _, by omega, rfl, HST.out, HB3.out⟩
      case round =>
        clear HST HB3
        obtain ⟨j, its, hj, rfl, ho, hb⟩ := hrel
        have HO := Lib.hid ho
        have HBZ := Lib.hid hb
        clear ho hb
        by_cases hjn : j < n
        · have j0 : (0 : Int) ≤ (j : Int) := by omega
          have j1 : (j : Int) < (n : Int) := by omega
          generalize wr = wz at *
          go_wp2_with fail
          go_loopw [9, 10] (fun sv kx wr => ∃ (k : Nat) (a9 : Option Addr) (n9 c9 : Nat), k ≤ n ∧ sv = .slice a9 n9 c9 ∧ kx = .int .i64 k ∧ OwN wr wz.heap.size (a9, n9, c9) (limbs (thr (vM A i) (vM B) k j)) ∧ Below wz.heap.size wz wr) (fun _ kx _ => n - (intOf kx).toNat)
          case atStart => exact ⟨0, none, 0, 0, by omega, rfl, rfl, OwN.nil _ _, bnil _⟩
          case round =>
            obtain ⟨k, a9, n9, c9, hk, rfl, rfl, ho9, hb⟩ := hrel
            have hBW := HBZ.out.trans (hb.mono HBZ.out.size)
            have HB9 := Lib.hid hb
            have HO9 := Lib.hid ho9
            clear hb ho9
            by_cases hkn : k < n
            · obtain ⟨bA, oA, rfl, lA, hcA⟩ := HA.out.addr (by omega)
              obtain ⟨aA, cA, x0, _, _, _, hrA⟩ := hcA i hin
              obtain ⟨bA1, oA1, rfl, lA1, hcA1⟩ := hrA.addr (by omega)
              obtain ⟨a1, n1, c1, y0, hx⟩ := hcA1 k hkn
              obtain ⟨bB, oB, rfl, lB, hcB⟩ := HB.out.addr (by omega)
              obtain ⟨aB, cB, z0, _, _, _, hrB⟩ := hcB k hkn
              obtain ⟨bB1, oB1, rfl, lB1, hcB1⟩ := hrB.addr (by omega)
              obtain ⟨a2, n2, c2, u0, hy⟩ := hcB1 j hjn
              have x1 := (hBW.cell (p := ⟨bA, oA + i, none⟩) lA).trans x0
              have y1 := (hBW.cell (p := ⟨bA1, oA1 + k, none⟩) lA1).trans y0
              have z1 := (hBW.cell (p := ⟨bB, oB + k, none⟩) lB).trans z0
              have u1 := (hBW.cell (p := ⟨bB1, oB1 + j, none⟩) lB1).trans u0
              have HX := Lib.hid (hx.up hBW)
              have HY := Lib.hid (hy.up hBW)
              have n1L := hx.small (HLA.out i k hin hkn)
              have n2L := hy.small (HLB.out k j hkn hjn)
              have hXl := hx.nr.len
              have hYl := hy.nr.len
              have hn9 := HO9.out.ns.small (HLEN.out k i j hk hin hjn)
              simp only at hn9
              have HL9 : Hid (bA < wr.heap.size ∧ bA1 < wr.heap.size ∧ bB < wr.heap.size ∧ bB1 < wr.heap.size) := by have := hBW.size; refine ⟨?_, ?_, ?_, ?_⟩ <;> omega
              have k0 : (0 : Int) ≤ (k : Int) := by omega
              have k1 : (k : Int) < (n : Int) := by omega
              have HVX : Hid (n1 = 0 → vM A i k = 0) := fun e => by
                have : A i k = [] := List.eq_nil_of_length_eq_zero (by omega)
                simp [vM, this, val]
              have HVY : Hid (n2 = 0 → vM B k j = 0) := fun e => by
                have : B k j = [] := List.eq_nil_of_length_eq_zero (by omega)
                simp [vM, this, val]
              clear hcA x0 hrA hcA1 y0 hx hcB z0 hrB hcB1 u0 hy lA lA1 lB lB1 hXl hYl hBW
              by_cases h1 : 0 < n1
              · have h1I : (0 : Int) < (n1 : Int) := by omega
                by_cases h2 : 0 < n2
                · have h2I : (0 : Int) < (n2 : Int) := by omega
                  go_wp2_with fail
                  have HXd := Lib.hid (HX.out.up (bnil _).drew)
                  have HYd := Lib.hid (HY.out.up (bnil _).drew)
                  have SD : Hid (wr.drew.cell? ⟨bA, oA + i, none⟩ = some (.slice (some ⟨bA1, oA1, none⟩) n cA) ∧ wr.drew.cell? ⟨bA1, oA1 + k, none⟩ = some (.slice a1 n1 c1) ∧ wr.drew.cell? ⟨bB, oB + k, none⟩ = some (.slice (some ⟨bB1, oB1, none⟩) n cB) ∧ wr.drew.cell? ⟨bB1, oB1 + j, none⟩ = some (.slice a2 n2 c2)) := ⟨x1, y1, z1, u1⟩
                  go_region_held3 (fun w' => w'.cell? ⟨bA, oA + i, none⟩ = some (.slice (some ⟨bA1, oA1, none⟩) n cA) ∧ w'.cell? ⟨bA1, oA1 + k, none⟩ = some (.slice a1 n1 c1) ∧ w'.cell? ⟨bB, oB + k, none⟩ = some (.slice (some ⟨bB1, oB1, none⟩) n cB) ∧ w'.cell? ⟨bB1, oB1 + j, none⟩ = some (.slice a2 n2 c2))
                    (first | with_reducible exact SD.out | with_reducible exact S4.out | with_reducible exact S6.out | with_reducible exact ⟨x1, y1, z1, u1⟩ | go_keep)
                    (first
                      | (go_at_call 98; refine (mul16 a1 a2 n1 n2 c1 c2 (A i k) (B k j) _ HXd.out.nr HYd.out.nr (by omega) (by omega)).mono ?_; rintro e w4 ⟨a5, n5, c5, rfl, ho5, hb5⟩; have HB5 := Lib.hid ((bnil wr).drew.trans hb5); have H5 : Hid (OwN w4 0 (a5, n5, c5) (limbs (val (A i k) * val (B k j)))) := ⟨owns_base ho5 (Nat.zero_le _), limbs_u32 _⟩; have hn5 : n5 ≤ n1 + n2 := by { have := H5.out.ns.nr.len; have := mul_len HXd.out HYd.out; simp only at *; omega }; have S4 : Hid (w4.cell? ⟨bA, oA + i, none⟩ = some (.slice (some ⟨bA1, oA1, none⟩) n cA) ∧ w4.cell? ⟨bA1, oA1 + k, none⟩ = some (.slice a1 n1 c1) ∧ w4.cell? ⟨bB, oB + k, none⟩ = some (.slice (some ⟨bB1, oB1, none⟩) n cB) ∧ w4.cell? ⟨bB1, oB1 + j, none⟩ = some (.slice a2 n2 c2)) := ⟨(HB5.out.cell (p := ⟨bA, oA + i, none⟩) HL9.out.1).trans x1, (HB5.out.cell (p := ⟨bA1, oA1 + k, none⟩) HL9.out.2.1).trans y1, (HB5.out.cell (p := ⟨bB, oB + k, none⟩) HL9.out.2.2.1).trans z1, (HB5.out.cell (p := ⟨bB1, oB1 + j, none⟩) HL9.out.2.2.2).trans u1⟩; clear ho5 hb5)
                      | (go_at_call 96; refine (add16 a9 a5 n9 n5 c9 c5 _ _ _ (HO9.out.up HB5.out).ns.nr H5.out.ns.nr (by omega) (by omega)).mono ?_; rintro e w6 ⟨a6, n6, c6, rfl, ho6, hb6⟩; rw [val_limbs, val_limbs] at ho6; have HB6 := Lib.hid (HB5.out.trans (hb6.mono HB5.out.size)); have H6 : Hid (OwN w6 wz.heap.size (a6, n6, c6) (limbs (thr (vM A i) (vM B) (k + 1) j))) := ⟨owns_base ho6 (Nat.le_trans HB9.out.size HB5.out.size), limbs_u32 _⟩; have S6 : Hid (w6.cell? ⟨bA, oA + i, none⟩ = some (.slice (some ⟨bA1, oA1, none⟩) n cA) ∧ w6.cell? ⟨bA1, oA1 + k, none⟩ = some (.slice a1 n1 c1) ∧ w6.cell? ⟨bB, oB + k, none⟩ = some (.slice (some ⟨bB1, oB1, none⟩) n cB) ∧ w6.cell? ⟨bB1, oB1 + j, none⟩ = some (.slice a2 n2 c2)) := ⟨(HB6.out.cell (p := ⟨bA, oA + i, none⟩) HL9.out.1).trans x1, (HB6.out.cell (p := ⟨bA1, oA1 + k, none⟩) HL9.out.2.1).trans y1, (HB6.out.cell (p := ⟨bB, oB + k, none⟩) HL9.out.2.2.1).trans z1, (HB6.out.cell (p := ⟨bB1, oB1 + j, none⟩) HL9.out.2.2.2).trans u1⟩; clear ho6 hb6))
                  all_goals
                    have HBN := Lib.hid (HB9.out.trans (HB6.out.mono HB9.out.size))
                    clear S4 S6 SD HXd HYd
                    go_wp2
                    go_roundw
                    case rel => exact ⟨k + 1, a6, n6, c6, by omega, rfl, by go_num, H6.out, HBN.out⟩
                    case measure => simp [intOf]; omega
                · obtain rfl : n2 = 0 := by omega
                  have HN : Hid (OwN wr wz.heap.size (a9, n9, c9) (limbs (thr (vM A i) (vM B) (k + 1) j))) := by
                    have := HO9.out
                    show OwN _ _ _ _
                    rw [thr_succ, HVY.out rfl, Nat.mul_zero, Nat.add_zero]; exact this
                  go_wp2
                  go_roundw
                  case rel => exact ⟨k + 1, a9, n9, c9, by omega, rfl, by go_num, HN.out, HB9.out⟩
                  case measure => simp [intOf]; omega
              · obtain rfl : n1 = 0 := by omega
                have HN : Hid (OwN wr wz.heap.size (a9, n9, c9) (limbs (thr (vM A i) (vM B) (k + 1) j))) := by
                  have := HO9.out
                  show OwN _ _ _ _
                  rw [thr_succ, HVX.out rfl, Nat.zero_mul, Nat.add_zero]; exact this
                go_wp2
                go_roundw
                case rel => exact ⟨k + 1, a9, n9, c9, by omega, rfl, by go_num, HN.out, HB9.out⟩
                case measure => simp [intOf]; omega
            · obtain rfl : k = n := by omega
              have hoz := HO.out.up HB9.out
              have HOZ := Lib.hid hoz
              have q0 : wr.cell? ⟨g, i, none⟩ = some (.slice (some ⟨g2, 0, none⟩) k k) := by
                have := hoz.row.cellAt i (by omega)
                rw [range_at _ hin, HROW.out] at this
                exact this
              have hri := (hoz.ns i (Nat.lt_succ_self i)).2
              rw [HROW.out] at hri
              have hrc := World.ownsRow.cellAt (g := g2) (cap := k) (n := k) hri.row j (by omega)
              rw [range_at _ hjn] at hrc
              obtain ⟨u3, hu3⟩ : ∃ u3, wr.cell? ⟨g2, j, none⟩ = some u3 := ⟨_, hrc⟩
              have f3 := World.ownsRow.frozenAt (g := g2) (cap := k) (n := k) hri.row j
              clear hoz hri hrc
              go_wp2
              have hput := (HOZ.out.put (i := i) (j := j) (p := (a9, n9, c9)) (Nat.lt_succ_self i) hjn HROW.out (HO9.out.base (by have := HBZ.out.size; have := HGS.out; omega)) fun q r hq hr _ => ap_after ((HO.out.ns q hq).2.num r hr).own HO9.out.own (Nat.le_refl _)).congr fun p q _ _ => prd_put p q
              have hb5 := (HBZ.out.trans (HB9.out.mono HBZ.out.size)).setCell (p := ⟨g2, j, none⟩) HG2W.out (.slice a9 n9 c9)
              have HPUT := Lib.hid hput
              have HB5 := Lib.hid hb5
              clear hput hb5 HOZ
              go_roundw
              case rel => exact ⟨j + 1, _, by omega, by go_num, HPUT.out, HB5.out⟩
              case measure => simp [intOf]; omega
        · obtain rfl : j = n := by omega
          have HN := Lib.hid (HO.out.congr (G := prd j (vM A) (vM B) (i + 1) 0) fun p q _ hq => prd_next hq)
          clear HO
          go_wp2
          go_roundw
          case rel => exact ⟨i + 1, ROWS, its, by omega, by go_num, HN.out, HBZ.out⟩
          case measure => simp [intOf]; omega
    · obtain rfl : i = n := by omega
      go_wp2
      go_ret
      exact ⟨_, _, rows, its, rfl, by rw [HGS.out]; exact HO.out.congr fun p q hp _ => prd_end hp, HBW.out⟩
end Go.Proofs.YteneiianpghalaaDoor
