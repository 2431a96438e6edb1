/- The contracts of mat.product, zero, One. -/
import Derived.Test.YteneiianpghalaaDoorMatA
import Derived.Test.YteneiianpghalaaDoorBase
namespace Go.Proofs.YteneiianpghalaaDoor
open Go.RowKit
set_option linter.unusedVariables false
set_option maxRecDepth 100000

theorem made_natss (n : Nat) : (madeCells (Value.slice none 0 0).cells (n * 1)).toList = (List.range n).map fun _ => IV (none, 0, 0) := made_nats n
/-- the limbs of a product's lines, and below them what was there -/
abbrev prodF (n : Nat) (A B : Nat → Nat → List Nat) : Nat → Nat → List Nat := fun i j => limbs (mm n (vM A) (vM B) i j)

set_option maxHeartbeats 4000000 in
theorem product_any (aa ab : Option Addr) (n ca cb : Nat) (A B : Nat → Nat → List Nat) (L : Nat) (W : World) (hA : MsR W aa n (fun _ => n) A) (hB : MsR W ab n (fun _ => n) B) (hn : n ≤ 96) (hLA : ∀ i j, i < n → j < n → (A i j).length ≤ L) (hLB : ∀ i j, i < n → j < n → (B i j).length ≤ L) (hL : L ≤ 400000) :
    Calls Tryd.prog 91 #[.slice aa n ca, .slice ab n cb] W fun e w' => ∃ a' c' rows its, e = .returned (.slice a' n c') ∧ OwMs w' W.heap.size (.slice a' n c') n n rows its (prodF n A B) ∧ Below W.heap.size W w' := by
  have HLA := Lib.hid hLA; clear hLA
  have HLB := Lib.hid hLB; clear hLB
  have HA := Lib.hid hA; clear hA
  have HB := Lib.hid hB; clear hB
  go_enter Tryd.func91, Tryd.ntmps91
  go_wp2_with (first
    | (at_make; refine mk_full rfl _ _ _ rfl W.heap.size et_natss .i64 .i64 _ _ n rfl rfl rfl rfl (by omega) (by unfold maxLen; omega) (Nat.le_refl _) ?_; intro w1 hown1 hb1 hsz1; rw [made_natss] at hown1))
  have hst := OwMs.made hown1 (fun _ _ => [])
  have HST := Lib.hid hst; clear hst hown1
  obtain ⟨g, hg⟩ : ∃ g, W.heap.size = g := ⟨_, rfl⟩
  have HGS := Lib.hid hg
  rw [hg] at HST
  simp only [hg]
  clear hg
  go_loopw [13] (fun ix wr => ∃ (i : Nat) (rows : Nat → It) (its : Nat → Nat → It) (F : Nat → Nat → List Nat), i ≤ n ∧ ix = .int .i64 i ∧ OwMs wr g (.slice (some ⟨g, 0, none⟩) n n) n i rows its F ∧ (∀ p q, p < i → q < n → F p q = prodF n A B p q) ∧ Below W.heap.size W wr) (fun ix _ => n - (intOf ix).toNat)
  case atStart => exact ⟨0, _, _, _, by omega, rfl, HST.out, fun p q h => by omega, hb1⟩
  case round =>
    clear HST hb1
    obtain ⟨i, rows, its, F, hi, rfl, ho, hF, hb⟩ := hrel
    have HF := Lib.hid hF
    have HO := Lib.hid ho
    have HBW := Lib.hid hb
    clear ho hF hb
    by_cases hin : i < n
    · obtain ⟨ba, oa, rfl, hba, hca⟩ := HA.out.addr (by omega)
      obtain ⟨a1, c1, x0, hle1, hcm1, hn1, hrow⟩ := hca i hin
      have x1 := (HBW.out.cell (p := ⟨ba, oa + i, none⟩) hba).trans x0
      have HROW := Lib.hid (NsR.up hrow HBW.out)
      have HBr := Lib.hid (HB.out.up HBW.out)
      have hcell := HO.out.row.cellAt i (by omega)
      rw [range_at _ hin] at hcell
      obtain ⟨u, hu⟩ : ∃ u, wr.cell? ⟨g, i, none⟩ = some u := ⟨_, hcell⟩
      have f0 := HO.out.row.frozenAt i
      have hgl : g < wr.heap.size := own_lt HO.out.row g rfl
      have HGL := Lib.hid hgl
      clear hca x0 hrow hn1 hcell hgl
      have i0 : (0 : Int) ≤ (i : Int) := by omega
      have i1 : (i : Int) < (n : Int) := by omega
      go_wp2_with fail
      refine (through_any a1 ab n c1 cb (A i) B L _ HROW.out HBr.out hn (fun j hj => HLA.out i j hin hj) HLB.out hL).mono ?_; rintro e w2 ⟨a2, c2, it, rfl, ho2, hb2⟩
      have u2 := (hb2.cell (p := ⟨g, i, none⟩) HGL.out).trans hu
      have f2 := (hb2.frozen (p := ⟨g, i, none⟩) HGL.out).trans f0
      have hlat := HO.out.later (p := (a2, n, c2)) ho2 (Nat.le_refl _)
      have hst := (HO.out.up hb2).store (p := (a2, n, c2)) hin rfl (OwNs.base (b' := g) ho2 (Nat.le_of_lt HGL.out)) hlat.1 hlat.2
      have hb3 := (HBW.out.trans (hb2.mono HBW.out.size)).setCell (p := ⟨g, i, none⟩) (by rw [HGS.out]; exact Nat.le_refl _) (.slice a2 n c2)
      have HST := Lib.hid hst
      have HB3 := Lib.hid hb3
      clear hst hb3 hlat ho2 hb2
      go_wp2
      go_roundw
      case rel => exact ⟨i + 1, _, _, _, by omega, by go_num, HST.out, fun p q hp hq => by
        by_cases e : p = i
        · subst e; rw [upd_self]; rfl
        · rw [upd_ne _ _ e]; exact HF.out p q (by omega) hq, HB3.out⟩
      case measure => simp [intOf]; omega
    · obtain rfl : i = n := by omega
      go_wp2
      go_ret
      exact ⟨_, _, rows, its, rfl, by rw [HGS.out]; exact HO.out.congr HF.out, HBW.out⟩

set_option maxHeartbeats 4000000 in
theorem zero_any (n : Nat) (W : World) (hn : n ≤ 96) :
    Calls Tryd.prog 143 #[.int .i64 n] W fun e w' => ∃ a' c' rows its, e = .returned (.slice a' n c') ∧ OwMs w' W.heap.size (.slice a' n c') n n rows its (fun _ _ => []) ∧ Below W.heap.size W w' := by
  go_enter Tryd.func143, Tryd.ntmps143
  go_wp2_with (first
    | (at_make; refine mk_full rfl _ _ _ rfl W.heap.size et_natss .i64 .i64 _ _ n rfl rfl rfl rfl (by omega) (by unfold maxLen; omega) (Nat.le_refl _) ?_; intro w1 hown1 hb1 hsz1; rw [made_natss] at hown1))
  have hst := OwMs.made hown1 (fun _ _ => [])
  have HST := Lib.hid hst; clear hst hown1
  obtain ⟨g, hg⟩ : ∃ g, W.heap.size = g := ⟨_, rfl⟩
  have HGS := Lib.hid hg
  rw [hg] at HST
  simp only [hg]
  clear hg
  go_loopw [9] (fun ix wr => ∃ (i : Nat) (rows : Nat → It) (its : Nat → Nat → It), i ≤ n ∧ ix = .int .i64 i ∧ OwMs wr g (.slice (some ⟨g, 0, none⟩) n n) n i rows its (fun _ _ => []) ∧ Below W.heap.size W wr) (fun ix _ => n - (intOf ix).toNat)
  case atStart => exact ⟨0, _, _, by omega, rfl, HST.out, hb1⟩
  case round =>
    clear HST hb1
    obtain ⟨i, rows, its, hi, rfl, ho, hb⟩ := hrel
    have HO := Lib.hid ho
    have HBW := Lib.hid hb
    clear ho hb
    by_cases hin : i < n
    · have hcell := HO.out.row.cellAt i (by omega)
      rw [range_at _ hin] at hcell
      obtain ⟨u, hu⟩ : ∃ u, wr.cell? ⟨g, i, none⟩ = some u := ⟨_, hcell⟩
      have f0 := HO.out.row.frozenAt i
      have hgl : g < wr.heap.size := own_lt HO.out.row g rfl
      have HGL := Lib.hid hgl
      clear hcell hgl
      have i0 : (0 : Int) ≤ (i : Int) := by omega
      have i1 : (i : Int) < (n : Int) := by omega
      go_wp2_with (first
        | (at_make; refine mk_full rfl _ _ _ rfl wr.heap.size et_nats .i64 .i64 _ _ n rfl rfl rfl rfl (by omega) (by unfold maxLen; omega) (Nat.le_refl _) ?_; intro w2 hown2 hb2 hsz2; rw [made_nats] at hown2; have H2 := Lib.hid (OwNs.made hown2); have HB2 := Lib.hid hb2; have u2 := (hb2.cell (p := ⟨g, i, none⟩) HGL.out).trans hu; have f2 := (hb2.frozen (p := ⟨g, i, none⟩) HGL.out).trans f0; clear hown2 hb2))
      have hlat := HO.out.later (p := (some ⟨wr.heap.size, 0, none⟩, n, n)) H2.out (Nat.le_refl _)
      have hst := ((HO.out.up HB2.out).store (p := (some ⟨wr.heap.size, 0, none⟩, n, n)) hin rfl (OwNs.base (b' := g) H2.out (Nat.le_of_lt HGL.out)) hlat.1 hlat.2).congr (G := fun _ _ => []) (fun p q _ _ => by unfold upd; split <;> rfl)
      have hb3 := (HBW.out.trans (HB2.out.mono HBW.out.size)).setCell (p := ⟨g, i, none⟩) (by rw [HGS.out]; exact Nat.le_refl _) (.slice (some ⟨wr.heap.size, 0, none⟩) n n)
      have HST := Lib.hid hst
      have HB3 := Lib.hid hb3
      clear hst hb3 hlat H2 HB2
      go_wp2
      go_roundw
      case rel => exact ⟨i + 1, _, _, by omega, by go_num, HST.out, HB3.out⟩
      case measure => simp [intOf]; omega
    · obtain rfl : i = n := by omega
      go_wp2
      go_ret
      exact ⟨_, _, rows, its, rfl, by rw [HGS.out]; exact HO.out, HBW.out⟩

/-- the limbs of the matrix that changes nothing, its first i lines -/
def oneF (i : Nat) : Nat → Nat → List Nat := fun p q => if p < i ∧ p = q then [1] else []
theorem oneF_end {n p q : Nat} (hp : p < n) : oneF n p q = limbs (oneM p q) := by
  unfold oneF oneM
  by_cases e : p = q
  · rw [if_pos ⟨hp, e⟩, if_pos e]; rfl
  · rw [if_neg fun e2 => e e2.2, if_neg e]; rfl
theorem oneF_put (i p q : Nat) : upd (oneF i) i (upd (oneF i i) i [1]) p q = oneF (i + 1) p q := by
  by_cases e : p = i
  · subst e
    rw [upd_self]
    by_cases e2 : q = p
    · subst e2; rw [upd_self]; simp [oneF]
    · rw [upd_ne _ _ e2]
      have e3 : ¬ p = q := fun h => e2 h.symm
      simp [oneF, e3]
  · rw [upd_ne _ _ e]
    unfold oneF
    by_cases e2 : p = q
    · by_cases e3 : p < i
      · rw [if_pos ⟨e3, e2⟩, if_pos ⟨by omega, e2⟩]
      · rw [if_neg fun e4 => e3 e4.1, if_neg fun e4 => by omega]
    · rw [if_neg fun e4 => e2 e4.2, if_neg fun e4 => e2 e4.2]
theorem limbs_one : limbs 1 = [1] := rfl

set_option maxHeartbeats 4000000 in
theorem one_any (n : Nat) (W : World) (hn : n ≤ 96) :
    Calls Tryd.prog 94 #[.int .i64 n] W fun e w' => ∃ a' c' rows its, e = .returned (.tuple #[.slice a' n c', .nilIface]) ∧ OwMs w' W.heap.size (.slice a' n c') n n rows its (fun i j => limbs (oneM i j)) ∧ Below W.heap.size W w' := by
  go_enter Tryd.func94, Tryd.ntmps94
  go_wp2_with fail
  refine (zero_any n _ hn).mono ?_; rintro e w1 ⟨a1, c1, rows, its, rfl, ho1, hb1⟩
  have HST := Lib.hid (ho1.congr (G := oneF 0) fun p q _ _ => by simp [oneF])
  clear ho1
  go_wp2_with fail
  go_loopw [18] (fun ix wr => ∃ (i : Nat) (its : Nat → Nat → It), i ≤ n ∧ ix = .int .i64 i ∧ OwMs wr W.heap.size (.slice a1 n c1) n n rows its (oneF i) ∧ Below W.heap.size W wr) (fun ix _ => n - (intOf ix).toNat)
  case atStart => exact ⟨0, _, by omega, rfl, HST.out, hb1⟩
  case round =>
    clear HST hb1
    obtain ⟨i, its, hi, rfl, ho, hb⟩ := hrel
    have HO := Lib.hid ho
    have HBW := Lib.hid hb
    clear ho hb
    by_cases hin : i < n
    · obtain ⟨g, rfl, _, hgl⟩ := own_form HO.out.row (by omega)
      have hcell := HO.out.row.cellAt i (by omega)
      rw [range_at _ hin] at hcell
      obtain ⟨hrn, hri⟩ := HO.out.ns i hin
      obtain ⟨a2, m2, c2, hr⟩ : ∃ a2 m2 c2, rows i = (a2, m2, c2) := ⟨_, _, _, rfl⟩
      rw [hr] at hrn hri hcell
      simp only at hrn
      obtain rfl : n = m2 := hrn.symm
      obtain ⟨g2, rfl, _, hg2l⟩ := own_form (a := a2) (c := c2) (n := n) hri.row (by omega)
      have hcell2 := World.ownsRow.cellAt (g := g2) (cap := c2) (n := n) hri.row i (by omega)
      rw [range_at _ hin] at hcell2
      simp only [IV] at hcell hcell2
      have f2 := World.ownsRow.frozenAt (g := g2) (cap := c2) (n := n) hri.row i
      obtain ⟨u, hu⟩ : ∃ u, wr.cell? ⟨g2, i, none⟩ = some u := ⟨_, hcell2⟩
      have HR := Lib.hid hr
      have HGL := Lib.hid hgl
      have HG2 := Lib.hid hg2l
      have HG2W : Hid (W.heap.size ≤ g2) := (hri.row.lt g2 rfl).1
      clear hcell2 hri hr hgl hg2l
      have i0 : (0 : Int) ≤ (i : Int) := by omega
      have i1 : (i : Int) < (n : Int) := by omega
      go_wp2_with fail
      go_region_with (first
        | (go_at_call 14; refine (from_any 1 _ (by omega)).mono ?_; rintro e w4 ⟨n4, rfl, ho4, hv4, hb4⟩; have H4 := Lib.hid ho4; have HB4 := Lib.hid ((bnil wr).drew.trans hb4); have c4' := (hb4.cell (p := ⟨g, i, none⟩) HGL.out).trans hcell; have u4' := (hb4.cell (p := ⟨g2, i, none⟩) HG2.out).trans hu; have f4' := (hb4.frozen (p := ⟨g2, i, none⟩) HG2.out).trans f2; clear ho4 hv4 hb4))
      all_goals
        have hp : OwN w4 W.heap.size (some ⟨wr.heap.size, 0, none⟩, n4, 2) [1] := OwN.base ⟨by rw [← limbs_one]; exact H4.out, by rw [← limbs_one]; exact limbs_u32 1⟩ HBW.out.size
        have hst := ((HO.out.up HB4.out).put (p := (some ⟨wr.heap.size, 0, none⟩, n4, 2)) hin hin HR.out hp fun q k hq hk _ => ap_after ((HO.out.ns q hq).2.num k hk).own H4.out (Nat.le_refl _)).congr fun p q _ _ => oneF_put i p q
        have hb5 := (HBW.out.trans (HB4.out.mono HBW.out.size)).setCell (p := ⟨g2, i, none⟩) HG2W.out (.slice (some ⟨wr.heap.size, 0, none⟩) n4 2)
        have HST := Lib.hid hst
        have HB5 := Lib.hid hb5
        clear hst hb5 hp H4 HB4
        go_wp2
        go_roundw
        case rel => exact ⟨i + 1, _, by omega, by go_num, HST.out, HB5.out⟩
        case measure => simp [intOf]; omega
    · obtain rfl : i = n := by omega
      go_wp2
      go_ret2
      exact ⟨_, _, rows, its, rfl, HO.out.congr fun p q hp _ => oneF_end hp, HBW.out⟩
end Go.Proofs.YteneiianpghalaaDoor
