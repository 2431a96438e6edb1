/- The contracts of edenref16.unit and One. -/
import Derived.Test.YteneiianpghalaaDoorMatF
import Derived.Test.YteneiianpghalaaDoorErrB
import Derived.Deep.Cut
namespace Go.Proofs.YteneiianpghalaaDoor
open Go.RowKit
set_option linter.unusedVariables false
set_option maxRecDepth 100000

theorem own_heap {w w' : World} {base sz n : Nat} {e : TypeId} {v : Value} {cs : List Value} (h : w.ownsRow base e sz v n cs) (hh : ∀ b, base ≤ b → w'.heap[b]? = w.heap[b]?) : w'.ownsRow base e sz v n cs := by
  refine ⟨h.1, ?_⟩
  rcases h.2 with h1 | ⟨g, cap, cur, rfl, h2, h3, rest⟩
  · exact .inl h1
  · exact .inr ⟨g, cap, cur, rfl, h2, by rw [hh g h2]; exact h3, rest⟩
theorem OwN.heap {w w' : World} {base : Nat} {p : It} {l : List Nat} (h : OwN w base p l) (hh : ∀ b, base ≤ b → w'.heap[b]? = w.heap[b]?) : OwN w' base p l := ⟨own_heap h.own hh, h.u32⟩
theorem OwNs.heap {w w' : World} {base n : Nat} {v : Value} {its : Nat → It} {F : Nat → List Nat} (h : OwNs w base v n its F) (hh : ∀ b, base ≤ b → w'.heap[b]? = w.heap[b]?) : OwNs w' base v n its F := ⟨own_heap h.row hh, fun j hj => (h.num j hj).heap hh, h.ap⟩
theorem OwMs.heap {w w' : World} {base n r : Nat} {v : Value} {rows : Nat → It} {its : Nat → Nat → It} {F : Nat → Nat → List Nat} (h : OwMs w base v n r rows its F) (hh : ∀ b, base ≤ b → w'.heap[b]? = w.heap[b]?) : OwMs w' base v n r rows its F := ⟨own_heap h.row hh, fun i hi => ⟨(h.ns i hi).1, (h.ns i hi).2.heap hh⟩, h.apR, h.ap⟩

/-- the first r lines of the unit -/
theorem unit_put (r : Nat) (p q : Nat) : upd (upd (oneF r) r (fun _ => [])) r (upd (upd (oneF r) r (fun _ => []) r) r [1]) p q = oneF (r + 1) p q := by
  by_cases e : p = r
  · subst e
    rw [upd_self]
    by_cases e2 : q = p
    · subst e2; rw [upd_self]; simp [oneF]
    · rw [upd_ne _ _ e2, upd_self]
      have e3 : ¬ p = q := fun h => e2 h.symm
      simp [oneF, e3]
  · rw [upd_ne _ _ e, upd_ne _ _ e]
    unfold oneF
    by_cases e2 : p = q
    · by_cases e3 : p < r
      · rw [if_pos ⟨e3, e2⟩, if_pos ⟨by omega, e2⟩]
      · rw [if_neg fun e4 => e3 e4.1, if_neg fun e4 => by omega]
    · rw [if_neg fun e4 => e2 e4.2, if_neg fun e4 => e2 e4.2]

set_option maxHeartbeats 4000000 in
theorem unit_any (n : Nat) (W : World) (hn : n ≤ 96) :
    Calls Tryd.prog 144 #[.int .i64 n] W fun e w' => ∃ a' c' rows its, e = .returned (.slice a' n c') ∧ OwMs w' W.heap.size (.slice a' n c') n n rows its (fun i j => limbs (oneM i j)) ∧ Below W.heap.size W w' := by
  go_enter Tryd.func144, Tryd.ntmps144
  go_wp2_with (first
    | (at_make; refine mk_full rfl _ _ _ rfl W.heap.size et_natss .i64 .i64 _ _ n rfl rfl rfl rfl (by omega) (by unfold maxLen; omega) (Nat.le_refl _) ?_; intro w1 hown1 hb1 hsz1; rw [made_natss] at hown1))
  have hst := OwMs.made hown1 (oneF 0)
  have HST := Lib.hid hst; clear hst hown1
  obtain ⟨g, hg⟩ : ∃ g, W.heap.size = g := ⟨_, rfl⟩
  have HGS := Lib.hid hg
  rw [hg] at HST
  simp only [hg]
  clear hg
  go_loopw [4] (fun ix wr => ∃ (i : Nat) (rows : Nat → It) (its : Nat → Nat → It), i ≤ n ∧ ix = .int .i64 i ∧ OwMs wr g (.slice (some ⟨g, 0, none⟩) n n) n i rows its (oneF i) ∧ Below W.heap.size W wr) (fun ix _ => n - (intOf ix).toNat)
  case atStart => exact ⟨0, _, _, by omega, rfl, HST.out, hb1⟩
  case round =>
    clear HST hb1
    obtain ⟨i, rows, its, hi, rfl, ho, hb⟩ := hrel
    have HO := Lib.hid ho
    have HBW := Lib.hid hb
    clear ho hb
    by_cases hin : i < n
    · have hcell := HO.out.row.cellAt i (by omega)
      rw [range_at _ hin] at hcell
      obtain ⟨u, hu⟩ : ∃ u, wr.cell? ⟨g, i, none⟩ = some u := ⟨_, hcell⟩
      have f0 := HO.out.row.frozenAt i
      have hgl : g < wr.heap.size := own_lt HO.out.row g rfl
      have HGL := Lib.hid hgl
      clear hcell hgl
      have i0 : (0 : Int) ≤ (i : Int) := by omega
      have i1 : (i : Int) < (n : Int) := by omega
      go_upto_region 6 with (first
        | (at_make; refine mk_full rfl _ _ _ rfl wr.heap.size et_nats .i64 .i64 _ _ n rfl rfl rfl rfl (by omega) (by unfold maxLen; omega) (Nat.le_refl _) ?_; intro w2 hown2 hb2 hsz2; rw [made_nats] at hown2; have H2 := Lib.hid (OwNs.made hown2); have HB2 := Lib.hid hb2; have u2 := (hb2.cell (p := ⟨g, i, none⟩) HGL.out).trans hu; have f2 := (hb2.frozen (p := ⟨g, i, none⟩) HGL.out).trans f0; clear hown2 hb2))
      have hlat := HO.out.later (p := (some ⟨wr.heap.size, 0, none⟩, n, n)) H2.out (Nat.le_refl _)
      have hst := (HO.out.up HB2.out).store (p := (some ⟨wr.heap.size, 0, none⟩, n, n)) hin rfl (OwNs.base (b' := g) H2.out (Nat.le_of_lt HGL.out)) hlat.1 hlat.2
      have hb3 := (HBW.out.trans (HB2.out.mono HBW.out.size)).setCell (p := ⟨g, i, none⟩) (by rw [HGS.out]; exact Nat.le_refl _) (.slice (some ⟨wr.heap.size, 0, none⟩) n n)
      have HB3 := Lib.hid hb3
      have hg2W : W.heap.size ≤ wr.heap.size := HBW.out.size
      obtain ⟨g2, hg2⟩ : ∃ g2, wr.heap.size = g2 := ⟨_, rfl⟩
      rw [hg2] at hst hg2W
      rw [hg2] at HB3
      simp only [IV] at hst
      obtain ⟨w3, hw3⟩ : ∃ w3, w2.setCell ⟨g, i, none⟩ (.slice (some ⟨g2, 0, none⟩) n n) = w3 := ⟨_, rfl⟩
      rw [hw3] at hst HB3
      simp only [hg2, hw3]
      have HST := Lib.hid hst
      have hgc := hst.row.cellAt i (by omega)
      rw [range_at _ hin, upd_self] at hgc
      have hri := (hst.ns i (Nat.lt_succ_self i)).2
      rw [upd_self] at hri
      have hrc := World.ownsRow.cellAt (g := g2) (cap := n) (n := n) hri.row i (by omega)
      rw [range_at _ hin] at hrc
      obtain ⟨u3, hu3⟩ : ∃ u3, w3.cell? ⟨g2, i, none⟩ = some u3 := ⟨_, hrc⟩
      have f3 := World.ownsRow.frozenAt (g := g2) (cap := n) (n := n) hri.row i
      have hg2l : g2 < w3.heap.size := own_lt hri.row g2 rfl
      have HGL2 := Lib.hid hg2l
      simp only [IV] at hgc
      have hA1 := ((balloc (bnil w3) (.cells #[.int .u32 1] 95)).cell (p := ⟨g2, i, none⟩) hg2l).trans hu3
      have hA2 := ((balloc (bnil w3) (.cells #[.int .u32 1] 95)).frozen (p := ⟨g2, i, none⟩) hg2l).trans f3
      clear hst hb3 hlat H2 HB2 hrc hri hw3 u2 f2 hg2 hg2l
      go_wp2
      have hp : OwN (w3.alloc (.cells #[.int .u32 1] 95)) g (some ⟨w3.heap.size, 0, none⟩, 1, 1) [1] :=
        OwN.base ⟨own_lit (n := 1) rfl (Nat.le_refl _) (by decide) rfl, limbs_u32 1⟩ (by have := HGL.out; have := HGL2.out; have := HB3.out.size; have := HGS.out; omega)
      have hput := ((HST.out.up (balloc (bnil w3) _)).put (i := i) (j := i) (p := (some ⟨w3.heap.size, 0, none⟩, 1, 1)) (Nat.lt_succ_self i) hin (by rw [upd_self]) hp fun q k hq hk _ => ap_after ((HST.out.ns q hq).2.num k hk).own (own_lit (base := w3.heap.size) (n := 1) rfl (Nat.le_refl _) (by decide) rfl : (w3.alloc (.cells #[.int .u32 1] 95)).ownsRow w3.heap.size 95 1 (.slice (some ⟨w3.heap.size, 0, none⟩) 1 1) 1 _) (Nat.le_refl _)).congr fun p q _ _ => unit_put i p q
      have hb5 := (HB3.out.alloc HB3.out.size (.cells #[.int .u32 1] 95)).setCell (p := ⟨g2, i, none⟩) hg2W (.slice (some ⟨w3.heap.size, 0, none⟩) 1 1)
      have HPUT := Lib.hid hput
      have HB5 := Lib.hid hb5
      clear hput hb5 hp HST HB3
      go_roundw
      case rel => exact ⟨i + 1, _, _, by omega, by go_num, HPUT.out, HB5.out⟩
      case measure => simp [intOf]; omega
    · obtain rfl : i = n := by omega
      go_wp2
      go_ret
      exact ⟨_, _, rows, its, rfl, by rw [HGS.out]; exact HO.out.congr fun p q hp _ => oneF_end hp, HBW.out⟩

def RefErrPost (op : ByteArray) (at_ k : Int) (W : World) (e : Ending) (w' : World) : Prop := ∃ b1 b2, e = .returned (.tuple #[.slice none 0 0, .agg #[.int .i64 k, .slice (some ⟨b1, 0, none⟩) 1 1, .slice (some ⟨b2, 0, none⟩) 1 1]]) ∧ WantIs w' (.agg #[.int .i64 k, .slice (some ⟨b1, 0, none⟩) 1 1, .slice (some ⟨b2, 0, none⟩) 1 1]) (some (op, at_, k)) ∧ Below W.heap.size W w'
end Go.Proofs.YteneiianpghalaaDoor
