/- The contracts of edenlaw16.lent and kept. -/
import Derived.Test.YteneiianpghalaaDoorMatK
namespace Go.Proofs.YteneiianpghalaaDoor
open Go.RowKit
set_option linter.unusedVariables false
set_option maxRecDepth 100000

/-- a lent matrix: its first r lines are there; D: which numbers are -/
structure LentMs (w : World) (base : Nat) (v : Value) (n : Nat) (len : Nat → Nat) (r : Nat) (rows : Nat → It) (its : Nat → Nat → It) (F : Nat → Nat → List Nat) (D : Nat → Nat → Prop) : Prop where
  row : w.ownsRow base 82 1 v n ((List.range n).map fun i => IV (rows i))
  ns : ∀ i, i < r → (rows i).2.1 = len i ∧ w.ownsRow base 27 1 (IV (rows i)) (len i) ((List.range (len i)).map fun j => IV (its i j))
  apR : ∀ i k, i < r → k < r → i ≠ k → Ap (IV (rows i)) (IV (rows k))
  el : ∀ i j, i < r → j < len i → D i j → LentEl w base (its i j) (F i j)
theorem LentMs.up {w w' : World} {base n r : Nat} {v : Value} {len : Nat → Nat} {rows : Nat → It} {its : Nat → Nat → It} {F : Nat → Nat → List Nat} {D : Nat → Nat → Prop} (h : LentMs w base v n len r rows its F D) (hb : Below w.heap.size w w') : LentMs w' base v n len r rows its F D :=
  ⟨owns_up h.row hb, fun i hi => ⟨(h.ns i hi).1, owns_up (h.ns i hi).2 hb⟩, h.apR, fun i j hi hj hd => (h.el i j hi hj hd).up hb⟩
theorem LentMs.dif {w : World} {base n r : Nat} {v : Value} {len : Nat → Nat} {rows : Nat → It} {its : Nat → Nat → It} {F : Nat → Nat → List Nat} {D E : Nat → Nat → Prop} (h : LentMs w base v n len r rows its F D) (hd : ∀ i j, i < r → j < len i → E i j → D i j) : LentMs w base v n len r rows its F E :=
  ⟨h.row, h.ns, h.apR, fun i j hi hj he => h.el i j hi hj (hd i j hi hj he)⟩
theorem LentMs.made {w : World} {base n c : Nat} {a : Option Addr} (h : w.ownsRow base 82 1 (.slice a n c) n ((List.range n).map fun _ => IV (none, 0, 0))) (len : Nat → Nat) (F : Nat → Nat → List Nat) (D : Nat → Nat → Prop) : LentMs w base (.slice a n c) n len 0 (fun _ => (none, 0, 0)) (fun _ _ => (none, 0, 0)) F D :=
  ⟨h, fun i hi => by omega, fun i _ hi => by omega, fun i _ hi => by omega⟩
/-- a new line, its numbers not yet there -/
theorem LentMs.line {w : World} {base n c g r : Nat} {len : Nat → Nat} {rows : Nat → It} {its : Nat → Nat → It} {F : Nat → Nat → List Nat} {p : It} (h : LentMs w base (.slice (some ⟨g, 0, none⟩) n c) n len r rows its F fun _ _ => True) (hr : r < n) (hpn : p.2.1 = len r)
    (hp : w.ownsRow base 27 1 (IV p) (len r) ((List.range (len r)).map fun _ => IV (none, 0, 0))) (hap : ∀ i, i < r → Ap (IV (rows i)) (IV p)) :
    LentMs (w.setCell ⟨g, r, none⟩ (IV p)) base (.slice (some ⟨g, 0, none⟩) n c) n len (r + 1) (upd rows r p) (upd its r fun _ => (none, 0, 0)) F fun i j => i < r := by
  have hne : 82 ≠ 27 := by decide
  have hne2 : 82 ≠ 95 := by decide
  refine ⟨?_, fun i hi => ?_, fun i k hi hk hik => ?_, fun i j hi hj hd => ?_⟩
  · have := own_set h.row r (IV p)
    rwa [range_set (fun j => IV (rows j)) (IV p) (fun i => IV (upd rows r p i)) fun i _ => by unfold upd; split <;> rfl] at this
  · by_cases e : i = r
    · subst e; rw [upd_self, upd_self]
      exact ⟨hpn, own_set_other hp (fun e2 => (ap_type h.row hp hne) g rfl e2) _⟩
    · rw [upd_ne _ _ e, upd_ne _ _ e]
      have := (h.ns i (by omega))
      exact ⟨this.1, own_set_other this.2 (fun e2 => (ap_type h.row this.2 hne) g rfl e2) _⟩
  · by_cases e : i = r
    · subst e
      rw [upd_self, upd_ne _ _ (fun e2 => hik e2.symm)]
      exact (hap k (by omega)).symm
    · rw [upd_ne _ _ e]
      by_cases e2 : k = r
      · subst e2; rw [upd_self]; exact hap i (by omega)
      · rw [upd_ne _ _ e2]; exact h.apR i k (by omega) (by omega) hik
  · have e : i ≠ r := by omega
    rw [upd_ne _ _ e]
    exact (h.el i j (by omega) hj trivial).set h.row hne2 _
/-- a number into a line -/
theorem LentMs.num {w : World} {base n r j g2 c2 : Nat} {v : Value} {len : Nat → Nat} {rows : Nat → It} {its : Nat → Nat → It} {F : Nat → Nat → List Nat} {p : It} (h : LentMs w base v n len (r + 1) rows its F fun i q => i < r ∨ q < j) (hj : j < len r) (hrow : rows r = (some ⟨g2, 0, none⟩, len r, c2)) (hp : LentEl w base p (F r j)) :
    LentMs (w.setCell ⟨g2, j, none⟩ (IV p)) base v n len (r + 1) rows (upd its r (upd (its r) j p)) F fun i q => i < r ∨ q < j + 1 := by
  have hri := (h.ns r (Nat.lt_succ_self r)).2
  rw [hrow] at hri
  have hne : 27 ≠ 82 := by decide
  have hne2 : 27 ≠ 95 := by decide
  refine ⟨own_set_other h.row (fun e2 => (ap_type hri h.row hne) g2 rfl e2) _, fun i hi => ⟨(h.ns i hi).1, ?_⟩, h.apR, fun i q hi hq hd => ?_⟩
  · by_cases e : i = r
    · subst e
      rw [upd_self, hrow]
      have := own_set (g := g2) (c := c2) (n := len i) hri j (IV p)
      rwa [range_set (fun q => IV (its i q)) (IV p) (fun q => IV (upd (its i) j p q)) fun q _ => by unfold upd; split <;> rfl] at this
    · rw [upd_ne _ _ e]
      have := h.apR i r hi (Nat.lt_succ_self r) e
      rw [hrow] at this
      exact own_set_other (h.ns i hi).2 (fun e2 => this g2 e2 rfl) _
  · by_cases e : i = r
    · subst e
      rw [upd_self]
      by_cases e2 : q = j
      · subst e2; rw [upd_self]; exact hp.set (g := g2) (c := c2) (n := len i) hri hne2 _
      · rw [upd_ne _ _ e2]; exact (h.el i q hi hq (.inr (by omega))).set (g := g2) (c := c2) (n := len i) hri hne2 _
    · rw [upd_ne _ _ e]
      exact (h.el i q hi hq (.inl (by omega))).set (g := g2) (c := c2) (n := len r) hri hne2 _
/-- it reads as the matrix that was lent -/
theorem LentMs.msR {w : World} {base n c : Nat} {a : Option Addr} {len : Nat → Nat} {rows : Nat → It} {its : Nat → Nat → It} {F : Nat → Nat → List Nat} (h : LentMs w base (.slice a n c) n len n rows its F fun _ _ => True) : MsR w a n len F := by
  rcases Nat.eq_zero_or_pos n with h0 | h0
  · exact .inl h0
  · obtain ⟨g, rfl, _, hg⟩ := own_form h.row h0
    refine .inr ⟨g, 0, rfl, hg, fun i hi => ⟨IV (rows i), ?_, (rows i).1, (rows i).2.2, ?_, ?_⟩⟩
    · rw [Nat.zero_add, h.row.cellAt i (by omega), range_at _ hi]
    · obtain ⟨h1, h2⟩ := h.ns i hi
      unfold IV; rw [h1]
    · obtain ⟨h1, h2⟩ := h.ns i hi
      obtain ⟨a2, m2, c2, hr⟩ : ∃ a2 m2 c2, rows i = (a2, m2, c2) := ⟨_, _, _, rfl⟩
      rw [hr] at h1 h2 ⊢
      simp only at h1
      subst h1
      obtain ⟨a3, c3, he, h3, h4⟩ := owns_slice h2
      unfold IV at he
      injection he with e1 e2 e3
      subst e1 e3
      refine ⟨h3, h4, fun e => ?_, ?_⟩
      · simp only at e
        subst e
        rcases h2.2 with ⟨h5, _⟩ | ⟨_, _, _, h5, _⟩
        · unfold IV at h5; injection h5
        · unfold IV at h5; injection h5 with e1; cases e1
      · rcases Nat.eq_zero_or_pos (len i) with h6 | h6
        · exact .inl h6
        · obtain ⟨g2, rfl, _, hg2⟩ := own_form (a := a2) (c := c2) (n := len i) h2 h6
          refine .inr ⟨g2, 0, rfl, hg2, fun j hj => ⟨IV (its i j), ?_, _, _, _, rfl, (h.el i j hi hj trivial).ns⟩⟩
          rw [Nat.zero_add, World.ownsRow.cellAt (g := g2) (cap := c2) (n := len i) h2 j (by omega), range_at _ hj]

theorem lentEl_of {w4 : World} {base b' b n : Nat} {l : List Nat} (hn : n = l.length) (hu : U32 l) (hb : b' ≤ base) (ho : w4.ownsRow base 95 1 (.slice (some ⟨b, 0, none⟩) (n + 2) (n + 2)) (n + 2) ((ofN l ++ marksN).map (Value.int .u32))) : LentEl w4 b' (some ⟨b, 0, none⟩, n, n + 2) l := by
  subst hn; exact ⟨hu, b, rfl, owns_base ho hb⟩

set_option maxHeartbeats 8000000 in
theorem lent16_any (am : Option Addr) (n c : Nat) (len : Nat → Nat) (F : Nat → Nat → List Nat) (W : World) (hM : MsR W am n len F) (hn : n ≤ 96) (hlen : ∀ i, i < n → len i ≤ 96 ∧ ∀ j, j < len i → (F i j).length ≤ 1000) :
    Calls Tryd.prog 37 #[.slice am n c] W fun e w' => ∃ a' c' rows its, e = .returned (.slice a' n c') ∧ LentMs w' W.heap.size (.slice a' n c') n len n rows its F (fun _ _ => True) ∧ Below W.heap.size W w' := by
  have HLEN := Lib.hid hlen; clear hlen
  have HM := Lib.hid hM; clear hM
  go_enter Tryd.func37, Tryd.ntmps37
  go_wp2_with (first
    | (at_make; refine mk_full rfl _ _ _ rfl W.heap.size et_natss .i64 .i64 _ _ n rfl rfl rfl rfl (by omega) (by unfold maxLen; omega) (Nat.le_refl _) ?_; intro w1 hown1 hb1 hsz1; rw [made_natss] at hown1))
  have hst := LentMs.made hown1 len F (fun _ _ => True)
  have HST := Lib.hid hst; clear hst hown1
  obtain ⟨g, hg⟩ : ∃ g, W.heap.size = g := ⟨_, rfl⟩
  have HGS := Lib.hid hg
  rw [hg] at HST
  simp only [hg]
  clear hg
  go_loopw [4] (fun ix wr => ∃ (i : Nat) (rows : Nat → It) (its : Nat → Nat → It), i ≤ n ∧ ix = .int .i64 i ∧ LentMs wr g (.slice (some ⟨g, 0, none⟩) n n) n len i rows its F (fun _ _ => True) ∧ Below W.heap.size W wr) (fun ix _ => n - (intOf ix).toNat)
  case atStart => exact ⟨0, _, _, by omega, rfl, HST.out, hb1⟩
  case round =>
    clear HST hb1
    obtain ⟨i, rows, its, hi, rfl, ho, hb⟩ := hrel
    have HO := Lib.hid ho
    have HBW := Lib.hid hb
    clear ho hb
    by_cases hin : i < n
    · have hcell := HO.out.row.cellAt i (by omega)
      rw [range_at _ hin] at hcell
      obtain ⟨u, hu⟩ : ∃ u, wr.cell? ⟨g, i, none⟩ = some u := ⟨_, hcell⟩
      have f0 := HO.out.row.frozenAt i
      have hgl : g < wr.heap.size := own_lt HO.out.row g rfl
      have HGL := Lib.hid hgl
      obtain ⟨bm, om, rfl, hbm, hcm⟩ := HM.out.addr (by omega)
      obtain ⟨a1, c1, x0, hle1, hcm1, _, hrow⟩ := hcm i hin
      have x1 := (HBW.out.cell (p := ⟨bm, om + i, none⟩) hbm).trans x0
      have HROW := Lib.hid hrow
      have HX0 := Lib.hid x0
      obtain ⟨m, hm⟩ : ∃ m, len i = m := ⟨_, rfl⟩
      have hm96 := (HLEN.out i hin).1
      rw [hm] at x1 hm96
      have HMM := Lib.hid hm
      clear hcell hgl hcm x0 hrow hm hle1
      have i0 : (0 : Int) ≤ (i : Int) := by omega
      have i1 : (i : Int) < (n : Int) := by omega
      go_upto_region 6 with (first
        | (at_make; refine mk_full rfl _ _ _ rfl wr.heap.size et_nats .i64 .i64 _ _ m rfl rfl rfl rfl (by omega) (by unfold maxLen; omega) (Nat.le_refl _) ?_; intro w2 hown2 hb2 hsz2; rw [made_nats] at hown2; have H2 := Lib.hid hown2; have HB2 := Lib.hid hb2; have u2 := (hb2.cell (p := ⟨g, i, none⟩) HGL.out).trans hu; have f2 := (hb2.frozen (p := ⟨g, i, none⟩) HGL.out).trans f0; clear hown2 hb2))
      have hown := owns_base (b' := g) H2.out (Nat.le_of_lt HGL.out)
      have hst := ((HO.out.up HB2.out).line (p := (some ⟨wr.heap.size, 0, none⟩, m, m)) hin HMM.out.symm (by rw [HMM.out]; exact hown) fun q hq => ap_after (HO.out.ns q hq).2 H2.out (Nat.le_refl _)).dif (E := fun p q => p < i ∨ q < 0) fun p q _ _ h => by omega
      have hb3 := (HBW.out.trans (HB2.out.mono HBW.out.size)).setCell (p := ⟨g, i, none⟩) (by rw [HGS.out]; exact Nat.le_refl _) (.slice (some ⟨wr.heap.size, 0, none⟩) m m)
      have hg2W : W.heap.size ≤ wr.heap.size := HBW.out.size
      have hg2g : g ≤ wr.heap.size := Nat.le_of_lt HGL.out
      obtain ⟨g2, hg2⟩ : ∃ g2, wr.heap.size = g2 := ⟨_, rfl⟩
      rw [hg2] at hst hb3 hg2W hg2g
      simp only [IV] at hst
      obtain ⟨w3, hw3⟩ : ∃ w3, w2.setCell ⟨g, i, none⟩ (.slice (some ⟨g2, 0, none⟩) m m) = w3 := ⟨_, rfl⟩
      rw [hw3] at hst hb3
      simp only [hg2, hw3]
      obtain ⟨rows2, hrows2⟩ : ∃ rows2, upd rows i (some ⟨g2, 0, none⟩, m, m) = rows2 := ⟨_, rfl⟩
      have hr2 : rows2 i = (some ⟨g2, 0, none⟩, m, m) := by rw [← hrows2, upd_self]
      rw [hrows2] at hst
      have HST := Lib.hid hst
      have HB3 := Lib.hid hb3
      have HR2 := Lib.hid hr2
      clear hst hb3 hown hw3 hg2 hrows2 hr2 H2 HB2 u2 f2 HO f0 hu HBW x1 HGL
      go_wp2_with fail
      go_loopw [5] (fun jx wr => ∃ (j : Nat) (its : Nat → Nat → It), j ≤ m ∧ jx = .int .i64 j ∧ LentMs wr g (.slice (some ⟨g, 0, none⟩) n n) n len (i + 1) rows2 its F (fun p q => p < i ∨ q < j) ∧ Below W.heap.size W wr) (fun jx _ => m - (intOf jx).toNat)
      case atStart => exact ⟨0, _, by omega, rfl, HST.out, HB3.out⟩
      case round =>
        clear HST HB3
        obtain ⟨j, its, hj, rfl, ho, hb⟩ := hrel
        have HO := Lib.hid ho
        have HBW := Lib.hid hb
        have x1 := (hb.cell (p := ⟨bm, om + i, none⟩) hbm).trans HX0.out
        rw [HMM.out] at x1
        clear ho hb
        by_cases hjm : j < m
        · obtain ⟨b3, o3, rfl, hb3, hc3⟩ := HROW.out.addr (by rw [HMM.out]; omega)
          obtain ⟨a3, n3, c3, y0, hy⟩ := hc3 j (by rw [HMM.out]; exact hjm)
          have y1 := (HBW.out.cell (p := ⟨b3, o3 + j, none⟩) hb3).trans y0
          have n3L := hy.small ((HLEN.out i hin).2 j (by rw [HMM.out]; exact hjm))
          have HY := Lib.hid (hy.up HBW.out)
          have hgc := HO.out.row.cellAt i (by omega)
          rw [range_at _ hin, HR2.out] at hgc
          obtain ⟨hrn, hri⟩ := HO.out.ns i (Nat.lt_succ_self i)
          rw [HR2.out, HMM.out] at hri
          have hrc := World.ownsRow.cellAt (g := g2) (cap := m) (n := m) hri j (by omega)
          rw [range_at _ hjm] at hrc
          obtain ⟨u3, hu3⟩ : ∃ u3, wr.cell? ⟨g2, j, none⟩ = some u3 := ⟨_, hrc⟩
          have f3 := World.ownsRow.frozenAt (g := g2) (cap := m) (n := m) hri j
          have hg2l : g2 < wr.heap.size := own_lt hri g2 rfl
          have hgl : g < wr.heap.size := own_lt HO.out.row g rfl
          have HGL := Lib.hid hgl
          have HG2 := Lib.hid hg2l
          simp only [IV] at hgc
          clear hc3 y0 hy hri hrc hrn hgl hg2l
          have j0 : (0 : Int) ≤ (j : Int) := by omega
          have j1 : (j : Int) < (m : Int) := by omega
          go_wp2_with fail
          go_region_with (first
            | (go_at_call 53; refine (lentN_any a3 n3 c3 _ _ (HY.out.up (bnil _).drew).nr.1 (by omega)).mono ?_; rintro e w4 ⟨rfl, ho4, hb4⟩; have H4 := Lib.hid ho4; have HB4 := Lib.hid ((bnil wr).drew.trans hb4); have c4' := (hb4.cell (p := ⟨g, i, none⟩) HGL.out).trans hgc; have u4' := (hb4.cell (p := ⟨g2, j, none⟩) HG2.out).trans hu3; have f4' := (hb4.frozen (p := ⟨g2, j, none⟩) HG2.out).trans f3; have x4' := (hb4.cell (p := ⟨bm, om + i, none⟩) (Nat.lt_of_lt_of_le hbm HBW.out.size)).trans x1; clear ho4 hb4))
          all_goals
            have hel := lentEl_of (b' := g) HY.out.nr.len HY.out.nr.2 (Nat.le_of_lt HGL.out) H4.out
            have hst := (HO.out.up HB4.out).num (p := (some ⟨wr.heap.size, 0, none⟩, n3, n3 + 2)) (by rw [HMM.out]; exact hjm) (by rw [HMM.out]; exact HR2.out) hel
            have hb5 := (HBW.out.trans (HB4.out.mono HBW.out.size)).setCell (p := ⟨g2, j, none⟩) hg2W (.slice (some ⟨wr.heap.size, 0, none⟩) n3 (n3 + 2))
            have HST := Lib.hid hst
            have HB5 := Lib.hid hb5
            clear hst hb5 hel H4 HB4
            go_wp2
            go_roundw
            case rel => exact ⟨j + 1, _, by omega, by go_num, HST.out, HB5.out⟩
            case measure => simp [intOf]; omega
        · obtain rfl : m = j := by omega
          have hfin := HO.out.dif (E := fun _ _ => True) fun p q hp hq _ => by
            by_cases e : p = i
            · subst e; rw [HMM.out] at hq; exact .inr hq
            · exact .inl (by omega)
          have HF := Lib.hid hfin
          clear hfin HO
          go_wp2
          go_roundw
          case rel => exact ⟨i + 1, _, _, by omega, by go_num, HF.out, HBW.out⟩
          case measure => simp [intOf]; omega
    · obtain rfl : i = n := by omega
      go_wp2
      go_ret
      exact ⟨_, _, rows, its, rfl, by rw [HGS.out]; exact HO.out, HBW.out⟩
end Go.Proofs.YteneiianpghalaaDoor
