/- edenlaw24.JudgeTells returns true. -/
import Derived.Test.YtocfkmdoalhjmaaDoorJdgH
import Derived.Test.YtocfkmdoalhjmaaDoorRjJ
import Derived.Test.YtocfkmdoalhjmaaDoorLentQ
import Derived.Deep.RegionHeld3
import Derived.Deep.Cut
import Derived.Deep.QuietTactic
import Derived.BigQuiet
namespace Go.Proofs.YtocfkmdoalhjmaaDoor
open Go.RowKit
set_option linter.unusedVariables false
set_option maxRecDepth 100000

theorem map_app2 (bs : List Int) (x y : Int) : bs.map (Value.int .u8) ++ (#[Value.int .u8 x, Value.int .u8 y] : Array Value).toList = (bs ++ [x, y]).map (Value.int .u8) := by simp
set_option maxHeartbeats 16000000 in
theorem judge_tells (w h : Int) (a aT aB : Option Addr) (n c nT cT cB : Nat) (l t bs : List Int) (W : World) (R : Nat → Addr) (hE : Env W R) (hR : SlI W a n c l) (hx : I64 l) (hT : RK .i64 W aT nT t) (h8T : nT * 8 ≤ 140737488351232) (hBs : RK .u8 W aB bs.length bs) (hBr : ∀ x ∈ bs, 0 ≤ x ∧ x ≤ 255) (hBl : bs.length ≤ 140737488351232) (hBn : aB = none → cB = 0) :
    Calls Tryd.prog 9 #[.slice aT nT cT, patV w h a n c, .slice aB bs.length cB] W (TrueBelow W) := by
  have hnm := hR.nm
  have h8 := hR.n8
  have hmT : nT ≤ maxLen := by unfold maxLen; omega
  have hmT2 : nT + 2 ≤ maxLen := by unfold maxLen; omega
  have hm2 : n + 2 ≤ maxLen := by unfold maxLen; omega
  have hBm : bs.length ≤ maxLen := by unfold maxLen; omega
  have HI6 := Lib.hid hx
  have HBR := Lib.hid hBr
  obtain ⟨jn, je, hj⟩ : ∃ jn je, judgeF t w h l bs = (jn, je) := ⟨_, _, rfl⟩
  have c_j := fun W a c nT aT cT aB nB cB S (hS : Sent W S) (hR : RK .i64 W a n l) (hT : RK .i64 W aT nT t) hm (hBs : RK .u8 W aB bs.length bs) (hB : nB = bs.length) => judge_any w h a aT aB n c nT cT cB l t bs W S hS hR hnm hx hT hm hBs hBr hBm
  have c_r := fun W a c nT aT cT aB cB (hR : RK .i64 W a n l) (hT : RK .i64 W aT nT t) hm (hBs : RK .u8 W aB bs.length bs) => refjudge_any w h a aT aB n c nT cT cB l t bs W hR hnm hT hm hBs hBr hBm
  simp only [hj] at c_j c_r
  have HC := Lib.hid (And.intro c_j c_r)
  clear c_j c_r hj
  have T0 := Tk.nil W
  have T1 := T0.add (fun wv => Below W.heap.size W wv) (bnil W)
  clear T0
  have T2 := T1.add (fun wv => Env wv R) (hE)
  clear T1
  have T3 := T2.add (fun wv => SlI wv a n c l) (hR)
  clear T2
  have T4 := T3.add (fun wv => RK .i64 wv aT nT t) (hT)
  clear T3
  have T5 := T4.add (fun wv => RK .u8 wv aB bs.length bs) (hBs)
  clear T4
  clear hE hR hx hT hBs hBr
  obtain ⟨Wb, hWb⟩ : ∃ Wb, W.alloc (.cells #[.int .i64 w, .int .i64 h, .slice a n c] 24) = Wb := ⟨_, rfl⟩
  have hbWb : Below W.heap.size W Wb := by rw [← hWb]; exact balloc (bnil W) _
  have T6 := T5.up hbWb
  clear T5
  have T7 := T6.add (fun wv => wv.cell? ⟨W.heap.size, 0, none⟩ = some (.int .i64 w) ∧ wv.cell? ⟨W.heap.size, 1, none⟩ = some (.int .i64 h) ∧ wv.cell? ⟨W.heap.size, 2, none⟩ = some (.slice a n c)) (by rw [← hWb]; exact ⟨cnw (by simp) rfl, cnw (by simp) rfl, cnw (by simp) rfl⟩)
  clear T6
  have HWb := Lib.hid hWb
  clear hWb hbWb
  go_enter Tryd.func9, Tryd.ntmps9
  go_wp2_with fail
  rw [HWb.out]
  refine (awake24_any Wb R T7.out.1.1.1.1.2).mono ?_; rintro e w0 ⟨rfl, hbw0⟩
  have T8 := T7.up hbw0
  clear T7
  have v_p0 : w0.cell? ⟨W.heap.size, 0, none⟩ = some (.int .i64 w) := T8.out.2.1
  have v_p1 : w0.cell? ⟨W.heap.size, 1, none⟩ = some (.int .i64 h) := T8.out.2.2.1
  have v_p2 : w0.cell? ⟨W.heap.size, 2, none⟩ = some (.slice a n c) := T8.out.2.2.2
  go_wp2_with fail
  refine (heavy24_any w h a aB n c bs.length cB hnm w0).mono ?_; rintro e w1 ⟨rfl, hbw1⟩
  clear v_p0 v_p1 v_p2
  have T9 := T8.up hbw1
  clear T8
  by_cases hv : 40000 < bs.length ∨ 5000 < n
  · skip
    have hd := decide_eq_true hv
    rw [hd]
    clear hd hv
    go_wp2
    go_ret
    exact ⟨rfl, T9.out.1.1.1.1.1.2⟩
  have hd := decide_eq_false hv
  rw [hd]
  have hb4 : bs.length ≤ 40000 := by omega
  clear hd hv
  go_wp2_with fail
  refine (lent_ex aT nT cT t w1 T9.out.1.1.2 h8T).mono ?_; rintro e w2 ⟨gt, ct, rfl, rfl, hot, hbw2⟩
  have T10 := T9.up hbw2
  clear T9
  have T11 := T10.add (fun wv => LentM wv gt nT t) (hot.rk)
  clear T10
  clear hot
  have HS0 : Hid (w2.drew.cell? ⟨W.heap.size, 0, none⟩ = some (.int .i64 w) ∧ w2.drew.cell? ⟨W.heap.size, 1, none⟩ = some (.int .i64 h) ∧ w2.drew.cell? ⟨W.heap.size, 2, none⟩ = some (.slice a n c)) := ⟨T11.out.1.2.1, T11.out.1.2.2.1, T11.out.1.2.2.2⟩
  have HS1 : Hid ((w2.alloc (.cells #[.int .i64 0, .int .i64 0, .slice none 0 0] 24)).drew.cell? ⟨W.heap.size, 0, none⟩ = some (.int .i64 w) ∧ (w2.alloc (.cells #[.int .i64 0, .int .i64 0, .slice none 0 0] 24)).drew.cell? ⟨W.heap.size, 1, none⟩ = some (.int .i64 h) ∧ (w2.alloc (.cells #[.int .i64 0, .int .i64 0, .slice none 0 0] 24)).drew.cell? ⟨W.heap.size, 2, none⟩ = some (.slice a n c)) := ⟨al000 (T11.out.1.2.1), al000 (T11.out.1.2.2.1), al000 (T11.out.1.2.2.2)⟩
  have HT0 : Hid (RK .i64 w2.drew a n l) := (T11.out.1.1.1.1.2).rk.up (Below.drew (bnil w2))
  have HZA : Hid ((w2.alloc (.cells #[.int .i64 0, .int .i64 0, .slice none 0 0] 24)).drew.heap[w2.heap.size]? = some (.cells #[.int .i64 0, .int .i64 0, .slice none 0 0] 24)) := heap_alloc_new w2 (.cells #[.int .i64 0, .int .i64 0, .slice none 0 0] 24)
  have HLA : Hid (w2.heap.size < (w2.alloc (.cells #[.int .i64 0, .int .i64 0, .slice none 0 0] 24)).drew.heap.size) := heap_ltT HZA.out
  have HT1 : Hid (RK .i64 (w2.alloc (.cells #[.int .i64 0, .int .i64 0, .slice none 0 0] 24)).drew a n l) := (T11.out.1.1.1.1.2).rk.up (Below.drew (balloc (bnil w2) _))
  have hg1 : W.heap.size ≠ w2.heap.size := by have h1 := World.block_lt_of_cell? _ _ (T11.out.1.2.1); exact Nat.ne_of_lt h1
  go_upto_region 4 with (fail)
  go_cut [8] from 29 (fun s6 wx => ∃ g5 gm : Nat, s6 = .pointer (some ⟨g5, 0, none⟩) ∧ Qx w2 wx g5 gm w h n l)
  case first =>
    go_region_held3 (fun w' => w'.cell? ⟨W.heap.size, 0, none⟩ = some (.int .i64 w) ∧ w'.cell? ⟨W.heap.size, 1, none⟩ = some (.int .i64 h) ∧ w'.cell? ⟨W.heap.size, 2, none⟩ = some (.slice a n c))
      (first | with_reducible exact HS5.out | with_reducible exact HS0.out | with_reducible exact HS1.out | with_reducible exact ⟨al000 HS5.out.1, al000 HS5.out.2.1, al000 HS5.out.2.2⟩ | with_reducible exact ⟨set3_cellP (HS5.out).1 hg1, set3_cellP (HS5.out).2.1 hg1, set3_cellP (HS5.out).2.2 hg1⟩ | go_keep)
      (first
        | (go_at_call 26; (with_reducible refine (lent_ex a n c l _ ?_ h8).mono ?_); (first | with_reducible exact HT0.out | with_reducible exact HT1.out); rintro e w5 ⟨gm, c5, rfl, hc5, ho5, hb5⟩; have HC5 := Lib.hid hc5; have HO5 := Lib.hid ho5; have HD5 := Lib.hid hb5; (first | ((with_reducible have HS5 := Lib.hid (And.intro (cpa hb5 (HS0.out).1) (And.intro (cpa hb5 (HS0.out).2.1) (cpa hb5 (HS0.out).2.2)))); have hz5 := heap_alloc_new w5 (.cells #[.int .i64 0, .int .i64 0, .slice none 0 0] 24); have HZ5 := Lib.hid hz5; obtain ⟨⟨c0, c1', c2'⟩, f0, f1, f2⟩ := p_cells hz5; clear hz5) | ((with_reducible have HS5 := Lib.hid (And.intro (cpa hb5 (HS1.out).1) (And.intro (cpa hb5 (HS1.out).2.1) (cpa hb5 (HS1.out).2.2)))); have hz5 := (HD5.out.block _ HLA.out).trans HZA.out; have HZ5 := Lib.hid hz5; obtain ⟨⟨c0, c1', c2'⟩, f0, f1, f2⟩ := p_cells hz5; clear hz5)); clear ho5 hb5 hc5))
    all_goals
      have hc5 := HC5.out
      subst hc5
      obtain ⟨wg, g5, hwg, hg5, hbx⟩ : ∃ wg g5, _ = wg ∧ _ = g5 ∧ Qx w2 wg g5 gm w h n l := by
        first
          | exact ⟨_, _, rfl, rfl, qx_new HO5.out HD5.out _ _⟩
          | exact ⟨_, _, rfl, rfl, qx_old HO5.out HD5.out HZ5.out _ _⟩
      rw [hwg, hg5]
      go_wp2_with fail
      go_meet
      exact ⟨g5, gm, rfl, hbx⟩
  case rest =>
    obtain ⟨g5, gm, rfl, hqx⟩ := hcut
    clear HS0 HS1 HT0 HZA HLA HT1 hg1
    have hbq := hqx.bl
    have hqz := hqx.hz
    have hql := hqx.lm
    clear hqx
    generalize wc = w3 at *
    have T12 := T11.up hbq
    clear T11
    have T13 := T12.add (fun wv => wv.cell? ⟨g5, 0, none⟩ = some (.int .i64 w) ∧ wv.cell? ⟨g5, 1, none⟩ = some (.int .i64 h) ∧ wv.cell? ⟨g5, 2, none⟩ = some (.slice (some ⟨gm, 0, none⟩) n (n + 2))) ((p_cells hqz).1)
    clear T12
    have T14 := T13.add (fun wv => LentM wv gm n l) (hql)
    clear T13
    clear hqz hql hbq
    go_wp2_with (first
      | (at_builtin; refine apx rfl _ _ _ rfl w3.heap.size et_u8 _ 0 [] (own_empty _ _ rfl (Nat.le_refl _)) rfl _ bs.length _ _ rfl hBn ((T14.out.1.1.1.1.2).2.al _) (ints_oneCell _ _) (by unfold maxLen; omega) (by omega) (by simp) ?_; intro a6 c6 w6 h6; have o6 := h6.own; simp only [Nat.zero_add, List.nil_append] at o6)
      | (at_builtin; refine apl rfl _ _ _ rfl w3.heap.size et_u8 _ _ _ o6 rfl 2 _ _ rfl rfl rfl rfl (by unfold maxLen; omega) (by omega) (Nat.le_trans (by simp) h6.grew) ?_; intro a7 c7 w7 h7;
         obtain ⟨g7, rfl, g71, g72⟩ := own_form h7.own (by omega);
         obtain ⟨_, hcap, hcm⟩ : ∃ x : Unit, bs.length + 2 ≤ c7 ∧ c7 ≤ maxLen := (by obtain ⟨_, _, e, h1, h2⟩ := owns_slice h7.own; cases e; exact ⟨(), h1, h2⟩);
         have hcm' : c7 ≤ 9223372036854775807 := hcm))
    have hm7 : Rd w7 (some ⟨g7, 0, none⟩) (bs.length + 2) 1 ((bs ++ [71, 72]).map (Value.int .u8)) := by
      have := (owns_rd h7.own).2
      rwa [map_app2] at this
    have hm7b : Rd w7 (some ⟨g7, 0, none⟩) bs.length 1 (bs.map (Value.int .u8)) := by
      have := hm7.take (k := bs.length) (by omega)
      rwa [List.map_append, Nat.mul_one, List.take_left' (by simp)] at this
    have hb7 : Below w3.heap.size w3 w7 := ((balloc (bnil w3) _).trans h6.below).trans h7.below
    have hk7 : w7.cell? ⟨g7, bs.length, none⟩ = some (.int .u8 71) ∧ w7.cell? ⟨g7, bs.length + 1, none⟩ = some (.int .u8 72) := by
      obtain ⟨b, o, e, _, hc⟩ := hm7.2.resolve_left (by omega)
      cases e
      have e0 := hc bs.length (.int .u8 71) (by simp)
      have e1 := hc (bs.length + 1) (.int .u8 72) (by simp)
      rw [Nat.zero_add] at e0 e1
      exact ⟨e0, e1⟩
    have T15 := T14.up hb7
    clear T14
    have T16 := T15.add (fun wv => wv.cell? ⟨g7, bs.length, none⟩ = some (.int .u8 71) ∧ wv.cell? ⟨g7, bs.length + 1, none⟩ = some (.int .u8 72)) (hk7)
    clear T15
    have T17 := T16.add (fun wv => RK .u8 wv (some ⟨g7, 0, none⟩) bs.length bs) (⟨rfl, hm7b⟩)
    clear T16
    clear h6 o6 h7 hm7 hm7b hb7 hk7 hcm g71 g72
    have hbd : Below w7.heap.size w7 w7.drew := Below.drew (bnil w7)
    have TD := T17.up hbd
    have HS0 : Hid (w7.drew.cell? ⟨g5, 0, none⟩ = some (.int .i64 w) ∧ w7.drew.cell? ⟨g5, 1, none⟩ = some (.int .i64 h) ∧ w7.drew.cell? ⟨g5, 2, none⟩ = some (.slice (some ⟨gm, 0, none⟩) n (n + 2))) := ⟨TD.out.1.1.1.2.1, TD.out.1.1.1.2.2.1, TD.out.1.1.1.2.2.2⟩
    have HJC : Hid (∀ aS nS, aS = some ⟨g7, 0, none⟩ → nS = bs.length → Calls Tryd.prog 40 #[.slice (some ⟨gt, 0, none⟩) nT (nT + 2), patV w h (some ⟨gm, 0, none⟩) n (n + 2), .slice aS nS c7] w7.drew (JRet R w7.drew (jn, je))) := fun aS nS e1 e2 => by
      subst e1; subst e2
      exact HC.out.1 _ _ _ _ _ _ _ _ _ R (TD.out.1.1.1.1.1.1.1.1.1.2).sent ((TD.out.1.1.2).sl h8).rk ((TD.out.1.1.1.1.2).sl h8T).rk hmT (TD.out.2) rfl
    have i0 : (0 : Int) ≤ (bs.length : Int) := by omega
    have i1 : (bs.length : Int) ≤ (c7 : Int) := by omega
    clear hbd TD
    go_wp2_with fail
    go_region_held3 (fun w' => w'.cell? ⟨g5, 0, none⟩ = some (.int .i64 w) ∧ w'.cell? ⟨g5, 1, none⟩ = some (.int .i64 h) ∧ w'.cell? ⟨g5, 2, none⟩ = some (.slice (some ⟨gm, 0, none⟩) n (n + 2)))
      (first | with_reducible exact HS5.out | with_reducible exact HS0.out | go_keep)
      (first
        | (go_at_call 40; (with_reducible refine (HJC.out _ _ ?_ ?_).mono ?_); (first | rfl | exact if_neg (by omega) | exact if_pos (by omega)); (first | rfl | omega); rintro e w8 ⟨ev8, rfl, he8, hb8⟩; have HE8 := Lib.hid he8; have HB8 := Lib.hid hb8; have HS5 := Lib.hid (And.intro (cpa hb8 (HS0.out).1) (And.intro (cpa hb8 (HS0.out).2.1) (cpa hb8 (HS0.out).2.2))); clear he8 hb8))
    all_goals
      have hb8 : Below w7.heap.size w7 w8 := (Below.drew (bnil w7)).trans HB8.out
      have T18 := T17.up hb8
      clear T17
      have T19 := T18.add (fun wv => EC R wv ev8 je) (HE8.out)
      clear T18
      clear hb8 HS0 HS5 HJC HB8 HE8
      have v_p0 : w8.cell? ⟨W.heap.size, 0, none⟩ = some (.int .i64 w) := T19.out.1.1.1.1.1.1.2.1
      have v_p1 : w8.cell? ⟨W.heap.size, 1, none⟩ = some (.int .i64 h) := T19.out.1.1.1.1.1.1.2.2.1
      have v_p2 : w8.cell? ⟨W.heap.size, 2, none⟩ = some (.slice a n c) := T19.out.1.1.1.1.1.1.2.2.2
      go_wp2_with fail
      refine (HC.out.2 w8 a c nT aT cT aB cB (T19.out.1.1.1.1.1.1.1.1.1.2).rk T19.out.1.1.1.1.1.1.1.1.2 hmT T19.out.1.1.1.1.1.1.1.2).mono ?_; rintro e w9 ⟨N6, a61, n61, c61, a62, n62, c62, rfl, hw6, hn6, hbw9⟩
      clear v_p0 v_p1 v_p2
      have T20 := T19.up hbw9
      clear T19
      have T21 := T20.add (fun wv => WC wv (.agg #[.int .i64 N6, .slice a61 n61 c61, .slice a62 n62 c62]) je) (hw6)
      clear T20
      clear hw6 hn6
      obtain ⟨wa, hwa⟩ : ∃ wa, w9.alloc (.cells #[.int .i64 N6, .slice a61 n61 c61, .slice a62 n62 c62] 48) = wa := ⟨_, rfl⟩
      have hbwa : Below w9.heap.size w9 wa := by rw [← hwa]; exact balloc (bnil w9) _
      have T22 := T21.up hbwa
      clear T21
      have T23 := T22.add (fun wv => wv.cell? ⟨w9.heap.size, 0, none⟩ = some (.int .i64 N6) ∧ wv.cell? ⟨w9.heap.size, 1, none⟩ = some (.slice a61 n61 c61) ∧ wv.cell? ⟨w9.heap.size, 2, none⟩ = some (.slice a62 n62 c62)) (by rw [← hwa]; exact ⟨cnw (by simp) rfl, cnw (by simp) rfl, cnw (by simp) rfl⟩)
      clear T22
      have Hwa := Lib.hid hwa
      clear hwa hbwa
      have v_f0 : (w9.alloc (.cells #[.int .i64 N6, .slice a61 n61 c61, .slice a62 n62 c62] 48)).cell? ⟨w9.heap.size, 0, none⟩ = some (.int .i64 N6) := by rw [Hwa.out]; exact T23.out.2.1
      have v_f1 : (w9.alloc (.cells #[.int .i64 N6, .slice a61 n61 c61, .slice a62 n62 c62] 48)).cell? ⟨w9.heap.size, 1, none⟩ = some (.slice a61 n61 c61) := by rw [Hwa.out]; exact T23.out.2.2.1
      have v_f2 : (w9.alloc (.cells #[.int .i64 N6, .slice a61 n61 c61, .slice a62 n62 c62] 48)).cell? ⟨w9.heap.size, 2, none⟩ = some (.slice a62 n62 c62) := by rw [Hwa.out]; exact T23.out.2.2.2
      go_wp2_with fail
      rw [Hwa.out]
      refine (rawIs_ch ev8 (.agg #[.int .i64 N6, .slice a61 n61 c61, .slice a62 n62 c62]) je wa R T23.out.1.1.1.1.1.1.1.1.1.1.1.1.2 T23.out.1.1.2 T23.out.1.2).mono ?_; rintro e wb ⟨rfl, hbwb⟩
      clear v_f0 v_f1 v_f2
      have T24 := T23.up hbwb
      clear T23
      go_wp2_with fail
      refine (kept_any gt nT (nT + 2) cT aT t wb T24.out.1.1.1.1.1.1.1.2 (Nat.le_refl _) hmT2 T24.out.1.1.1.1.1.1.1.1.1.1.2 h8T).mono ?_; rintro e wc ⟨rfl, hbwc⟩
      have T25 := T24.up hbwc
      clear T24
      have v_p0 : wc.cell? ⟨W.heap.size, 0, none⟩ = some (.int .i64 w) := T25.out.1.1.1.1.1.1.1.1.2.1
      have v_p1 : wc.cell? ⟨W.heap.size, 1, none⟩ = some (.int .i64 h) := T25.out.1.1.1.1.1.1.1.1.2.2.1
      have v_p2 : wc.cell? ⟨W.heap.size, 2, none⟩ = some (.slice a n c) := T25.out.1.1.1.1.1.1.1.1.2.2.2
      have v_q0 : wc.cell? ⟨g5, 0, none⟩ = some (.int .i64 w) := T25.out.1.1.1.1.1.1.2.1
      have v_q1 : wc.cell? ⟨g5, 1, none⟩ = some (.int .i64 h) := T25.out.1.1.1.1.1.1.2.2.1
      have v_q2 : wc.cell? ⟨g5, 2, none⟩ = some (.slice (some ⟨gm, 0, none⟩) n (n + 2)) := T25.out.1.1.1.1.1.1.2.2.2
      go_wp2_with fail
      refine (kept_any gm n (n + 2) c a l wc T25.out.1.1.1.1.1.2 (Nat.le_refl _) hm2 (T25.out.1.1.1.1.1.1.1.1.1.1.1.2).rk h8).mono ?_; rintro e wd ⟨rfl, hbwd⟩
      clear v_p0 v_p1 v_p2 v_q0 v_q1 v_q2
      have T26 := T25.up hbwd
      clear T25
      have HS7 := Lib.hid (T26.out.1.1.1.2).2
      have HB2 := Lib.hid (T26.out.1.1.1.1.1.1.1.1.1.2).2
      have cv1 := fun q => conv_str (w := wd.drewN q) (c := c7) Tryd.underlying67 Tryd.underlying5 Tryd.underlying9 (HS7.out.up (bdrewN (bnil _) q))
      have cv2 := fun q => conv_str (w := wd.drewN q) (c := cB) Tryd.underlying67 Tryd.underlying5 Tryd.underlying9 (HB2.out.up (bdrewN (bnil _) q))
      have i2 : (bs.length : Int) < (bs.length : Int) + 2 := by omega
      have i3 : IntKind.i64.wrap ((bs.length : Int) + 1) = (bs.length : Int) + 1 := IntWalk.i64_in _ (by omega)
      have i4 : (0 : Int) ≤ (bs.length : Int) + 1 := by omega
      have i5 : (bs.length : Int) + 1 < (bs.length : Int) + 2 := by omega
      have i6 : ((bs.length : Int) + 1).toNat = bs.length + 1 := by omega
      have v_K0 : wd.cell? ⟨g7, bs.length, none⟩ = some (.int .u8 71) := T26.out.1.1.1.1.2.1
      have v_K1 : wd.cell? ⟨g7, bs.length + 1, none⟩ = some (.int .u8 72) := T26.out.1.1.1.1.2.2
      go_wp2_with fail
      go_quiet (fail)
      go_wp2
      go_ret
      exact ⟨rfl, bdrewN T26.out.1.1.1.1.1.1.1.1.1.1.1.1.1.2 _⟩
theorem judge_tells_row (aT : Option Addr) (cT : Nat) (t : List Int) (w h : Int) (a : Option Addr) (n c : Nat) (l : List Int) (aB : Option Addr) (cB : Nat) (bs : List Int) (W : World) (R : Nat → Addr) (hE : Env W R)
    (hR0 : Rd W aT t.length 1 (t.map (Value.int .i64))) (hl0 : t.length ≤ cT) (hz0 : cT * 8 ≤ 140737488351232) (hn0 : aT = none → cT = 0) (hx0 : ∀ x ∈ t, -9223372036854775808 ≤ x ∧ x ≤ 9223372036854775807) (hM : SlI W a n c l) (hx : I64 l)
    (hR2 : Rd W aB bs.length 1 (bs.map (Value.int .u8))) (hl2 : bs.length ≤ cB) (hz2 : cB * 1 ≤ 140737488351232) (hn2 : aB = none → cB = 0) (hx2 : ∀ x ∈ bs, 0 ≤ x ∧ x ≤ 255) :
    Calls Tryd.prog 9 #[.slice aT t.length cT, patV w h a n c, .slice aB bs.length cB] W (TrueBelow W) :=
  judge_tells w h a aT aB n c t.length cT cB l t bs W R hE hM hx ⟨rfl, hR0⟩ (by omega) ⟨rfl, hR2⟩ hx2 (by omega) hn2
end Go.Proofs.YtocfkmdoalhjmaaDoor
