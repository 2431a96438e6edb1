/- edenlaw25.EveCounts returns true. -/
import Derived.Test.YtoaooblodgejdaaDoorAwk25
import Derived.Test.YtoaooblodgejdaaDoorEvE
import Derived.Test.YtoaooblodgejdaaDoorEvC
import Derived.Test.YtoaooblodgejdaaDoorESelf
import Derived.Test.YtoaooblodgejdaaDoorRfCnt
import Derived.Test.YtoaooblodgejdaaDoorLentE
namespace Go.Proofs.YtoaooblodgejdaaDoor
open Go.RowKit
set_option linter.unusedVariables false
set_option maxRecDepth 100000

set_option maxHeartbeats 32000000 in
theorem eve_counts (w h : Int) (a aT : Option Addr) (n c nT cT : Nat) (l t : List Int) (W : World) (R : Nat → Addr) (hE : Env W R) (hR : RK .i64 W a n l) (hm : n ≤ maxLen) (hx : I64 l) (hT : RK .i64 W aT nT t) (h8T : nT * 8 ≤ 140737488351232) :
    Calls Tryd.prog 6 #[.slice aT nT cT, patV w h a n c] W (TrueBelow W) := by
  have HI6 := Lib.hid hx
  have hmT : nT ≤ maxLen := by unfold maxLen; omega
  have hmT2 : nT + 2 ≤ maxLen := by unfold maxLen; omega
  have T0 := Tk.nil W
  have T1 := T0.add (fun wv => Below W.heap.size W wv) (bnil W)
  clear T0
  have T2 := T1.add (fun wv => Env wv R) (hE)
  clear T1
  have T3 := T2.add (fun wv => RK .i64 wv a n l) (hR)
  clear T2
  have T4 := T3.add (fun wv => RK .i64 wv aT nT t) (hT)
  clear T3
  clear hE hR hx hT
  cases hed : evD t w h l with
  | some d =>
    have HED := Lib.hid hed
    have HRC := Lib.hid (fun W hR hT => refcount_er w h a aT n c nT cT l t W hR hm hT hmT d HED.out)
    clear hed
    obtain ⟨Wb, hWb⟩ : ∃ Wb, W.alloc (.cells #[.int .i64 w, .int .i64 h, .slice a n c] 24) = Wb := ⟨_, rfl⟩
    have hbWb : Below W.heap.size W Wb := by rw [← hWb]; exact balloc (bnil W) _
    have T5 := T4.up hbWb
    clear T4
    have T6 := T5.add (fun wv => wv.cell? ⟨W.heap.size, 0, none⟩ = some (.int .i64 w) ∧ wv.cell? ⟨W.heap.size, 1, none⟩ = some (.int .i64 h) ∧ wv.cell? ⟨W.heap.size, 2, none⟩ = some (.slice a n c)) (by rw [← hWb]; exact ⟨cnw (by simp) rfl, cnw (by simp) rfl, cnw (by simp) rfl⟩)
    clear T5
    have HWb := Lib.hid hWb
    clear hWb hbWb
    go_enter Tryd.func6, Tryd.ntmps6
    go_wp2_with fail
    rw [HWb.out]
    refine (awake25_any Wb R (T6.out.1.1.1.2).sent).mono ?_; rintro e w0 ⟨rfl, hbw0⟩
    have T7 := T6.up hbw0
    clear T6
    have v_p0 : w0.cell? ⟨W.heap.size, 0, none⟩ = some (.int .i64 w) := T7.out.2.1
    have v_p1 : w0.cell? ⟨W.heap.size, 1, none⟩ = some (.int .i64 h) := T7.out.2.2.1
    have v_p2 : w0.cell? ⟨W.heap.size, 2, none⟩ = some (.slice a n c) := T7.out.2.2.2
    go_wp2_with fail
    refine (great_any w h a n c w0).mono ?_; rintro e w1 ⟨b, rfl, hbw1⟩
    clear v_p0 v_p1 v_p2
    have T8 := T7.up hbw1
    clear T7
    cases b with
    | true =>
      go_wp2
      go_ret
      exact ⟨rfl, T8.out.1.1.1.1.2⟩
    | false =>
      go_wp2_with fail
      refine (lent_ex aT nT cT t w1 T8.out.1.2 h8T).mono ?_; rintro e wl ⟨gt, ct, rfl, rfl, hot, hbwl⟩
      have T9 := T8.up hbwl
      clear T8
      have T10 := T9.add (fun wv => LentM wv gt nT t) (hot.rk)
      clear T9
      clear hot
      have v_p0 : wl.cell? ⟨W.heap.size, 0, none⟩ = some (.int .i64 w) := T10.out.1.2.1
      have v_p1 : wl.cell? ⟨W.heap.size, 1, none⟩ = some (.int .i64 h) := T10.out.1.2.2.1
      have v_p2 : wl.cell? ⟨W.heap.size, 2, none⟩ = some (.slice a n c) := T10.out.1.2.2.2
      go_wp2_with fail
      refine (evcount_er w h a (some ⟨gt, 0, none⟩) n c nT (nT + 2) l t wl R (T10.out.1.1.1.1.2).sent T10.out.1.1.1.2 hm HI6.out ((T10.out.2).sl h8T).rk hmT d HED.out).mono ?_; rintro e w4 ⟨t8, p8, rfl, he8, hbw4⟩
      clear v_p0 v_p1 v_p2
      have T11 := T10.up hbw4
      clear T10
      obtain ⟨ev8, hev8⟩ : ∃ ev8, Value.iface t8 p8 = ev8 := ⟨_, rfl⟩
      rw [hev8] at he8 ⊢
      clear hev8
      have T12 := T11.add (fun wv => EC R wv ev8 (some d)) (he8)
      clear T11
      have hna : NR w4 none 0 (limbs 0) := by rw [limbs_zero]; exact ⟨RK.nil, nofun⟩
      have T13 := T12.add (fun wv => NR wv none 0 (limbs 0)) (hna)
      clear T12
      clear he8 hna
      have v_p0 : w4.cell? ⟨W.heap.size, 0, none⟩ = some (.int .i64 w) := T13.out.1.1.1.2.1
      have v_p1 : w4.cell? ⟨W.heap.size, 1, none⟩ = some (.int .i64 h) := T13.out.1.1.1.2.2.1
      have v_p2 : w4.cell? ⟨W.heap.size, 2, none⟩ = some (.slice a n c) := T13.out.1.1.1.2.2.2
      go_wp2_with fail
      refine (HRC.out w4 T13.out.1.1.1.1.1.2 T13.out.1.1.1.1.2).mono ?_; rintro e w5 ⟨a0, n0, c0, N6, b61, m61, d61, b62, m62, d62, rfl, hw6, hn6, hbw5⟩
      clear v_p0 v_p1 v_p2
      have T14 := T13.up hbw5
      clear T13
      have T15 := T14.add (fun wv => WC wv (.agg #[.int .i64 N6, .slice b61 m61 d61, .slice b62 m62 d62]) (some d)) (hw6)
      clear T14
      have T16 := T15.add (fun wv => NR wv a0 n0 (limbs 0)) (hn6)
      clear T15
      clear hw6 hn6
      obtain ⟨we, hwe⟩ : ∃ we, w5.alloc (.cells #[.int .i64 N6, .slice b61 m61 d61, .slice b62 m62 d62] 60) = we := ⟨_, rfl⟩
      have hbwe : Below w5.heap.size w5 we := by rw [← hwe]; exact balloc (bnil w5) _
      have T17 := T16.up hbwe
      clear T16
      have T18 := T17.add (fun wv => wv.cell? ⟨w5.heap.size, 0, none⟩ = some (.int .i64 N6) ∧ wv.cell? ⟨w5.heap.size, 1, none⟩ = some (.slice b61 m61 d61) ∧ wv.cell? ⟨w5.heap.size, 2, none⟩ = some (.slice b62 m62 d62)) (by rw [← hwe]; exact ⟨cnw (by simp) rfl, cnw (by simp) rfl, cnw (by simp) rfl⟩)
      clear T17
      have Hwe := Lib.hid hwe
      clear hwe hbwe
      go_wp2_with fail
      rw [Hwe.out]
      refine (nats_eqW none a0 0 n0 0 c0 (limbs 0) we T18.out.1.1.1.2 T18.out.1.2 (by unfold maxLen; omega)).mono ?_; rintro e w6 ⟨rfl, hbw6⟩
      have T19 := T18.up hbw6
      clear T18
      have v_f0 : w6.cell? ⟨w5.heap.size, 0, none⟩ = some (.int .i64 N6) := T19.out.2.1
      have v_f1 : w6.cell? ⟨w5.heap.size, 1, none⟩ = some (.slice b61 m61 d61) := T19.out.2.2.1
      have v_f2 : w6.cell? ⟨w5.heap.size, 2, none⟩ = some (.slice b62 m62 d62) := T19.out.2.2.2
      go_wp2_with fail
      refine (rawIs_ch ev8 (.agg #[.int .i64 N6, .slice b61 m61 d61, .slice b62 m62 d62]) (some d) w6 R T19.out.1.1.1.1.1.1.1.1.1.2 T19.out.1.1.1.1.2 T19.out.1.1.2).mono ?_; rintro e w7 ⟨rfl, hbw7⟩
      clear v_f0 v_f1 v_f2
      have T20 := T19.up hbw7
      clear T19
      go_wp2_with fail
      refine (kept_any gt nT (nT + 2) cT aT t w7 T20.out.1.1.1.1.1.2 (Nat.le_refl _) hmT2 T20.out.1.1.1.1.1.1.1.2 h8T).mono ?_; rintro e w8 ⟨rfl, hbw8⟩
      have T21 := T20.up hbw8
      clear T20
      go_wp2
      go_ret
      exact ⟨rfl, T21.out.1.1.1.1.1.1.1.1.1.1.2⟩
  | none =>
    obtain ⟨w, h, rfl, rfl, hpp, htb, hw8, hh4⟩ := evD_none hed
    have HT := Lib.hid htb
    have c_c := fun g W R hS hR hT => evcount_ok w h a n c g 0 (512 + 2) l t W R hS hR hm HI6.out hT htb hpp hw8 hh4
    have c_r := fun W hR hT => refcount_ok w h a aT n c cT l t W hR hm hT htb hpp hw8 hh4
    obtain ⟨CN, hCN⟩ : ∃ CN, cntN t (colL w h l) h (4 * 2 ^ h) w = CN := ⟨_, rfl⟩
    simp only [hCN] at c_c c_r
    have HCC := Lib.hid c_c
    have HRC := Lib.hid c_r
    clear hpp htb c_c c_r hCN hed
    obtain rfl : nT = 512 := (T4.out.2).len.trans HT.out.len
    obtain ⟨Wb, hWb⟩ : ∃ Wb, W.alloc (.cells #[.int .i64 w, .int .i64 h, .slice a n c] 24) = Wb := ⟨_, rfl⟩
    have hbWb : Below W.heap.size W Wb := by rw [← hWb]; exact balloc (bnil W) _
    have T5 := T4.up hbWb
    clear T4
    have T6 := T5.add (fun wv => wv.cell? ⟨W.heap.size, 0, none⟩ = some (.int .i64 w) ∧ wv.cell? ⟨W.heap.size, 1, none⟩ = some (.int .i64 h) ∧ wv.cell? ⟨W.heap.size, 2, none⟩ = some (.slice a n c)) (by rw [← hWb]; exact ⟨cnw (by simp) rfl, cnw (by simp) rfl, cnw (by simp) rfl⟩)
    clear T5
    have HWb := Lib.hid hWb
    clear hWb hbWb
    go_enter Tryd.func6, Tryd.ntmps6
    go_wp2_with fail
    rw [HWb.out]
    refine (awake25_any Wb R (T6.out.1.1.1.2).sent).mono ?_; rintro e w0 ⟨rfl, hbw0⟩
    have T7 := T6.up hbw0
    clear T6
    have v_p0 : w0.cell? ⟨W.heap.size, 0, none⟩ = some (.int .i64 w) := T7.out.2.1
    have v_p1 : w0.cell? ⟨W.heap.size, 1, none⟩ = some (.int .i64 h) := T7.out.2.2.1
    have v_p2 : w0.cell? ⟨W.heap.size, 2, none⟩ = some (.slice a n c) := T7.out.2.2.2
    go_wp2_with fail
    refine (great_any w h a n c w0).mono ?_; rintro e w1 ⟨b, rfl, hbw1⟩
    clear v_p0 v_p1 v_p2
    have T8 := T7.up hbw1
    clear T7
    cases b with
    | true =>
      go_wp2
      go_ret
      exact ⟨rfl, T8.out.1.1.1.1.2⟩
    | false =>
      go_wp2_with fail
      refine (lent_ex aT 512 cT t w1 T8.out.1.2 h8T).mono ?_; rintro e wl ⟨gt, ct, rfl, rfl, hot, hbwl⟩
      have T9 := T8.up hbwl
      clear T8
      have T10 := T9.add (fun wv => LentM wv gt 512 t) (hot.rk)
      clear T9
      clear hot
      have v_p0 : wl.cell? ⟨W.heap.size, 0, none⟩ = some (.int .i64 w) := T10.out.1.2.1
      have v_p1 : wl.cell? ⟨W.heap.size, 1, none⟩ = some (.int .i64 h) := T10.out.1.2.2.1
      have v_p2 : wl.cell? ⟨W.heap.size, 2, none⟩ = some (.slice a n c) := T10.out.1.2.2.2
      go_wp2_with fail
      refine (HCC.out gt wl R (T10.out.1.1.1.1.2).sent T10.out.1.1.1.2 ((T10.out.2).sl h8T).rk).mono ?_; rintro e w4 ⟨g1, n1, rfl, _, hn1, hbw4⟩
      clear v_p0 v_p1 v_p2
      have T11 := T10.up hbw4
      clear T10
      have T12 := T11.add (fun wv => NR wv (some ⟨g1, 0, none⟩) n1 (limbs CN)) (hn1.nr)
      clear T11
      have hn1le : n1 ≤ 2 := hn1.le
      clear hn1
      have v_p0 : w4.cell? ⟨W.heap.size, 0, none⟩ = some (.int .i64 w) := T12.out.1.1.2.1
      have v_p1 : w4.cell? ⟨W.heap.size, 1, none⟩ = some (.int .i64 h) := T12.out.1.1.2.2.1
      have v_p2 : w4.cell? ⟨W.heap.size, 2, none⟩ = some (.slice a n c) := T12.out.1.1.2.2.2
      go_wp2_with fail
      refine (HRC.out w4 T12.out.1.1.1.1.2 T12.out.1.1.1.2).mono ?_; rintro e w5 ⟨a0, n0, c0, N6, b61, m61, d61, b62, m62, d62, rfl, hw6, hn6, hbw5⟩
      clear v_p0 v_p1 v_p2
      have T13 := T12.up hbw5
      clear T12
      have T14 := T13.add (fun wv => WC wv (.agg #[.int .i64 N6, .slice b61 m61 d61, .slice b62 m62 d62]) none) (hw6)
      clear T13
      have T15 := T14.add (fun wv => NR wv a0 n0 (limbs CN)) (hn6)
      clear T14
      clear hw6 hn6
      obtain ⟨we, hwe⟩ : ∃ we, w5.alloc (.cells #[.int .i64 N6, .slice b61 m61 d61, .slice b62 m62 d62] 60) = we := ⟨_, rfl⟩
      have hbwe : Below w5.heap.size w5 we := by rw [← hwe]; exact balloc (bnil w5) _
      have T16 := T15.up hbwe
      clear T15
      have T17 := T16.add (fun wv => wv.cell? ⟨w5.heap.size, 0, none⟩ = some (.int .i64 N6) ∧ wv.cell? ⟨w5.heap.size, 1, none⟩ = some (.slice b61 m61 d61) ∧ wv.cell? ⟨w5.heap.size, 2, none⟩ = some (.slice b62 m62 d62)) (by rw [← hwe]; exact ⟨cnw (by simp) rfl, cnw (by simp) rfl, cnw (by simp) rfl⟩)
      clear T16
      have Hwe := Lib.hid hwe
      clear hwe hbwe
      go_wp2_with fail
      rw [Hwe.out]
      refine (nats_eqW (some ⟨g1, 0, none⟩) a0 n1 n0 2 c0 (limbs CN) we T17.out.1.1.1.2 T17.out.1.2 (by unfold maxLen; omega)).mono ?_; rintro e w6 ⟨rfl, hbw6⟩
      have T18 := T17.up hbw6
      clear T17
      have v_f0 : w6.cell? ⟨w5.heap.size, 0, none⟩ = some (.int .i64 N6) := T18.out.2.1
      have v_f1 : w6.cell? ⟨w5.heap.size, 1, none⟩ = some (.slice b61 m61 d61) := T18.out.2.2.1
      have v_f2 : w6.cell? ⟨w5.heap.size, 2, none⟩ = some (.slice b62 m62 d62) := T18.out.2.2.2
      go_wp2_with fail
      refine (rawIs_ch .nilIface (.agg #[.int .i64 N6, .slice b61 m61 d61, .slice b62 m62 d62]) none w6 R T18.out.1.1.1.1.1.1.1.1.2 rfl T18.out.1.1.2).mono ?_; rintro e w7 ⟨rfl, hbw7⟩
      clear v_f0 v_f1 v_f2
      have T19 := T18.up hbw7
      clear T18
      go_wp2_with fail
      refine (kept_any gt 512 (512 + 2) cT aT t w7 T19.out.1.1.1.1.2 (Nat.le_refl _) hmT2 T19.out.1.1.1.1.1.1.2 h8T).mono ?_; rintro e w8 ⟨rfl, hbw8⟩
      have T20 := T19.up hbw8
      clear T19
      go_wp2
      go_ret
      exact ⟨rfl, T20.out.1.1.1.1.1.1.1.1.1.2⟩
theorem eve_counts_row (aT : Option Addr) (cT : Nat) (t : List Int) (w h : Int) (a : Option Addr) (n c : Nat) (l : List Int) (W : World) (R : Nat → Addr) (hE : Env W R)
    (hR0 : Rd W aT t.length 1 (t.map (Value.int .i64))) (hl0 : t.length ≤ cT) (hz0 : cT * 8 ≤ 140737488351232) (hn0 : aT = none → cT = 0) (hx0 : ∀ x ∈ t, -9223372036854775808 ≤ x ∧ x ≤ 9223372036854775807) (hM : SlI W a n c l) (hx : I64 l) :
    Calls Tryd.prog 6 #[.slice aT t.length cT, patV w h a n c] W (TrueBelow W) :=
  eve_counts w h a aT n c t.length cT l t W R hE hM.rk hM.nm hx ⟨rfl, hR0⟩ (by omega)
end Go.Proofs.YtoaooblodgejdaaDoor
