/- edenlaw25.awake. -/
import Derived.Test.YtoaooblodgejdaaDoorSeek
import Derived.Test.YtoaooblodgejdaaDoorEvC
import Derived.Deep.QuietTactic
import Derived.BigQuiet
namespace Go.Proofs.YtoaooblodgejdaaDoor
open Go.RowKit
set_option linter.unusedVariables false
set_option maxRecDepth 100000
set_option maxHeartbeats 2000000 in
theorem nats_eqW (a1 a2 : Option Addr) (n1 n2 c1 c2 : Nat) (l : List Nat) (W : World) (h1 : NR W a1 n1 l) (h2 : NR W a2 n2 l) (hm : n1 ≤ maxLen) :
    Calls Tryd.prog 19 #[.slice a1 n1 c1, .slice a2 n2 c2] W fun e w' => e = .returned (.bool true) ∧ Below W.heap.size W w' := by
  have hmm : n1 ≤ 9223372036854775807 := hm
  obtain rfl : n1 = n2 := h1.len.trans h2.len.symm
  have H1 := Lib.hid h1; clear h1
  have H2 := Lib.hid h2; clear h2
  go_enter Tryd.func19, Tryd.ntmps19
  go_wp2_with fail
  go_loopw [5] (fun ix wr => ∃ k q : Nat, k ≤ n1 ∧ ix = .int .i64 k ∧ wr = W.drewN q) (fun ix _ => n1 - (intOf ix).toNat)
  case atStart => exact ⟨0, 0, by omega, rfl, rfl⟩
  case round =>
    obtain ⟨k, q, hk, rfl, rfl⟩ := hrel
    by_cases hlt : k < n1
    · obtain ⟨b1, o1, rfl, _, hc1⟩ := H1.out.addr (by omega)
      obtain ⟨b2, o2, rfl, _, hc2⟩ := H2.out.addr (by omega)
      have x0 := hc1 k hlt
      have y0 := hc2 k hlt
      clear hc1 hc2
      have i0 : (0 : Int) ≤ (k : Int) := by omega
      have i1 : (k : Int) < (n1 : Int) := by omega
      generalize l.getD k 0 = z at *
      go_wp2_with fail
      go_quiet (fail)
      go_wp2
      go_roundw
      case rel => exact ⟨k + 1, q + nq, by omega, by go_num, by simp⟩
      case measure => simp [intOf]; omega
    · go_wp2
      go_ret
      exact ⟨rfl, bdrewN (bnil W) q⟩

theorem cnt_512 : cntN tab0 [0] 1 8 1 = 512 := by decide +kernel
theorem count_0 (a aT : Option Addr) (c cT : Nat) (W : World) (R : Nat → Addr) (hS : Sent W R) (hR : RK .i64 W a 1 [0]) (hT : RK .i64 W aT 512 tab0) :
    Calls Tryd.prog 17 #[.slice aT 512 cT, .agg #[.int .i64 1, .int .i64 1, .slice a 1 c]] W fun e w' => ∃ g, e = .returned (.tuple #[.slice (some ⟨g, 0, none⟩) 1 2, .nilIface]) ∧ NR w' (some ⟨g, 0, none⟩) 1 [512] ∧ Below W.heap.size W w' := by
  obtain ⟨b, o, rfl, _⟩ := hT.addr (by omega)
  refine (evcount_ok 1 1 a 1 c b o cT [0] tab0 W R hS hR (by unfold maxLen; omega) i64_0 hT isTab0 isP0 (by omega) (by omega)).mono ?_
  rintro e w' ⟨g, n', rfl, _, hn, hb⟩
  have e1 : cntN tab0 (colL 1 1 [0]) 1 (4 * 2 ^ 1) 1 = 512 := by rw [col_1]; exact cnt_512
  rw [e1] at hn
  obtain rfl : n' = 1 := hn.len
  exact ⟨g, rfl, hn.nr, hb⟩
set_option maxHeartbeats 32000000 in
theorem awake25_any (W : World) (R : Nat → Addr) (hS : Sent W R) : Calls Tryd.prog 14 #[] W fun e w' => e = .returned (.bool true) ∧ Below W.heap.size W w' := by
  have HS := Lib.hid hS
  clear hS
  obtain ⟨ZC, hzl, hmk⟩ := mk512
  have HZ := Lib.hid hzl
  clear hzl
  have D0 : Hid (Below W.heap.size W W.drew) := Below.drew (bnil W)
  have HJ : Hid (∀ (w : World) (a aT aL : Option Addr) (c cT : Nat), Below W.heap.size W w → RK .i64 w a 1 [1] → RK .i64 w aT 512 tab0 → NR w aL 1 [512] → Calls Tryd.prog 15 #[.slice aT 512 cT, .agg #[.int .i64 1, .int .i64 1, .slice a 1 c], .slice aL 1 2] w (fun e w' => ∃ a' c', e = .returned (.tuple #[fndV 2 0 0 none 0 0 a' 196 c', .int .i64 512, .nilIface]) ∧ Below w.heap.size w w' ∧ Below W.heap.size W w')) := by
    intro w a aT aL c cT hb h1 h2 h3
    refine (search_512 a aT aL c cT w R (HS.out.up hb) h1 h2 h3).mono ?_
    rintro e w' ⟨a', c', rfl, hb2⟩
    exact ⟨a', c', rfl, hb2, bstep hb hb2⟩
  go_enter Tryd.func14, Tryd.ntmps14
  go_upto_region 1 with (fail)
  go_cut [1, 2, 3] from 6 (fun s1 s2 s3 wx => ∃ g a2 c2, s1 = .pointer (some ⟨g, 0, none⟩) ∧ s2 = .int .i64 512 ∧ s3 = .nilIface ∧ wx.cell? ⟨g, 0, none⟩ = some (.int .i64 2) ∧ wx.cell? ⟨g, 4, none⟩ = some (.slice a2 196 c2) ∧ Below W.heap.size W wx)
  case first =>
    go_region_held3 (fun _ => True)
      (exact trivial)
      (first
        | (go_at_call 16; refine (from_any 512 _ (by decide)).mono ?_; rintro e w1 ⟨n1, rfl, ho1, hn1, hb1⟩; obtain rfl : n1 = 1 := hn1.nr.len; have hq1 : NR w1 _ 1 [512] := hn1.nr; (try simp at hq1); have HR1 := Lib.hid hq1; have HB1 := Lib.hid hb1; (have hh1 := hb1.size; (try simp at hh1); have HW1 : Hid (W.heap.size ≤ w1.heap.size) := (by show W.heap.size ≤ w1.heap.size; omega); clear hh1); (first | (refine contF (show Hid (w1.heap[W.heap.size]? = some fz) from heapF hb1 ?_) ?_; (focus ((repeat (first | with_reducible exact hnewF rfl | with_reducible refine hnewF (Eq.refl _) | (with_reducible refine hnewF ?_; (focus (simp; done))) | with_reducible refine hallocF ?_ | with_reducible refine hdrewF ?_)); done)); intro HZ1) | (refine contF (show Hid (w1.heap[W.heap.size + 1]? = some fz) from heapF hb1 ?_) ?_; (focus ((repeat (first | with_reducible exact hnewF rfl | with_reducible refine hnewF (Eq.refl _) | (with_reducible refine hnewF ?_; (focus (simp; done))) | with_reducible refine hallocF ?_ | with_reducible refine hdrewF ?_)); done)); intro HZ1) | (refine contF (show Hid (w1.heap[W.heap.size + 1 + 1]? = some fz) from heapF hb1 ?_) ?_; (focus ((repeat (first | with_reducible exact hnewF rfl | with_reducible refine hnewF (Eq.refl _) | (with_reducible refine hnewF ?_; (focus (simp; done))) | with_reducible refine hallocF ?_ | with_reducible refine hdrewF ?_)); done)); intro HZ1) | skip); clear ho1 hn1 hb1 hq1)
        | (go_at_call 15; refine (HJ.out _ _ _ _ _ _ ?_ ?_ ?_ ?_).mono ?_; (focus repeat (first | with_reducible exact bnil _ | with_reducible exact D0.out | with_reducible refine Below.drew ?_ | with_reducible refine balloc ?_ _ | with_reducible refine bstep ?_ HB1.out)); (focus repeat (first | with_reducible exact rkV _ (by simp) | with_reducible refine RK.up ?_ HB1.out | with_reducible refine RK.drw ?_ | with_reducible refine RK.al ?_ _)); (focus repeat (first | with_reducible exact rkZ HZ.out (by simp) | with_reducible refine RK.up ?_ HB1.out | with_reducible refine RK.drw ?_ | with_reducible refine RK.al ?_ _)); (focus repeat (first | with_reducible exact HR1.out | with_reducible refine NR.up ?_ (Below.drew (bnil _)) | with_reducible refine NR.up ?_ (balloc (bnil _) _))); (rintro e w2 ⟨a2, c2, rfl, hb2, hb3⟩; have HB2 := Lib.hid hb2; have HB3 := Lib.hid hb3; clear hb3; (first | (have q := HZ1; refine contF (show Hid (w2.heap[W.heap.size]? = some fz) from heapF hb2 ?_) ?_; (focus ((repeat (first | with_reducible exact q.out | with_reducible refine hallocF ?_ | with_reducible refine hdrewF ?_)); done)); intro HZ2; have zz := f_cells HZ2.out; have z0 := zz.1.1; have z1 := zz.1.2.1; have z2 := zz.1.2.2.1; have z3 := zz.1.2.2.2.1; have z4 := zz.1.2.2.2.2; have zf0 := zz.2 0; have zf1 := zz.2 1; have zf2 := zz.2 2; have zf3 := zz.2 3; have zf4 := zz.2 4; clear zz) | (have q := HZ1; refine contF (show Hid (w2.heap[W.heap.size + 1]? = some fz) from heapF hb2 ?_) ?_; (focus ((repeat (first | with_reducible exact q.out | with_reducible refine hallocF ?_ | with_reducible refine hdrewF ?_)); done)); intro HZ2; have zz := f_cells HZ2.out; have z0 := zz.1.1; have z1 := zz.1.2.1; have z2 := zz.1.2.2.1; have z3 := zz.1.2.2.2.1; have z4 := zz.1.2.2.2.2; have zf0 := zz.2 0; have zf1 := zz.2 1; have zf2 := zz.2 2; have zf3 := zz.2 3; have zf4 := zz.2 4; clear zz) | (have q := HZ1; refine contF (show Hid (w2.heap[W.heap.size + 1 + 1]? = some fz) from heapF hb2 ?_) ?_; (focus ((repeat (first | with_reducible exact q.out | with_reducible refine hallocF ?_ | with_reducible refine hdrewF ?_)); done)); intro HZ2; have zz := f_cells HZ2.out; have z0 := zz.1.1; have z1 := zz.1.2.1; have z2 := zz.1.2.2.1; have z3 := zz.1.2.2.2.1; have z4 := zz.1.2.2.2.2; have zf0 := zz.2 0; have zf1 := zz.2 1; have zf2 := zz.2 2; have zf3 := zz.2 3; have zf4 := zz.2 4; clear zz) | (refine contF (show Hid (w2.heap[w1.heap.size]? = some fz) from heapF hb2 ?_) ?_; (focus ((repeat (first | with_reducible exact hnewF rfl | with_reducible refine hnewF (Eq.refl _) | (with_reducible refine hnewF ?_; (focus (simp; done))) | with_reducible refine hallocF ?_ | with_reducible refine hdrewF ?_)); done)); intro HZ2; have zz := f_cells HZ2.out; have z0 := zz.1.1; have z1 := zz.1.2.1; have z2 := zz.1.2.2.1; have z3 := zz.1.2.2.2.1; have z4 := zz.1.2.2.2.2; have zf0 := zz.2 0; have zf1 := zz.2 1; have zf2 := zz.2 2; have zf3 := zz.2 3; have zf4 := zz.2 4; clear zz) | (refine contF (show Hid (w2.heap[w1.heap.size + 1]? = some fz) from heapF hb2 ?_) ?_; (focus ((repeat (first | with_reducible exact hnewF rfl | with_reducible refine hnewF (Eq.refl _) | (with_reducible refine hnewF ?_; (focus (simp; done))) | with_reducible refine hallocF ?_ | with_reducible refine hdrewF ?_)); done)); intro HZ2; have zz := f_cells HZ2.out; have z0 := zz.1.1; have z1 := zz.1.2.1; have z2 := zz.1.2.2.1; have z3 := zz.1.2.2.2.1; have z4 := zz.1.2.2.2.2; have zf0 := zz.2 0; have zf1 := zz.2 1; have zf2 := zz.2 2; have zf3 := zz.2 3; have zf4 := zz.2 4; clear zz) | (refine contF (show Hid (w2.heap[w1.heap.size + 1 + 1]? = some fz) from heapF hb2 ?_) ?_; (focus ((repeat (first | with_reducible exact hnewF rfl | with_reducible refine hnewF (Eq.refl _) | (with_reducible refine hnewF ?_; (focus (simp; done))) | with_reducible refine hallocF ?_ | with_reducible refine hdrewF ?_)); done)); intro HZ2; have zz := f_cells HZ2.out; have z0 := zz.1.1; have z1 := zz.1.2.1; have z2 := zz.1.2.2.1; have z3 := zz.1.2.2.2.1; have z4 := zz.1.2.2.2.2; have zf0 := zz.2 0; have zf1 := zz.2 1; have zf2 := zz.2 2; have zf3 := zz.2 3; have zf4 := zz.2 4; clear zz) | skip); clear hb2)))
    all_goals
      go_wp2_with fail
      go_meet
      first
        | (have q := HZ2; obtain ⟨wA, eA, r, hkA, hsA, hbA⟩ := set5f q.out (.int .i64 2) (.int .i64 0) (.int .i64 0) (.slice none 0 0) (.slice a2 196 c2); rw [eA]; exact ⟨_, _, _, rfl, rfl, rfl, r.1, r.2.2.2.2, hbA W W.heap.size (by have h := HW1.out; omega) HB3.out⟩)
        | (refine ⟨_, a2, c2, rfl, rfl, rfl, cnw ?_ ?_, cnw ?_ ?_, balloc HB3.out _⟩ <;> rfl)
  case rest =>
    obtain ⟨g, a2, c2, rfl, rfl, rfl, hc, hc4, hbc⟩ := hcut
    have HC := Lib.hid (And.intro hc hc4)
    have HBC := Lib.hid hbc
    clear hc hc4 hbc D0 HJ
    obtain ⟨w3, hw3⟩ : ∃ w3, (wc.alloc (.cells ZC 3)).alloc (.cells #[.int .i64 0] 3) = w3 := ⟨_, rfl⟩
    have hb3 : Below wc.heap.size wc w3 := by rw [← hw3]; exact balloc (balloc (bnil wc) _) _
    have HT3 : Hid (RK .i64 w3 (some ⟨wc.heap.size, 0, none⟩) 512 tab0) := by show RK _ _ _ _ _; rw [← hw3]; exact (rkZ HZ.out rfl).up (balloc (bnil _) _)
    have HR3 : Hid (RK .i64 w3 (some ⟨wc.heap.size + 1, 0, none⟩) 1 [0]) := by show RK _ _ _ _ _; rw [← hw3]; exact rkV 0 (by simp)
    have HB3 := Lib.hid hb3
    have HW3 := Lib.hid hw3
    clear hb3 hw3
    go_wp2_with fail
    rw [HW3.out]
    refine (count_0 _ _ 1 512 w3 R ((HS.out.up HBC.out).up HB3.out) HR3.out HT3.out).mono ?_; rintro e w4 ⟨gN, rfl, hn4, hb4⟩
    obtain ⟨w5, hw5⟩ : ∃ w5, w4.alloc (.cells #[.int .u32 512] 47) = w5 := ⟨_, rfl⟩
    have HB5 : Hid (Below w4.heap.size w4 w5) := by show Below _ _ _; rw [← hw5]; exact balloc (bnil w4) _
    have HN5 : Hid (NR w5 (some ⟨w4.heap.size, 0, none⟩) 1 [512]) := by show NR _ _ _ _; rw [← hw5]; exact ⟨rk_new rfl rfl rfl, by intro x hx; simp at hx; subst hx; decide⟩
    have HM5 : Hid (NR w5 (some ⟨gN, 0, none⟩) 1 [512]) := hn4.up HB5.out
    have HC5 : Hid (Below wc.heap.size wc w5) := by show Below _ _ _; exact bstep (bstep HB3.out hb4) HB5.out
    have HC4 : Hid (Below wc.heap.size wc w4) := by show Below _ _ _; exact bstep HB3.out hb4
    have c0 := cpa HC4.out HC.out.1
    have c4 := cpa HC4.out HC.out.2
    have HW5 := Lib.hid hw5
    clear hn4 hb4 hw5
    go_wp2_with fail
    rw [HW5.out]
    refine (nats_eqW _ _ 1 1 2 1 [512] w5 HM5.out HN5.out (by decide)).mono ?_; rintro e w6 ⟨rfl, hb6⟩
    have HB6 := Lib.hid hb6
    clear hb6 c0 c4
    go_wp2
    go_ret
    exact ⟨rfl, bstep HBC.out (bstep HC5.out HB6.out)⟩
end Go.Proofs.YtoaooblodgejdaaDoor