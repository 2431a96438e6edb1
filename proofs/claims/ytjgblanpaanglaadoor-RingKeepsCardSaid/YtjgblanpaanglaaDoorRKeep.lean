/- edenlaw06.RingKeeps returns true. -/
import Derived.Test.YtjgblanpaanglaaDoorAwk06
import Derived.Test.YtjgblanpaanglaaDoorRngE
import Derived.Test.YtjgblanpaanglaaDoorRngN
import Derived.Test.YtjgblanpaanglaaDoorLent
import Derived.Test.YtjgblanpaanglaaDoorApart
import Derived.Test.YtjgblanpaanglaaDoorErrB
import Derived.Deep.QuietTactic
import Derived.BigQuiet
namespace Go.Proofs.YtjgblanpaanglaaDoor
open Go.RowKit
set_option linter.unusedVariables false
set_option maxRecDepth 100000

instance monoSentK {R : Nat → Addr} : Mono (fun w => Sent w R) := ⟨⟨fun hb h => h.up hb⟩⟩
instance monoOwnK {base sz n : Nat} {e : TypeId} {v : Value} {cs : List Value} : Mono (fun w => w.ownsRow base e sz v n cs) := ⟨⟨fun hb h => owns_up h hb⟩⟩
theorem mkInts (n : Nat) (hb : n ≤ 32768) : ∃ ZC : Array Value, ZC.toList = (List.replicate n (0 : Int)).map (Value.int .i64) ∧ ∀ w : World, (Instr.makeSlice 22 (.int .i64 (n : Int)) (.int .i64 (n : Int))).run Tryd.prog w = .ok (.slice (some ⟨w.heap.size, 0, none⟩) n n) (w.alloc (.cells ZC 3)) := by
  obtain ⟨i, h2, h3, h4, h5⟩ := et_int.hi
  refine ⟨madeCells (Value.int .i64 0).cells (n * 1), made_i64' n, fun w => ?_⟩
  have h := run_makeSlice (P := Tryd.prog) w 22 3 i (.int .i64 0) et_int.ht h2 h3 .i64 .i64 (n : Int) (n : Int) (by omega) (by omega) (by rw [h4]; simp; omega) (by rw [h5]; omega) (by omega)
  rw [h4] at h
  simpa using h
theorem rk_made {w : World} {n : Nat} {ZC : Array Value} {l : List Int} (hz : ZC.toList = l.map (Value.int .i64)) (hn : n = l.length) : RK .i64 (w.alloc (.cells ZC 3)) (some ⟨w.heap.size, 0, none⟩) n l := by
  refine ⟨hn, by simp [hn], .inr ⟨w.heap.size, 0, rfl, by simp, fun j u hu => ?_⟩⟩
  rw [Nat.zero_add]
  refine cnw (by simp) ?_
  rw [← hu, ← hz]
  simp
theorem map_set64R (l : List Int) (i : Nat) (x : Int) : (l.map (Value.int .i64)).set i (.int .i64 x) = (l.set i x).map (Value.int .i64) := by rw [List.map_set]
theorem map_atR (k : IntKind) (l : List Int) (i : Nat) (h : i < l.length) : (l.map (Value.int k))[i]? = some (.int k (l.getD i 0)) := by simp [h]
theorem zero_at {cur : List Int} {wl : List Int} {j : Nat} (h : cur = List.replicate j 0 ++ wl.drop j) (hj : j < wl.length) : cur.set j 0 = List.replicate (j + 1) 0 ++ wl.drop (j + 1) := by
  subst h
  have e : wl.drop j = wl[j] :: wl.drop (j + 1) := List.drop_eq_getElem_cons hj
  rw [e, List.set_append_right _ _ (by simp), List.length_replicate, Nat.sub_self, List.set_cons_zero, List.replicate_succ', List.append_assoc]
  rfl
set_option maxHeartbeats 16000000 in
theorem ring_keeps (k r : Int) (a : Option Addr) (n c : Nat) (l : List Int) (aw : Option Addr) (nw cw : Nat) (wl : List Int) (W : World) (R : Nat → Addr) (hE : Sent W R) (hR : RK .i64 W a n l) (hnm : n ≤ maxLen) (hW : SlI W aw nw cw wl) :
    Calls Tryd.prog 4 #[ruleV k r a n c, .slice aw nw cw] W (TrueBelow W) := by
  have hmw := hW.nm
  have h8w := hW.n8
  have T0 := Tk.nil W
  have T1 := T0.add (fun wv => Below W.heap.size W wv) (bnil W)
  clear T0
  have T2 := T1.add (fun wv => Sent wv R) (hE)
  clear T1
  have T3 := T2.add (fun wv => RK .i64 wv a n l) (hR)
  clear T2
  have T4 := T3.add (fun wv => SlI wv aw nw cw wl) (hW)
  clear T3
  have HRW0 := Lib.hid hW
  clear hE hR hW
  obtain ⟨Wb, hWb⟩ : ∃ Wb, W.alloc (.cells #[.int .i64 k, .int .i64 r, .slice a n c] 24) = Wb := ⟨_, rfl⟩
  have hbWb : Below W.heap.size W Wb := by rw [← hWb]; exact balloc (bnil W) _
  have T5 := T4.up hbWb
  clear T4
  have T6 := T5.add (fun wv => wv.cell? ⟨W.heap.size, 0, none⟩ = some (.int .i64 k) ∧ wv.cell? ⟨W.heap.size, 1, none⟩ = some (.int .i64 r) ∧ wv.cell? ⟨W.heap.size, 2, none⟩ = some (.slice a n c)) (by rw [← hWb]; exact ⟨cnw (by simp) rfl, cnw (by simp) rfl, cnw (by simp) rfl⟩)
  clear T5
  have HWb := Lib.hid hWb
  clear hWb hbWb
  go_enter Tryd.func4, Tryd.ntmps4
  go_wp2_with fail
  rw [HWb.out]
  refine (awake06_any Wb R (T6.out.1.1.1.2).glob).mono ?_; rintro e w0 ⟨rfl, hbw0⟩
  have T7 := T6.up hbw0
  clear T6
  have HBW0 := Lib.hid (T7.out.1.1.1.1.2)
  by_cases q1 : (100 : Int) < (nw : Int)
  · skip
    go_wp2
    go_ret
    exact ⟨rfl, T7.out.1.1.1.1.2⟩
  have n100 : nw ≤ 100 := by omega
  go_wp2_with fail
  refine (lent_any aw nw cw wl w0 (T7.out.1.2).rk h8w).mono ?_; rintro e w1 ⟨rfl, hx, hbw1⟩
  have T8 := T7.up hbw1
  clear T7
  have hw01 := hbw1.size
  have hxs : SlI w1 (some ⟨w0.heap.size, 0, none⟩) nw (nw + 2) wl := ⟨rk_prefix (RK.of_own hx) (T8.out.1.2).rk.len, by omega, h8w, by unfold maxLen; omega, nofun⟩
  have hx1 : w0.heap.size < w1.heap.size := (hx.lt _ rfl).2
  have hB0 := hbw1
  obtain ⟨gx, hgx⟩ : ∃ gx, w0.heap.size = gx := ⟨_, rfl⟩
  rw [hgx] at hx hxs hx1 ⊢
  have HW1 : Hid (W.heap.size ≤ w1.heap.size) := Nat.le_trans HBW0.out.size hbw1.size
  have T9 := T8.add (fun wv => wv.ownsRow gx 3 1 (.slice (some ⟨gx, 0, none⟩) (nw + 2) (nw + 2)) (nw + 2) ((wl ++ marksI).map (Value.int .i64))) (hx)
  clear T8
  have T10 := T9.add (fun wv => SlI wv (some ⟨gx, 0, none⟩) nw (nw + 2) wl) (hxs)
  clear T9
  clear hx hxs hB0 hw01
  have HGX := Lib.hid hgx
  clear hgx
  by_cases hok : ∃ kn rn : Nat, k = kn ∧ r = rn ∧ IsRule kn rn l ∧ IsRing kn wl
  · skip
    obtain ⟨k, r, rfl, rfl, hru, hrg⟩ := hok
    have HRU := Lib.hid hru
    have HRG := Lib.hid hrg
    have hnp : 0 < nw := by rw [(T10.out.1.1.1.2).rk.len]; exact hrg.l1
    have HLW : Hid (wl.length = nw) := (T10.out.1.1.1.2).rk.len.symm
    clear hru hrg
    have v_p0 : w1.cell? ⟨W.heap.size, 0, none⟩ = some (.int .i64 k) := T10.out.1.1.2.1
    have v_p1 : w1.cell? ⟨W.heap.size, 1, none⟩ = some (.int .i64 r) := T10.out.1.1.2.2.1
    have v_p2 : w1.cell? ⟨W.heap.size, 2, none⟩ = some (.slice a n c) := T10.out.1.1.2.2.2
    go_wp2_with fail
    refine (ringstep_ok k r a n c l (some ⟨gx, 0, none⟩) nw (nw + 2) wl w1 T10.out.1.1.1.1.2 (T10.out.2).rk HRU.out HRG.out).mono ?_; rintro e w2 ⟨a1, c1, rfl, ho1, hbw2⟩
    clear v_p0 v_p1 v_p2
    have T11 := T10.up hbw2
    clear T10
    have T12 := T11.add (fun wv => OwI wv w1.heap.size a1 nw c1 (ringL k r l wl)) (ho1)
    clear T11
    have HO1 := Lib.hid ho1
    have s1 : w1.heap.size ≤ w2.heap.size := hbw2.size
    clear ho1
    have v_p0 : w2.cell? ⟨W.heap.size, 0, none⟩ = some (.int .i64 k) := T12.out.1.1.1.2.1
    have v_p1 : w2.cell? ⟨W.heap.size, 1, none⟩ = some (.int .i64 r) := T12.out.1.1.1.2.2.1
    have v_p2 : w2.cell? ⟨W.heap.size, 2, none⟩ = some (.slice a n c) := T12.out.1.1.1.2.2.2
    go_wp2_with fail
    refine (ringstep_ok k r a n c l (some ⟨gx, 0, none⟩) nw (nw + 2) wl w2 T12.out.1.1.1.1.1.2 (T12.out.1.2).rk HRU.out HRG.out).mono ?_; rintro e w3 ⟨a2, c2, rfl, ho2, hbw3⟩
    clear v_p0 v_p1 v_p2
    have T13 := T12.up hbw3
    clear T12
    have T14 := T13.add (fun wv => OwI wv w2.heap.size a2 nw c2 (ringL k r l wl)) (ho2)
    clear T13
    have HO2 := Lib.hid ho2
    have s2 : w2.heap.size ≤ w3.heap.size := hbw3.size
    clear ho2
    have v_p0 : w3.cell? ⟨W.heap.size, 0, none⟩ = some (.int .i64 k) := T14.out.1.1.1.1.2.1
    have v_p1 : w3.cell? ⟨W.heap.size, 1, none⟩ = some (.int .i64 r) := T14.out.1.1.1.1.2.2.1
    have v_p2 : w3.cell? ⟨W.heap.size, 2, none⟩ = some (.slice a n c) := T14.out.1.1.1.1.2.2.2
    go_wp2_with fail
    refine (rafter_ok k r 0 a n c l (some ⟨gx, 0, none⟩) nw (nw + 2) wl w3 T14.out.1.1.1.1.1.1.2 T14.out.1.1.2 HRU.out HRG.out (by omega)).mono ?_; rintro e w4 ⟨a3, c3, rfl, ho3, hbw4⟩
    clear v_p0 v_p1 v_p2
    have T15 := T14.up hbw4
    clear T14
    have T16 := T15.add (fun wv => OwI wv w3.heap.size a3 nw c3 (wl)) (ho3)
    clear T15
    have HO3 := Lib.hid ho3
    have s3 : w3.heap.size ≤ w4.heap.size := hbw4.size
    clear ho3
    go_wp2_with fail
    refine (neck_ok (some ⟨gx, 0, none⟩) nw (nw + 2) wl w4 T16.out.1.1.1.2 hnp).mono ?_; rintro e w5 ⟨m, a4, c4, rfl, hm, ho4, hbw5⟩
    have T17 := T16.up hbw5
    clear T16
    clear hm
    have T18 := T17.add (fun wv => OwI wv w4.heap.size a4 nw c4 (rot wl m)) (ho4)
    clear T17
    have HO4 := Lib.hid ho4
    have s4 : w4.heap.size ≤ w5.heap.size := hbw5.size
    clear ho4
    have v_p0 : w5.cell? ⟨W.heap.size, 0, none⟩ = some (.int .i64 k) := T18.out.1.1.1.1.1.1.2.1
    have v_p1 : w5.cell? ⟨W.heap.size, 1, none⟩ = some (.int .i64 r) := T18.out.1.1.1.1.1.1.2.2.1
    have v_p2 : w5.cell? ⟨W.heap.size, 2, none⟩ = some (.slice a n c) := T18.out.1.1.1.1.1.1.2.2.2
    go_wp2_with fail
    refine (rtrace_ok k r 3 a n c l (some ⟨gx, 0, none⟩) nw (nw + 2) wl w5 T18.out.1.1.1.1.1.1.1.1.2 T18.out.1.1.1.1.2 HRU.out HRG.out (by omega)).mono ?_; rintro e w6 ⟨a5, c5, rfl, ho5, hbw6⟩
    clear v_p0 v_p1 v_p2
    have T19 := T18.up hbw6
    clear T18
    have T20 := T19.add (fun wv => OwI wv w5.heap.size a5 3 c5 (trR k r l 3 wl)) (ho5)
    clear T19
    have HO5 := Lib.hid ho5
    have s5 : w5.heap.size ≤ w6.heap.size := hbw6.size
    clear ho5
    go_wp2_with fail
    refine (ints_eqB a3 aw nw nw c3 cw wl w6 (T20.out.1.1.2).rk (T20.out.1.1.1.1.1.1.1.1.2).rk (by have := HLW.out; unfold maxLen; omega)).mono ?_; rintro e w7 ⟨rfl, hbw7⟩
    have T21 := T20.up hbw7
    clear T20
    go_wp2_with fail
    refine (ints_eqB a1 a2 nw nw c1 c2 (ringL k r l wl) w7 (T21.out.1.1.1.1.2).rk (T21.out.1.1.1.2).rk (by rw [ringL_len]; have := HLW.out; unfold maxLen; omega)).mono ?_; rintro e w8 ⟨rfl, hbw8⟩
    have T22 := T21.up hbw8
    clear T21
    go_wp2_with fail
    refine (kept_any gx nw (nw + 2) cw aw wl w8 (RK.of_own T22.out.1.1.1.1.1.1.2) (by omega) (by unfold maxLen; omega) (T22.out.1.1.1.1.1.1.1.1.2).rk h8w).mono ?_; rintro e w9 ⟨rfl, hbw9⟩
    have T23 := T22.up hbw9
    clear T22
    go_wp2_with fail
    refine (copy_any a2 nw c2 (ringL k r l wl) w9 (T23.out.1.1.1.2).rk h8w (T23.out.1.1.1.2).nnc.2.2).mono ?_; rintro e w10 ⟨a6, c6, rfl, ho6, hbw10⟩
    have T24 := T23.up hbw10
    clear T23
    have T25 := T24.add (fun wv => wv.ownsRow w9.heap.size 3 1 (.slice a6 nw c6) nw ((ringL k r l wl).map (Value.int .i64))) (ho6)
    clear T24
    clear ho6
    have HS59 : Hid (w5.heap.size ≤ w9.heap.size) := Nat.le_trans hbw6.size (Nat.le_trans hbw7.size (Nat.le_trans hbw8.size hbw9.size))
    have HS10 : Hid (w9.heap.size ≤ w10.heap.size) := hbw10.size
    go_wp2_with fail
    have HF := T25
    have HB0 := Lib.hid (T25.out.1.1.1.1.1.1.1.1.1.1.1.1.2)
    have HX0 := Lib.hid (T25.out.1.1.1.1.1.1.1.2)
    have hgW : W.heap.size ≤ gx := by rw [← HGX.out]; exact HBW0.out.size
    go_loopw [17] (fun ix wr => ∃ (j : Nat) (cur : List Int), j ≤ nw ∧ ix = .int .i64 j ∧ cur = List.replicate j 0 ++ wl.drop j ∧ wr.ownsRow gx 3 1 (.slice (some ⟨gx, 0, none⟩) (nw + 2) (nw + 2)) (nw + 2) ((cur ++ marksI).map (Value.int .i64)) ∧ (∀ b, b ≠ gx → wr.heap[b]? = w10.heap[b]?) ∧ wr.heap.size = w10.heap.size ∧ Below W.heap.size W wr) (fun ix _ => nw - (intOf ix).toNat)
    case atStart => exact ⟨0, wl, by omega, rfl, by simp, HX0.out, fun _ _ => rfl, rfl, HB0.out⟩
    case round =>
      clear T25
      obtain ⟨j, cur, hj, rfl, hcur, hown, hoth, hsz, hb⟩ := hrel
      have HK := Lib.hid (And.intro hoth (And.intro hsz hb))
      have HC := Lib.hid hcur
      have hcl : cur.length = nw := by rw [hcur]; have := HLW.out; simp; omega
      have HCL := Lib.hid hcl
      clear hoth hsz hb hcur
      by_cases hlt : j < nw
      · have c0 : wr.cell? ⟨gx, j, none⟩ = some (.int .i64 ((cur ++ marksI).getD j 0)) := by rw [hown.cellAt j (by omega), map_atR _ _ _ (by simp; omega)]
        have f0 := hown.frozenAt j
        have hst : (wr.setCell ⟨gx, j, none⟩ (.int .i64 0)).ownsRow gx 3 1 (.slice (some ⟨gx, 0, none⟩) (nw + 2) (nw + 2)) (nw + 2) ((cur.set j 0 ++ marksI).map (Value.int .i64)) := by
          have := own_set hown j (.int .i64 0)
          rw [map_set64R, List.set_append_left _ _ (by omega)] at this
          exact this
        have HST := Lib.hid hst
        clear hst hown hcl
        have i0 : (0 : Int) ≤ (j : Int) := by omega
        have i1 : (j : Int) < (nw : Int) := by omega
        have HHJ := Lib.hid hlt
        clear hlt
        generalize (cur ++ marksI).getD j 0 = z at *
        go_wp2
        go_roundw
        case rel => exact ⟨j + 1, _, by omega, by go_num, zero_at HC.out (by rw [HLW.out]; exact HHJ.out), HST.out, fun b hne => (Below.heap_setCell wr ⟨gx, j, none⟩ _ b hne).trans (HK.out.1 b hne), by simp [World.setCell]; exact HK.out.2.1, HK.out.2.2.setCell (p := ⟨gx, j, none⟩) hgW _⟩
        case measure => simp [intOf]; omega
      · skip
        have hj2 : j = nw := by omega
        have hcz : cur = List.replicate nw 0 := by
          have h1 := HC.out
          rw [hj2, List.drop_eq_nil_of_le (by have := HLW.out; omega), List.append_nil] at h1
          exact h1
        have hge : ¬ (j : Int) < (nw : Int) := by omega
        subst hcz
        have hne : ∀ {b1 : Nat} {v : Value} {n1 : Nat} {cs : List Value}, gx < b1 → w10.ownsRow b1 3 1 v n1 cs → wr.ownsRow b1 3 1 v n1 cs := fun {b1 v n1 cs} h0 h => own_of_heap h fun b hb2 => HK.out.1 b (by have := (h.lt b hb2).1; omega)

        have hxr : RK .i64 wr (some ⟨gx, 0, none⟩) nw (List.replicate nw 0) := rk_prefix (RK.of_own hown) (by simp)
        have q1' : gx < w2.heap.size := Nat.lt_of_lt_of_le hx1 s1
        have q2' : gx < w3.heap.size := Nat.lt_of_lt_of_le q1' s2
        have q3' : gx < w4.heap.size := Nat.lt_of_lt_of_le q2' s3
        have q4' : gx < w5.heap.size := Nat.lt_of_lt_of_le q3' s4
        have q5' : gx < w9.heap.size := Nat.lt_of_lt_of_le q4' HS59.out
        have T0 := Tk.nil wr
        have T1 := T0.add (fun wv => Below W.heap.size W wv) (HK.out.2.2)
        clear T0
        have T2 := T1.add (fun wv => RK .i64 wv (some ⟨gx, 0, none⟩) nw (List.replicate nw 0)) (hxr)
        clear T1
        have T3 := T2.add (fun wv => SlI wv aw nw cw wl) (HRW0.out.up HK.out.2.2)
        clear T2
        have T4 := T3.add (fun wv => OwI wv w1.heap.size a1 nw c1 (ringL k r l wl)) (⟨hne hx1 (HF.out.1.1.1.1.1.2).own⟩)
        clear T3
        have T5 := T4.add (fun wv => OwI wv w2.heap.size a2 nw c2 (ringL k r l wl)) (⟨hne q1' (HF.out.1.1.1.1.2).own⟩)
        clear T4
        have T6 := T5.add (fun wv => OwI wv w3.heap.size a3 nw c3 (wl)) (⟨hne q2' (HF.out.1.1.1.2).own⟩)
        clear T5
        have T7 := T6.add (fun wv => OwI wv w4.heap.size a4 nw c4 (rot wl m)) (⟨hne q3' (HF.out.1.1.2).own⟩)
        clear T6
        have T8 := T7.add (fun wv => OwI wv w5.heap.size a5 3 c5 (trR k r l 3 wl)) (⟨hne q4' (HF.out.1.2).own⟩)
        clear T7
        have T9 := T8.add (fun wv => wv.ownsRow w9.heap.size 3 1 (.slice a6 nw c6) nw ((ringL k r l wl).map (Value.int .i64))) (hne q5' (HF.out.2))
        clear T8
        have HSV : Hid (w1.heap.size ≤ wr.heap.size) := by
          show _ ≤ _
          rw [HK.out.2.1]
          exact Nat.le_trans s1 (Nat.le_trans s2 (Nat.le_trans s3 (Nat.le_trans s4 (Nat.le_trans HS59.out HS10.out))))
        clear hne hxr q1' q2' q3' q4' q5' hown hcl HF HX0 HB0 HK HC HCL HRW0
        generalize wr = v0 at *
        go_wp2_with fail
        refine (ints_eqB a1 a6 nw nw c1 c6 (ringL k r l wl) v0 (T9.out.1.1.1.1.1.2).rk (RK.of_own T9.out.2) (by rw [ringL_len]; have := HLW.out; unfold maxLen; omega)).mono ?_; rintro e v1 ⟨rfl, hbv1⟩
        have T10 := T9.up hbv1
        clear T9
        go_wp2_with fail
        refine (ints_eqB a3 aw nw nw c3 cw wl v1 (T10.out.1.1.1.2).rk (T10.out.1.1.1.1.1.1.2).rk (by have := HLW.out; unfold maxLen; omega)).mono ?_; rintro e v2 ⟨rfl, hbv2⟩
        have T11 := T10.up hbv2
        clear T10

        have hpair : [((a1, nw, c1) : ApI.It), (a2, nw, c2), (a3, nw, c3), (a4, nw, c4), (a5, 3, c5)].Pairwise fun x y => Ap (ApI.IV x) (ApI.IV y) := by
          refine .cons (fun y hy => ?_) (.cons (fun y hy => ?_) (.cons (fun y hy => ?_) (.cons (fun y hy => ?_) (.cons (fun y hy => ?_) .nil))))
          · simp only [List.mem_cons, List.not_mem_nil, or_false] at hy
            rcases hy with rfl | rfl | rfl | rfl
            · exact ap_later HO1.out.own HO2.out.own (Nat.le_refl _)
            · exact ap_later HO1.out.own HO3.out.own (s2)
            · exact ap_later HO1.out.own HO4.out.own (Nat.le_trans (s2) s3)
            · exact ap_later HO1.out.own HO5.out.own (Nat.le_trans (Nat.le_trans (s2) s3) s4)
          · simp only [List.mem_cons, List.not_mem_nil, or_false] at hy
            rcases hy with rfl | rfl | rfl
            · exact ap_later HO2.out.own HO3.out.own (Nat.le_refl _)
            · exact ap_later HO2.out.own HO4.out.own (s3)
            · exact ap_later HO2.out.own HO5.out.own (Nat.le_trans (s3) s4)
          · simp only [List.mem_cons, List.not_mem_nil, or_false] at hy
            rcases hy with rfl | rfl
            · exact ap_later HO3.out.own HO4.out.own (Nat.le_refl _)
            · exact ap_later HO3.out.own HO5.out.own (s4)
          · simp only [List.mem_cons, List.not_mem_nil, or_false] at hy
            rcases hy with rfl
            · exact ap_later HO4.out.own HO5.out.own (Nat.le_refl _)
          · cases hy
        have hown : ∀ x ∈ [((a1, nw, c1) : ApI.It), (a2, nw, c2), (a3, nw, c3), (a4, nw, c4), (a5, 3, c5)], (∃ xs, v2.ownsRow w1.heap.size 3 1 (ApI.IV x) x.2.1 xs) ∧ x.2.1 * 8 ≤ 140737488350000 := by
          intro x hx
          simp only [List.mem_cons, List.not_mem_nil, or_false] at hx
          rcases hx with rfl | rfl | rfl | rfl | rfl
          · exact ⟨⟨_, ((T11.out.1.1.1.1.1.2).base (Nat.le_refl _)).own⟩, by show nw * 8 ≤ _; omega⟩
          · exact ⟨⟨_, ((T11.out.1.1.1.1.2).base (s1)).own⟩, by show nw * 8 ≤ _; omega⟩
          · exact ⟨⟨_, ((T11.out.1.1.1.2).base (Nat.le_trans (s1) s2)).own⟩, by show nw * 8 ≤ _; omega⟩
          · exact ⟨⟨_, ((T11.out.1.1.2).base (Nat.le_trans (Nat.le_trans (s1) s2) s3)).own⟩, by show nw * 8 ≤ _; omega⟩
          · exact ⟨⟨_, ((T11.out.1.2).base (Nat.le_trans (Nat.le_trans (Nat.le_trans (s1) s2) s3) s4)).own⟩, by show 3 * 8 ≤ _; omega⟩
        have HPAIR := Lib.hid hpair
        have HOWN := Lib.hid hown
        obtain ⟨ZC, hzl, hmk⟩ := mkInts nw (by omega)
        have HZL := Lib.hid hzl
        have s1v : w1.heap.size ≤ v2.heap.size := by
          exact Nat.le_trans HSV.out (Nat.le_trans hbv1.size hbv2.size)
        clear hpair hown hzl s1 s2 s3 s4 s5
        go_wp2_with fail
        refine (ApI.apart_lit _ w1.heap.size 5 5 [((a1, nw, c1) : ApI.It), (a2, nw, c2), (a3, nw, c3), (a4, nw, c4), (a5, 3, c5)] v2 _ 22 rfl rfl rfl s1v HPAIR.out (fun x hx => (HOWN.out x hx).1) (fun x hx => (HOWN.out x hx).2) (by simp)).mono ?_; rintro e v3 ⟨rfl, hb3, ho3⟩
        have hb3W := (T11.out.1.1.1.1.1.1.1.1.2).trans (hb3.mono HW1.out)
        have hnx : ∀ x ∈ [((a1, nw, c1) : ApI.It), (a2, nw, c2), (a3, nw, c3), (a4, nw, c4), (a5, 3, c5)], (ApI.IV x).ownBlock ≠ some gx := by
          intro x hx e
          obtain ⟨xs, h⟩ := (HOWN.out x hx).1
          have := (h.lt gx e).1
          omega
        have hx3 : RK .i64 v3 (some ⟨gx, 0, none⟩) nw (List.replicate nw 0) := rk_of_heap (T11.out.1.1.1.1.1.1.1.2) (ho3 gx (Nat.lt_of_lt_of_le hx1 s1v) hnx) hb3.size
        have HB3 := Lib.hid hb3W
        have HX3 := Lib.hid hx3
        clear hb3 ho3 hb3W hx3 hnx
        go_wp2_with fail
        refine (ints_eqB (some ⟨gx, 0, none⟩) (some ⟨v3.heap.size, 0, none⟩) nw nw (nw + 2) nw (List.replicate nw 0) _ (HX3.out.up (balloc (bnil v3) _)) (rk_made HZL.out (by simp)) (by simp; unfold maxLen; omega)).mono ?_; rintro e v4 ⟨rfl, hb4⟩
        go_wp2
        go_ret
        exact ⟨rfl, (balloc HB3.out _).trans (hb4.mono (by have := HB3.out.size; simp; omega))⟩
  · skip
    have hno : ∀ kn rn : Nat, k = kn → r = rn → IsRule kn rn l → ¬ IsRing kn wl := fun kn rn h1 h2 h3 h4 => hok ⟨kn, rn, h1, h2, h3, h4⟩
    have HNO := Lib.hid hno
    clear hno hok
    have v_p0 : w1.cell? ⟨W.heap.size, 0, none⟩ = some (.int .i64 k) := T10.out.1.1.2.1
    have v_p1 : w1.cell? ⟨W.heap.size, 1, none⟩ = some (.int .i64 r) := T10.out.1.1.2.2.1
    have v_p2 : w1.cell? ⟨W.heap.size, 2, none⟩ = some (.slice a n c) := T10.out.1.1.2.2.2
    go_wp2_with fail
    refine (ringstep_err k r a n c l (some ⟨gx, 0, none⟩) nw (nw + 2) wl w1 R (T10.out.1.1.1.1.1.2).glob T10.out.1.1.1.1.2 hnm (T10.out.2).rk hmw HNO.out).mono ?_; rintro e w2 ⟨g9, rfl, hbw2⟩
    clear v_p0 v_p1 v_p2
    have T11 := T10.up hbw2
    clear T10
    go_wp2_with fail
    refine (kept_any gx nw (nw + 2) cw aw wl w2 (RK.of_own T11.out.1.2) (by omega) (by unfold maxLen; omega) (T11.out.1.1.1.2).rk h8w).mono ?_; rintro e w3 ⟨rfl, hbw3⟩
    have T12 := T11.up hbw3
    clear T11
    go_wp2
    go_ret
    exact ⟨rfl, T12.out.1.1.1.1.1.1.2⟩
theorem ring_keeps_row (k r : Int) (a : Option Addr) (n c : Nat) (l : List Int) (aw : Option Addr) (cw : Nat) (wl : List Int) (W : World) (R : Nat → Addr) (hE : Sent W R) (hR : RK .i64 W a n l) (hnc : n ≤ c) (hcm : c ≤ maxLen)
    (hR1 : Rd W aw wl.length 1 (wl.map (Value.int .i64))) (hl1 : wl.length ≤ cw) (hz1 : cw * 8 ≤ 140737488351232) (hn1 : aw = none → cw = 0) (hx1 : ∀ x ∈ wl, -9223372036854775808 ≤ x ∧ x ≤ 9223372036854775807) :
    Calls Tryd.prog 4 #[ruleV k r a n c, .slice aw wl.length cw] W (TrueBelow W) :=
  ring_keeps k r a n c l aw wl.length cw wl W R hE hR (Nat.le_trans hnc hcm) ⟨⟨rfl, hR1⟩, hl1, by omega, by unfold maxLen; omega, hn1⟩
end Go.Proofs.YtjgblanpaanglaaDoor
