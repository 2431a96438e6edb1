/- The contracts of count.Rings and count.Fixed where nothing is refused. -/
import Derived.Test.YtmdicmcmalmbaaaDoorCountD
namespace Go.Proofs.YtmdicmcmalmbaaaDoor
open Go.RowKit
set_option linter.unusedVariables false
set_option maxRecDepth 100000

set_option maxHeartbeats 1000000 in
theorem rings_pred (k r : Int) (a aw : Option Addr) (T c n cw : Nat) (tb wl : List Int) (gb gw : Nat) (w : World) (hT : RK .i64 w a T tb) (hW : RK .i64 w aw n wl) (h0 : gb < w.heap.size) (h1 : gw < w.heap.size) (h2 : w.cell? ⟨gb, 2, none⟩ = some (.slice a T c)) (h3 : w.cell? ⟨gw, 0, none⟩ = some (.slice aw n cw)) :
    Pred2 86 #[.pointer (some ⟨gb, 0, none⟩), .pointer (some ⟨gw, 0, none⟩)] (fitW tb wl) n T w := by
  intro W x y hb hx hy
  have x2 := (hb.cell (p := ⟨gb, 2, none⟩) h0).trans h2
  have x3 := (hb.cell (p := ⟨gw, 0, none⟩) h1).trans h3
  obtain ⟨b1, o1, rfl, _, hc1⟩ := (hT.up hb).addr (by omega)
  obtain ⟨b2, o2, rfl, _, hc2⟩ := (hW.up hb).addr (by omega)
  have y1 := hc1 y hy
  have y2 := hc2 x hx
  have e : fitW tb wl x y = decide (tb.getD y 0 = wl.getD x 0) := rfl
  rw [e]
  clear hc1 hc2 h2 h3 hT hW e hb
  generalize tb.getD y 0 = u at *
  generalize wl.getD x 0 = v at *
  have i0 : (0 : Int) ≤ (x : Int) := by omega
  have i1 : (x : Int) < (n : Int) := by omega
  have j0 : (0 : Int) ≤ (y : Int) := by omega
  have j1 : (y : Int) < (T : Int) := by omega
  show Calls Tryd.prog 86 #[.int .i64 x, .int .i64 y, .pointer (some ⟨gb, 0, none⟩), .pointer (some ⟨gw, 0, none⟩)] W _
  go_enter Tryd.func86, Tryd.ntmps86
  go_wp2_with fail
  go_quiet (fail)
  go_wp2
  go_ret
  exact ⟨by first | rfl | simp, nq, rfl⟩

/-- the window's symbol stays the one in its midst -/
def fitF (k wt : Nat) (tb : List Int) (x y : Nat) : Bool := decide (tb.getD y 0 = ((y / wt % k : Nat) : Int))
set_option maxHeartbeats 1000000 in
theorem fixed_pred (k wt : Nat) (r : Int) (a : Option Addr) (T c n : Nat) (tb : List Int) (gb gw : Nat) (w : World) (hk : 1 ≤ k) (hk4 : k ≤ 4) (hwt : 1 ≤ wt) (hwt2 : wt ≤ 16384) (hT4 : T ≤ 16384) (hT : RK .i64 w a T tb) (h0 : gb < w.heap.size) (h1 : gw < w.heap.size) (hk0 : w.cell? ⟨gb, 0, none⟩ = some (.int .i64 k)) (h2 : w.cell? ⟨gb, 2, none⟩ = some (.slice a T c)) (h3 : w.cell? ⟨gw, 0, none⟩ = some (.int .i64 wt)) :
    Pred2 87 #[.pointer (some ⟨gb, 0, none⟩), .pointer (some ⟨gw, 0, none⟩)] (fitF k wt tb) n T w := by
  intro W x y hb hx hy
  have x0 := (hb.cell (p := ⟨gb, 0, none⟩) h0).trans hk0
  have x2 := (hb.cell (p := ⟨gb, 2, none⟩) h0).trans h2
  have x3 := (hb.cell (p := ⟨gw, 0, none⟩) h1).trans h3
  obtain ⟨b1, o1, rfl, _, hc1⟩ := (hT.up hb).addr (by omega)
  have y1 := hc1 y hy
  obtain ⟨d, hd, hde⟩ : ∃ d : Nat, (y : Int).tdiv (wt : Int) = (d : Int) ∧ d = y / wt := ⟨y / wt, by rw [Int.tdiv_eq_ediv_of_nonneg (by omega)]; simp, rfl⟩
  have hdle : d ≤ 16384 := by rw [hde]; exact Nat.le_trans (Nat.div_le_self _ _) (by omega)
  obtain ⟨m, hm, hme⟩ : ∃ m : Nat, (d : Int).tmod (k : Int) = (m : Int) ∧ m = d % k := ⟨d % k, by rw [Int.tmod_eq_emod_of_nonneg (by omega)]; simp, rfl⟩
  have e : fitF k wt tb x y = decide (tb.getD y 0 = (m : Int)) := by unfold fitF; rw [← hde, ← hme]
  rw [e]
  have hde' : ((y : Int) / (wt : Int)) = (d : Int) := by rw [← Int.tdiv_eq_ediv_of_nonneg (by omega)]; exact hd
  have hme' : ((d : Int) % (k : Int)) = (m : Int) := by rw [← Int.tmod_eq_emod_of_nonneg (by omega)]; exact hm
  clear hc1 h2 h3 hk0 hT e hb hde hme
  generalize tb.getD y 0 = u at *
  have j0 : (0 : Int) ≤ (y : Int) := by omega
  have j1 : (y : Int) < (T : Int) := by omega
  have d0 : (0 : Int) ≤ (d : Int) := by omega
  have t2 : IntKind.i64.wrap (d : Int) = (d : Int) := IntWalk.i64_in _ (by omega)
  have t3 : IntKind.i64.wrap ((y : Int).tdiv (wt : Int)) = (d : Int) := by rw [hd]; exact t2
  have t4 : ((k : Int) == 0) = false := by rw [beq_eq_false_iff_ne]; omega
  have t5 : ((wt : Int) == 0) = false := by rw [beq_eq_false_iff_ne]; omega
  have K0 : (0 : Int) < (k : Int) := by omega
  have W0 : (0 : Int) < (wt : Int) := by omega
  show Calls Tryd.prog 87 #[.int .i64 x, .int .i64 y, .pointer (some ⟨gb, 0, none⟩), .pointer (some ⟨gw, 0, none⟩)] W _
  go_enter Tryd.func87, Tryd.ntmps87
  go_wp2_with fail
  go_quiet (fail)
  go_wp2
  go_ret
  exact ⟨by first | rfl | simp, nq, rfl⟩

set_option maxHeartbeats 4000000 in
theorem countRings_ok (k r : Nat) (a aw : Option Addr) (n c nw cw : Nat) (l wl : List Int) (W : World) (R : Nat → Addr) (hG : Glob W R) (hR : RK .i64 W a n l) (hW : RK .i64 W aw nw wl) (h : IsRule k r l) (hn : n ≤ 256) (hnc : n ≤ c) (hcm : c ≤ maxLen) (hn0 : 0 < nw) (hnw : nw ≤ 64) (hs : ∀ x ∈ wl, 0 ≤ x ∧ x < (k : Int)) :
    Calls Tryd.prog 41 #[ruleV k r a n c, .slice aw nw cw] W fun e w' => ∃ a' n' c', e = .returned (.tuple #[.slice a' n' c', .nilIface]) ∧ OwN w' W.heap.size (a', n', c') (limbs (ringsC k (k ^ (2 * r)) n nw (fitW l wl) (k ^ (2 * r)))) ∧ Below W.heap.size W w' := by
  have hnod := h.nodes hR.len
  have k1 := h.k1
  have k4 := h.k4
  have HND := Lib.hid hnod; clear hnod
  have H := Lib.hid h; clear h
  have HS := Lib.hid hs; clear hs
  have HG := Lib.hid hG; clear hG
  have HR := Lib.hid hR; clear hR
  have HW := Lib.hid hW; clear hW
  have hw0 : ((nw : Int) == 0) = false := by rw [beq_eq_false_iff_ne]; omega
  obtain ⟨Wb, hWb⟩ : ∃ Wb, (W.alloc (.cells #[.int .i64 k, .int .i64 r, .slice a n c] 66)).alloc (.cells #[.slice aw nw cw] 48) = Wb := ⟨_, rfl⟩
  have HX : Hid (Wb.cell? ⟨W.heap.size, 0, none⟩ = some (.int .i64 k) ∧ Wb.cell? ⟨W.heap.size, 1, none⟩ = some (.int .i64 r) ∧ Wb.cell? ⟨W.heap.size, 2, none⟩ = some (.slice a n c) ∧ Wb.cell? ⟨W.heap.size + 1, 0, none⟩ = some (.slice aw nw cw)) := by rw [← hWb]; exact ⟨by simp, by simp, by simp, by simp⟩
  have HSZ : Hid (Wb.heap.size = W.heap.size + 2) := by show _ = _; rw [← hWb]; simp
  have HBX : Hid (Below W.heap.size W Wb) := by rw [← hWb]; exact balloc (balloc (bnil W) _) _
  have HWB := Lib.hid hWb; clear hWb
  have eg : ∀ args w, (callFunc 86 args).run Tryd.prog w = .ok (.enter 86 args) w := enters_of Tryd.func86 (by kernel_rfl) rfl
  have EG := Lib.hid eg; clear eg
  have hmf : ∀ (fn : Fn) (first cap : Array Value) (w : World), (Instr.makeFunc fn first cap).run Tryd.prog w = .ok (.func fn first cap) w := fun _ _ _ _ => rfl
  go_enter Tryd.func41, Tryd.ntmps41
  go_wp2_with fail
  rw [HWB.out]
  refine (csmall_ok k r a n c l _ (HR.out.up HBX.out) H.out hn).mono ?_; rintro e w2 ⟨rfl, hb2⟩
  have s0 : W.heap.size < Wb.heap.size := by rw [HSZ.out]; omega
  have s1 : W.heap.size + 1 < Wb.heap.size := by rw [HSZ.out]; omega
  have HS0 := Lib.hid s0
  have HS1 := Lib.hid s1
  clear s0 s1
  have x0 := (hb2.cell (p := ⟨W.heap.size, 0, none⟩) HS0.out).trans HX.out.1
  have x3 := (hb2.cell (p := ⟨W.heap.size + 1, 0, none⟩) HS1.out).trans HX.out.2.2.2
  have hb2W := HBX.out.trans (hb2.mono HBX.out.size)
  go_wp2_with fail
  refine (symbols_any (k : Int) aw nw cw 64 wl _ R (HG.out.up hb2W) (HW.out.up hb2W) (by unfold maxLen; omega) (by decide)).mono ?_; rintro e w3 hp3
  rcases hp3 with ⟨_, rfl, hb3⟩ | ⟨hno, _⟩
  · have hb23 := bstep hb2 hb3
    have y0 := (hb23.cell (p := ⟨W.heap.size, 0, none⟩) HS0.out).trans HX.out.1
    have y1 := (hb23.cell (p := ⟨W.heap.size, 1, none⟩) HS0.out).trans HX.out.2.1
    have y2 := (hb23.cell (p := ⟨W.heap.size, 2, none⟩) HS0.out).trans HX.out.2.2.1
    have y3 := (hb23.cell (p := ⟨W.heap.size + 1, 0, none⟩) HS1.out).trans HX.out.2.2.2
    have hb3W := bstep hb2W hb3
    have hPr := rings_pred k r a aw n c nw cw l wl W.heap.size (W.heap.size + 1) w3 (HR.out.up hb3W) (HW.out.up hb3W) (Nat.lt_of_lt_of_le HS0.out hb23.size) (Nat.lt_of_lt_of_le HS1.out hb23.size) y2 y3
    have HPR := Lib.hid hPr
    clear x0 x3 hPr
    go_wp2_with fail
    refine (rings_any k r a n c nw (k ^ (2 * r)) 86 _ (fitW l wl) _ k1 k4 HND.out.1 HND.out.2.1 (by omega) hnc hcm (by omega) EG.out HPR.out).mono ?_; rintro e w4 ⟨a4, n4, c4, rfl, ho4, hb4⟩
    have HO := Lib.hid (OwN.base (b' := W.heap.size) ho4 hb3W.size)
    clear ho4
    go_wp2
    go_ret2
    exact ⟨_, _, _, rfl, HO.out, bstep hb3W hb4⟩
  · exact absurd ⟨hnw, HS.out⟩ hno

set_option maxHeartbeats 4000000 in
theorem countFixed_ok (k r : Nat) (a : Option Addr) (n c m : Nat) (l : List Int) (W : World) (hR : RK .i64 W a n l) (h : IsRule k r l) (hn : n ≤ 256) (hnc : n ≤ c) (hcm : c ≤ maxLen) (hm0 : 1 ≤ m) (hm : m ≤ 64) :
    Calls Tryd.prog 42 #[ruleV k r a n c, .int .i64 m] W fun e w' => ∃ a' n' c', e = .returned (.tuple #[.slice a' n' c', .nilIface]) ∧ OwN w' W.heap.size (a', n', c') (limbs (ringsC k (k ^ (2 * r)) n m (fitF k (k ^ r) l) (k ^ (2 * r)))) ∧ Below W.heap.size W w' := by
  have hnod := h.nodes hR.len
  have k1 := h.k1
  have k4 := h.k4
  have r3 := h.r3
  have HND := Lib.hid hnod; clear hnod
  have H := Lib.hid h; clear h
  have HR := Lib.hid hR; clear hR
  obtain ⟨Wb, hWb⟩ : ∃ Wb, W.alloc (.cells #[.int .i64 k, .int .i64 r, .slice a n c] 66) = Wb := ⟨_, rfl⟩
  have HX : Hid (Wb.cell? ⟨W.heap.size, 0, none⟩ = some (.int .i64 k) ∧ Wb.cell? ⟨W.heap.size, 1, none⟩ = some (.int .i64 r) ∧ Wb.cell? ⟨W.heap.size, 2, none⟩ = some (.slice a n c)) := by rw [← hWb]; exact ⟨by simp, by simp, by simp⟩
  have HSZ : Hid (W.heap.size < Wb.heap.size) := by show _ < _; rw [← hWb]; simp
  have HBX : Hid (Below W.heap.size W Wb) := by rw [← hWb]; exact balloc (bnil W) _
  have HWB := Lib.hid hWb; clear hWb
  have eg : ∀ args w, (callFunc 87 args).run Tryd.prog w = .ok (.enter 87 args) w := enters_of Tryd.func87 (by kernel_rfl) rfl
  have EG := Lib.hid eg; clear eg
  have hmf : ∀ (fn : Fn) (first cap : Array Value) (w : World), (Instr.makeFunc fn first cap).run Tryd.prog w = .ok (.func fn first cap) w := fun _ _ _ _ => rfl
  go_enter Tryd.func42, Tryd.ntmps42
  go_wp2_with fail
  rw [HWB.out]
  refine (csmall_ok k r a n c l _ (HR.out.up HBX.out) H.out hn).mono ?_; rintro e w2 ⟨rfl, hb2⟩
  obtain ⟨gb, hgb⟩ : ∃ gb, W.heap.size = gb := ⟨_, rfl⟩
  have x0 := (hb2.cell (p := ⟨W.heap.size, 0, none⟩) HSZ.out).trans HX.out.1
  have x1 := (hb2.cell (p := ⟨W.heap.size, 1, none⟩) HSZ.out).trans HX.out.2.1
  have x2 := (hb2.cell (p := ⟨W.heap.size, 2, none⟩) HSZ.out).trans HX.out.2.2
  have hb2W := HBX.out.trans (hb2.mono HBX.out.size)
  have hg2 : gb < w2.heap.size := by rw [← hgb]; exact Nat.lt_of_lt_of_le HSZ.out hb2.size
  rw [hgb] at x0 x1 x2
  simp only [hgb]
  have HG2 := Lib.hid hg2
  have HGB := Lib.hid hgb
  have HB2 := Lib.hid hb2W
  clear hgb hg2 hb2 hb2W
  have y0 : ∀ o : Obj, (w2.alloc o).cell? ⟨gb, 0, none⟩ = some (.int .i64 k) := fun o => ((balloc (bnil w2) o).cell (p := ⟨gb, 0, none⟩) HG2.out).trans x0
  have y1 : ∀ o : Obj, (w2.alloc o).cell? ⟨gb, 1, none⟩ = some (.int .i64 r) := fun o => ((balloc (bnil w2) o).cell (p := ⟨gb, 1, none⟩) HG2.out).trans x1
  have y2 : ∀ o : Obj, (w2.alloc o).cell? ⟨gb, 2, none⟩ = some (.slice a n c) := fun o => ((balloc (bnil w2) o).cell (p := ⟨gb, 2, none⟩) HG2.out).trans x2
  clear x0 x1 x2
  go_wp2_with fail
  go_loopw [23] (fun ix wr => ∃ i wt : Nat, i ≤ r ∧ ix = .int .i64 i ∧ Hid (wt = k ^ i) ∧ wr = w2.alloc (.cells #[.int .i64 wt] 3)) (fun ix _ => r - (intOf ix).toNat)
  case atStart => exact ⟨0, 1, by omega, rfl, (Nat.pow_zero k).symm, rfl⟩
  case round =>
    obtain ⟨i, wt, hi, rfl, HWT, rfl⟩ := hrel
    have hwt : wt ≤ 16384 := by rw [HWT.out]; exact rpow_le k4 (by omega)
    by_cases hir : i < r
    · have hpk : wt * k ≤ 16384 * 4 := Nat.mul_le_mul hwt k4
      have q0 : (0 : Int) ≤ (wt : Int) * (k : Int) := by rw [← Int.natCast_mul]; omega
      have q1 : (wt : Int) * (k : Int) ≤ 65536 := by rw [← Int.natCast_mul]; omega
      have HN : Hid (wt * k = k ^ (i + 1)) := by show _ = _; rw [HWT.out, ← Nat.pow_succ]
      go_wp2
      go_roundw
      case rel => exact ⟨i + 1, wt * k, by omega, by go_num, HN.out, by simp⟩
      case measure => simp [intOf]; omega
    · obtain rfl : r = i := by omega
      have hWr := balloc HB2.out (.cells #[.int .i64 wt] 3)
      have hPr := fixed_pred k wt r a n c m l gb w2.heap.size (w2.alloc (.cells #[.int .i64 wt] 3)) k1 k4 (by rw [HWT.out]; exact Nat.pow_pos k1) hwt (by omega) (HR.out.up hWr) (by have := HG2.out; simp; omega) (by simp) (y0 _) (y2 _) (by simp)
      have HPR := Lib.hid hPr
      have HWr := Lib.hid hWr
      clear hPr hWr
      go_wp2_with fail
      refine (rings_any k r a n c m (k ^ (2 * r)) 87 _ (fitF k wt l) _ k1 k4 HND.out.1 HND.out.2.1 (by omega) hnc hcm (by omega) EG.out HPR.out).mono ?_; rintro e w4 ⟨a4, n4, c4, rfl, ho4, hb4⟩
      have ho := OwN.base (b' := W.heap.size) ho4 HWr.out.size
      rw [HWT.out] at ho
      have HO := Lib.hid ho
      have HB4 := Lib.hid (HWr.out.trans (hb4.mono HWr.out.size))
      clear ho4 ho hb4
      go_wp2
      go_ret2
      exact ⟨_, _, _, rfl, HO.out, HB4.out⟩
end Go.Proofs.YtmdicmcmalmbaaaDoor
