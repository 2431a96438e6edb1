/- plane.moved, plane.Even for any numbers. -/
import Derived.Test.YtoaooblodgejdaaDoorPlaX
import Derived.Test.YtoaooblodgejdaaDoorBitI
import Derived.Test.YtoaooblodgejdaaDoorPatX
namespace Go.Proofs.YtoaooblodgejdaaDoor
open Go.RowKit
set_option linter.unusedVariables false
set_option maxRecDepth 100000

theorem idx9 (k : Nat) (hk : k < 9) (f0 f1 f2 f3 f4 f5 f6 f7 f8 : Nat) (w : World) :
    (Instr.index 117 (.agg #[.int .i64 (f0 : Nat), .int .i64 (f1 : Nat), .int .i64 (f2 : Nat), .int .i64 (f3 : Nat), .int .i64 (f4 : Nat), .int .i64 (f5 : Nat), .int .i64 (f6 : Nat), .int .i64 (f7 : Nat), .int .i64 (f8 : Nat)]) (.int .i64 (k : Int))).run Tryd.prog w = .ok (.int .i64 ((([f0, f1, f2, f3, f4, f5, f6, f7, f8] : List Nat).getD k 0 : Nat) : Int)) w := by
  have h : Tryd.prog.underlying 117 = some (.array 9 3) := by kernel_rfl
  have hj : k = 0 ∨ k = 1 ∨ k = 2 ∨ k = 3 ∨ k = 4 ∨ k = 5 ∨ k = 6 ∨ k = 7 ∨ k = 8 := by omega
  rcases hj with rfl | rfl | rfl | rfl | rfl | rfl | rfl | rfl | rfl
  all_goals simp [Instr.index, run_underlying h, asIntOf, go_sem]
theorem get9 {f0 f1 f2 f3 f4 f5 f6 f7 f8 : Nat} (h0 : f0 ≤ 8) (h1 : f1 ≤ 8) (h2 : f2 ≤ 8) (h3 : f3 ≤ 8) (h4 : f4 ≤ 8) (h5 : f5 ≤ 8) (h6 : f6 ≤ 8) (h7 : f7 ≤ 8) (h8 : f8 ≤ 8) {k : Nat} (hk : k < 9) : ([f0, f1, f2, f3, f4, f5, f6, f7, f8] : List Nat).getD k 0 ≤ 8 := by
  have hj : k = 0 ∨ k = 1 ∨ k = 2 ∨ k = 3 ∨ k = 4 ∨ k = 5 ∨ k = 6 ∨ k = 7 ∨ k = 8 := by omega
  rcases hj with rfl | rfl | rfl | rfl | rfl | rfl | rfl | rfl | rfl <;> assumption
set_option maxHeartbeats 4000000 in
theorem moved_any (win : Nat) (hw : win < 512) (f0 f1 f2 f3 f4 f5 f6 f7 f8 : Nat) (h0 : f0 ≤ 8) (h1 : f1 ≤ 8) (h2 : f2 ≤ 8) (h3 : f3 ≤ 8) (h4 : f4 ≤ 8) (h5 : f5 ≤ 8) (h6 : f6 ≤ 8) (h7 : f7 ≤ 8) (h8 : f8 ≤ 8) (W : World) :
    Calls Tryd.prog 70 #[.int .i64 (win : Nat), .agg #[.int .i64 (f0 : Nat), .int .i64 (f1 : Nat), .int .i64 (f2 : Nat), .int .i64 (f3 : Nat), .int .i64 (f4 : Nat), .int .i64 (f5 : Nat), .int .i64 (f6 : Nat), .int .i64 (f7 : Nat), .int .i64 (f8 : Nat)]] W fun e w' => e = .returned (.int .i64 (mvT (fun k => ([f0, f1, f2, f3, f4, f5, f6, f7, f8] : List Nat).getD k 0) win 9 : Nat)) ∧ Below W.heap.size W w' := by
  have HG : Hid (∀ k : Nat, k < 9 → ([f0, f1, f2, f3, f4, f5, f6, f7, f8] : List Nat).getD k 0 ≤ 8) := fun k hk => get9 h0 h1 h2 h3 h4 h5 h6 h7 h8 hk
  clear h0 h1 h2 h3 h4 h5 h6 h7 h8
  go_enter Tryd.func70, Tryd.ntmps70
  go_wp2
  obtain ⟨Wb, hWb⟩ : ∃ Wb, W.alloc (.cells #[.int .i64 (f0 : Nat), .int .i64 (f1 : Nat), .int .i64 (f2 : Nat), .int .i64 (f3 : Nat), .int .i64 (f4 : Nat), .int .i64 (f5 : Nat), .int .i64 (f6 : Nat), .int .i64 (f7 : Nat), .int .i64 (f8 : Nat)] 117) = Wb := ⟨_, rfl⟩
  have HB : Hid (Below W.heap.size W Wb) := by rw [← hWb]; exact balloc (bnil W) _
  rw [hWb]
  clear hWb
  go_loop [5, 9] (fun nx ix => ∃ k : Nat, k ≤ 9 ∧ ix = .int .i64 (k : Nat) ∧ nx = .int .i64 (mvT (fun k => ([f0, f1, f2, f3, f4, f5, f6, f7, f8] : List Nat).getD k 0) win k : Nat)) (fun _ ix => 9 - (intOf ix).toNat)
  case atStart => exact ⟨0, by omega, rfl, rfl⟩
  case round =>
    obtain ⟨k, hk, rfl, rfl⟩ := hrel
    by_cases hlt : k < 9
    · have eix := idx9 k hlt f0 f1 f2 f3 f4 f5 f6 f7 f8 Wb
      have hf := HG.out k hlt
      have HM : Hid (mvT (fun k => ([f0, f1, f2, f3, f4, f5, f6, f7, f8] : List Nat).getD k 0) win (k + 1) = 2 * mvT (fun k => ([f0, f1, f2, f3, f4, f5, f6, f7, f8] : List Nat).getD k 0) win k + win / 2 ^ (8 - ([f0, f1, f2, f3, f4, f5, f6, f7, f8] : List Nat).getD k 0) % 2) := rfl
      have hb := mvT_lt (fun k => ([f0, f1, f2, f3, f4, f5, f6, f7, f8] : List Nat).getD k 0) win k
      have hp : 2 ^ k ≤ 256 := by
        have := Nat.pow_le_pow_right (n := 2) (by omega) (show k ≤ 8 by omega)
        have h9 : (2 : Nat) ^ 8 = 256 := by decide
        omega
      have hb2 : mvT (fun k => ([f0, f1, f2, f3, f4, f5, f6, f7, f8] : List Nat).getD k 0) win k ≤ 256 := by omega
      generalize ([f0, f1, f2, f3, f4, f5, f6, f7, f8] : List Nat).getD k 0 = P at *
      generalize mvT (fun k => ([f0, f1, f2, f3, f4, f5, f6, f7, f8] : List Nat).getD k 0) win k = N at *
      obtain ⟨E, hE⟩ : ∃ E, 8 - P = E := ⟨_, rfl⟩
      rw [hE] at HM
      have hEI : (8 : Int) - (P : Int) = (E : Int) := by omega
      have hEw : IntKind.i64.wrap (E : Int) = (E : Int) := IntWalk.i64_in _ (by omega)
      have e0 : (0 : Int) ≤ (E : Int) := by omega
      have e1 : (E : Int) ≤ 64 := by omega
      obtain ⟨v, hv⟩ : ∃ v, win / 2 ^ E = v := ⟨_, rfl⟩
      have hvI : (win : Int) / 2 ^ E = (v : Int) := by rw [← hv, Int.natCast_ediv, Int.natCast_pow]; rfl
      have hv2 : v < 512 := by rw [← hv]; exact Nat.lt_of_le_of_lt (Nat.div_le_self _ _) hw
      rw [hv] at HM
      have ha := and1_i64 (a := v) (by omega)
      have hz : v % 2 ≤ 1 := by omega
      generalize v % 2 = z at *
      clear hv hE hb hp hf
      go_wp2
      go_round
      case rel => exact ⟨k + 1, by omega, by go_num, by rw [HM.out]; go_num⟩
      case measure => simp [intOf]; omega
    · obtain rfl : k = 9 := by omega
      go_wp2
      go_ret
      exact ⟨rfl, HB.out⟩
theorem moved_q (win : Nat) (hw : win < 512) (W : World) : Calls Tryd.prog 70 #[.int .i64 (win : Nat), .agg #[.int .i64 6, .int .i64 3, .int .i64 0, .int .i64 7, .int .i64 4, .int .i64 1, .int .i64 8, .int .i64 5, .int .i64 2]] W fun e w' => e = .returned (.int .i64 (mvT qF win 9 : Nat)) ∧ Below W.heap.size W w' :=
  moved_any win hw 6 3 0 7 4 1 8 5 2 (by omega) (by omega) (by omega) (by omega) (by omega) (by omega) (by omega) (by omega) (by omega) W
theorem moved_m (win : Nat) (hw : win < 512) (W : World) : Calls Tryd.prog 70 #[.int .i64 (win : Nat), .agg #[.int .i64 2, .int .i64 1, .int .i64 0, .int .i64 5, .int .i64 4, .int .i64 3, .int .i64 8, .int .i64 7, .int .i64 6]] W fun e w' => e = .returned (.int .i64 (mvT mF win 9 : Nat)) ∧ Below W.heap.size W w' :=
  moved_any win hw 2 1 0 5 4 3 8 7 6 (by omega) (by omega) (by omega) (by omega) (by omega) (by omega) (by omega) (by omega) (by omega) W
def evenO (t : List Int) : Bool := decide (tabD t = none) && evB t
def EvRet (R : Nat → Addr) (W : World) (b : Bool) (x : ErrD) (e : Ending) (w' : World) : Prop := ∃ ev, e = .returned (.tuple #[.bool b, ev]) ∧ EC R w' ev x ∧ Below W.heap.size W w'
theorem evenO_er {t : List Int} (h : tabD t ≠ none) : evenO t = false := by unfold evenO; rw [decide_eq_false h]; rfl
theorem evenO_ok {t : List Int} (h : tabD t = none) : evenO t = evB t := by unfold evenO; rw [decide_eq_true h]; rfl
set_option maxHeartbeats 16000000 in
theorem even_any (a : Option Addr) (n c : Nat) (t : List Int) (W : World) (R : Nat → Addr) (hS : Sent W R) (hT : RK .i64 W a n t) (hm : n ≤ maxLen) :
    Calls Tryd.prog 25 #[.slice a n c] W (EvRet R W (evenO t) (tabD t)) := by
  have T0 := Tk.nil W
  have T1 := T0.add (fun wv => Below W.heap.size W wv) (bnil W)
  clear T0
  have T2 := T1.add (fun wv => Sent wv R) (hS)
  clear T1
  have T3 := T2.add (fun wv => RK .i64 wv a n t) (hT)
  clear T2
  clear hS hT
  by_cases htd : tabD t ≠ none
  · skip
    have HO := Lib.hid (evenO_er htd)
    have HTD := Lib.hid htd
    clear htd
    go_enter Tryd.func25, Tryd.ntmps25
    go_wp2_with fail
    refine (plcheck_er a n c t W R T3.out.1.2 T3.out.2 hm HTD.out).mono ?_; rintro e w1 ⟨g, rfl, he, hbw1⟩
    have T4 := T3.up hbw1
    clear T3
    have HEC := Lib.hid he
    clear he
    go_wp2
    go_ret2
    rw [HO.out]
    exact ⟨_, rfl, HEC.out, T4.out.1.1.2⟩
  have ht0 : tabD t = none := Decidable.byContradiction htd
  have HO := Lib.hid (evenO_ok ht0)
  have HT := Lib.hid (tabD_none ht0)
  have HT0 := Lib.hid ht0
  clear htd ht0
  obtain rfl : n = 512 := (T3.out.2).len.trans HT.out.len
  go_enter Tryd.func25, Tryd.ntmps25
  go_wp2_with fail
  refine (plcheck_ok a 512 c t W R T3.out.1.2 T3.out.2 hm HT.out).mono ?_; rintro e w1 ⟨rfl, hbw1⟩
  have T4 := T3.up hbw1
  clear T3
  go_wp2_with fail
  go_loopw [14] (fun ix wr => ∃ i : Nat, i ≤ 512 ∧ ix = .int .i64 (i : Nat) ∧ (∀ j, j < i → evOk t j) ∧ Below w1.heap.size w1 wr) (fun ix _ => 512 - (intOf ix).toNat)
  case atStart => exact ⟨0, by omega, rfl, (fun j hj => absurd hj (by omega)), bnil w1⟩
  case round =>
    obtain ⟨i, hi, rfl, hall, hbx⟩ := hrel
    have HALL := Lib.hid hall
    have HBX := Lib.hid hbx
    clear hall
    have T5 := T4.up hbx
    clear T4
    generalize wr = wx at *
    clear hbx
    by_cases hlt : i < 512
    · skip
      obtain ⟨ab, ao, hab, _, hcell⟩ := (T5.out.2).addr (by omega)
      subst hab
      have z0 := hcell i hlt
      obtain ⟨Q, hQ⟩ : ∃ Q, mvT qF i 9 = Q := ⟨_, rfl⟩
      obtain ⟨M, hM⟩ : ∃ M, mvT mF i 9 = M := ⟨_, rfl⟩
      have hQ5 : Q < 512 := by rw [← hQ]; exact mvT_lt qF i 9
      have hM5 : M < 512 := by rw [← hM]; exact mvT_lt mF i 9
      have HZ : Hid (wx.cell? ⟨ab, ao + Q, none⟩ = some (.int .i64 (t.getD Q 0)) ∧ wx.cell? ⟨ab, ao + M, none⟩ = some (.int .i64 (t.getD M 0))) := ⟨hcell Q hQ5, hcell M hM5⟩
      have HQM := Lib.hid (And.intro hQ hM)
      obtain ⟨x, hx⟩ : ∃ x, t.getD i 0 = x := ⟨_, rfl⟩
      obtain ⟨y, hy⟩ : ∃ y, t.getD Q 0 = y := ⟨_, rfl⟩
      obtain ⟨u, hu⟩ : ∃ u, t.getD M 0 = u := ⟨_, rfl⟩
      rw [hx] at z0
      rw [hy, hu] at HZ
      have HV : Hid (t.getD i 0 = x ∧ t.getD (mvT qF i 9) 0 = y ∧ t.getD (mvT mF i 9) 0 = u) := by rw [hQ, hM]; exact ⟨hx, hy, hu⟩
      have i0 : (0 : Int) ≤ (i : Int) := by omega
      have i1 : (i : Int) < ((512 : Nat) : Int) := by omega
      have i2 : (i : Int) < 512 := by omega
      have q0 : (0 : Int) ≤ (Q : Int) := by omega
      have q1 : (Q : Int) < ((512 : Nat) : Int) := by omega
      have q2 : (Q : Int) < 512 := by omega
      have m0 : (0 : Int) ≤ (M : Int) := by omega
      have m1 : (M : Int) < ((512 : Nat) : Int) := by omega
      have m2 : (M : Int) < 512 := by omega
      clear hcell hQ hM hx hy hu
      go_wp2_with fail
      refine (moved_q i hlt wx).mono ?_; rintro e w3 ⟨rfl, hbw3⟩
      rw [HQM.out.1]
      have c1 : w3.cell? ⟨ab, ao + Q, none⟩ = some (.int .i64 y) := cpa hbw3 HZ.out.1
      have HB3 := Lib.hid (bstep HBX.out hbw3)
      have HZ3 := Lib.hid (cpa hbw3 HZ.out.2)
      have T6 := T5.up hbw3
      clear T5
      clear hbw3 z0
      by_cases hyx : y = x
      · skip
        subst hyx
        go_wp2_with fail
        refine (moved_m i hlt w3).mono ?_; rintro e w4 ⟨rfl, hbw4⟩
        rw [HQM.out.2]
        have c2 : w4.cell? ⟨ab, ao + M, none⟩ = some (.int .i64 u) := cpa hbw4 HZ3.out
        have HB4 := Lib.hid (bstep HB3.out hbw4)
        have T7 := T6.up hbw4
        clear T6
        clear hbw4 c1
        by_cases huy : u = y
        · skip
          subst huy
          have HA2 : Hid (∀ j, j < i + 1 → evOk t j) := by
            intro j hj
            rcases Nat.lt_or_ge j i with h | h
            · exact HALL.out j h
            · obtain rfl : j = i := by omega
              exact ⟨HV.out.2.1.trans HV.out.1.symm, HV.out.2.2.trans HV.out.1.symm⟩
          go_wp2
          go_roundw
          case rel => exact ⟨i + 1, by omega, by go_num, HA2.out, HB4.out⟩
          case measure => simp [intOf]; omega
        · skip
          have hne : (u != y) = true := by simpa using huy
          have HF : Hid (evB t = false) := evB_false hlt (fun h => huy (HV.out.2.2.symm.trans (h.2.trans HV.out.1)))
          go_wp2
          go_ret2
          rw [HO.out, HF.out, HT0.out]
          exact ⟨_, rfl, rfl, T7.out.1.1.2⟩
      · skip
        have hne : (y != x) = true := by simpa using hyx
        have HF : Hid (evB t = false) := evB_false hlt (fun h => hyx (HV.out.2.1.symm.trans (h.1.trans HV.out.1)))
        go_wp2
        go_ret2
        rw [HO.out, HF.out, HT0.out]
        exact ⟨_, rfl, rfl, T6.out.1.1.2⟩
    obtain rfl : i = 512 := by omega
    have HF := Lib.hid (evB_true HALL.out)
    go_wp2
    go_ret2
    rw [HO.out, HF.out, HT0.out]
    exact ⟨_, rfl, rfl, T5.out.1.1.2⟩
end Go.Proofs.YtoaooblodgejdaaDoor
