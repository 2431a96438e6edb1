/- plane.moved, plane.Even for any numbers. Plain: a window's cells turned, and its number: what the document's Even asks. edenref22.window. edenref22.parts, edenref22.Counted. The contract of edenref22.Life, for any text. The contract of edenref22.Hex, for any numbers. The contract of edenref22.Even, for any numbers. The contract of edenref22.Text, for any numbers. edenlaw22.PlaneTables returns true. PlaneTables: the row's statement and its tied card: for every input the law's call returns true, and the arguments read as before. No condition beside the row's own (the listed package-level variables read as the program's text lays them). -/
import Derived.Test.YtocfkmdoalhjmaaDoorLifT
import Derived.Test.YtocfkmdoalhjmaaDoorPlaA
import Derived.Test.YtocfkmdoalhjmaaDoorBitI
import Derived.Test.YtocfkmdoalhjmaaDoorTrkP
import Derived.Test.YtocfkmdoalhjmaaDoorPlnM
import Derived.Deep.RegionLaw
import Derived.Test.YtocfkmdoalhjmaaDoorPlaB
import Derived.Test.YtocfkmdoalhjmaaDoorPlaD
import Derived.Test.YtocfkmdoalhjmaaDoorRefPD
import Derived.Deep.QuietTactic
import Derived.BigQuiet
import Derived.Test.YtocfkmdoalhjmaaDoorHexT
import Derived.Deep.RegionHeld3
import Derived.Test.YtocfkmdoalhjmaaDoorRefPG
import Derived.Test.YtocfkmdoalhjmaaDoorInts
import Derived.Lib.SlBytesConst
import Derived.Test.YtocfkmdoalhjmaaDoorLentE
import Derived.Test.YtocfkmdoalhjmaaDoorEnvLaid
import Derived.Test.YtocfkmdoalhjmaaDoorOpenInts
import Derived.Test.YtocfkmdoalhjmaaDoorCards
import Derived.Test.YtocfkmdoalhjmaaDoorTie
import Derived.ProofKit
import Derived.OpenShut
import Derived.ChangeOld
import Derived.ChangeVars
import Derived.LaidMore
import Derived.LaidHandle
import Derived.MakeChecks
import Derived.Stop.Joined
import Derived.SevenTiedAt
namespace Go.Proofs.YtocfkmdoalhjmaaDoor
open Go.RowKit
set_option linter.unusedVariables false
set_option maxRecDepth 100000

theorem idx9 (k : Nat) (hk : k < 9) (f0 f1 f2 f3 f4 f5 f6 f7 f8 : Nat) (w : World) :
    (Instr.index 111 (.agg #[.int .i64 (f0 : Nat), .int .i64 (f1 : Nat), .int .i64 (f2 : Nat), .int .i64 (f3 : Nat), .int .i64 (f4 : Nat), .int .i64 (f5 : Nat), .int .i64 (f6 : Nat), .int .i64 (f7 : Nat), .int .i64 (f8 : Nat)]) (.int .i64 (k : Int))).run Tryd.prog w = .ok (.int .i64 ((([f0, f1, f2, f3, f4, f5, f6, f7, f8] : List Nat).getD k 0 : Nat) : Int)) w := by
  have h : Tryd.prog.underlying 111 = some (.array 9 3) := by kernel_rfl
  have hj : k = 0 ∨ k = 1 ∨ k = 2 ∨ k = 3 ∨ k = 4 ∨ k = 5 ∨ k = 6 ∨ k = 7 ∨ k = 8 := by omega
  rcases hj with rfl | rfl | rfl | rfl | rfl | rfl | rfl | rfl | rfl
  all_goals simp [Instr.index, run_underlying h, asIntOf, go_sem]
theorem get9 {f0 f1 f2 f3 f4 f5 f6 f7 f8 : Nat} (h0 : f0 ≤ 8) (h1 : f1 ≤ 8) (h2 : f2 ≤ 8) (h3 : f3 ≤ 8) (h4 : f4 ≤ 8) (h5 : f5 ≤ 8) (h6 : f6 ≤ 8) (h7 : f7 ≤ 8) (h8 : f8 ≤ 8) {k : Nat} (hk : k < 9) : ([f0, f1, f2, f3, f4, f5, f6, f7, f8] : List Nat).getD k 0 ≤ 8 := by
  have hj : k = 0 ∨ k = 1 ∨ k = 2 ∨ k = 3 ∨ k = 4 ∨ k = 5 ∨ k = 6 ∨ k = 7 ∨ k = 8 := by omega
  rcases hj with rfl | rfl | rfl | rfl | rfl | rfl | rfl | rfl | rfl <;> assumption
set_option maxHeartbeats 4000000 in
theorem moved_any (win : Nat) (hw : win < 512) (f0 f1 f2 f3 f4 f5 f6 f7 f8 : Nat) (h0 : f0 ≤ 8) (h1 : f1 ≤ 8) (h2 : f2 ≤ 8) (h3 : f3 ≤ 8) (h4 : f4 ≤ 8) (h5 : f5 ≤ 8) (h6 : f6 ≤ 8) (h7 : f7 ≤ 8) (h8 : f8 ≤ 8) (W : World) :
    Calls Tryd.prog 63 #[.int .i64 (win : Nat), .agg #[.int .i64 (f0 : Nat), .int .i64 (f1 : Nat), .int .i64 (f2 : Nat), .int .i64 (f3 : Nat), .int .i64 (f4 : Nat), .int .i64 (f5 : Nat), .int .i64 (f6 : Nat), .int .i64 (f7 : Nat), .int .i64 (f8 : Nat)]] W fun e w' => e = .returned (.int .i64 (mvT (fun k => ([f0, f1, f2, f3, f4, f5, f6, f7, f8] : List Nat).getD k 0) win 9 : Nat)) ∧ Below W.heap.size W w' := by
  have HG : Hid (∀ k : Nat, k < 9 → ([f0, f1, f2, f3, f4, f5, f6, f7, f8] : List Nat).getD k 0 ≤ 8) := fun k hk => get9 h0 h1 h2 h3 h4 h5 h6 h7 h8 hk
  clear h0 h1 h2 h3 h4 h5 h6 h7 h8
  go_enter Tryd.func63, Tryd.ntmps63
  go_wp2
  obtain ⟨Wb, hWb⟩ : ∃ Wb, W.alloc (.cells #[.int .i64 (f0 : Nat), .int .i64 (f1 : Nat), .int .i64 (f2 : Nat), .int .i64 (f3 : Nat), .int .i64 (f4 : Nat), .int .i64 (f5 : Nat), .int .i64 (f6 : Nat), .int .i64 (f7 : Nat), .int .i64 (f8 : Nat)] 111) = Wb := ⟨_, rfl⟩
  have HB : Hid (Below W.heap.size W Wb) := by rw [← hWb]; exact balloc (bnil W) _
  rw [hWb]
  clear hWb
  go_loop [5, 9] (fun nx ix => ∃ k : Nat, k ≤ 9 ∧ ix = .int .i64 (k : Nat) ∧ nx = .int .i64 (mvT (fun k => ([f0, f1, f2, f3, f4, f5, f6, f7, f8] : List Nat).getD k 0) win k : Nat)) (fun _ ix => 9 - (intOf ix).toNat)
  case atStart => exact ⟨0, by omega, rfl, rfl⟩
  case round =>
    obtain ⟨k, hk, rfl, rfl⟩ := hrel
    by_cases hlt : k < 9
    · have eix := idx9 k hlt f0 f1 f2 f3 f4 f5 f6 f7 f8 Wb
      have hf := HG.out k hlt
      have HM : Hid (mvT (fun k => ([f0, f1, f2, f3, f4, f5, f6, f7, f8] : List Nat).getD k 0) win (k + 1) = 2 * mvT (fun k => ([f0, f1, f2, f3, f4, f5, f6, f7, f8] : List Nat).getD k 0) win k + win / 2 ^ (8 - ([f0, f1, f2, f3, f4, f5, f6, f7, f8] : List Nat).getD k 0) % 2) := rfl
      have hb := mvT_lt (fun k => ([f0, f1, f2, f3, f4, f5, f6, f7, f8] : List Nat).getD k 0) win k
      have hp : 2 ^ k ≤ 256 := by
        have := Nat.pow_le_pow_right (n := 2) (by omega) (show k ≤ 8 by omega)
        have h9 : (2 : Nat) ^ 8 = 256 := by decide
        omega
      have hb2 : mvT (fun k => ([f0, f1, f2, f3, f4, f5, f6, f7, f8] : List Nat).getD k 0) win k ≤ 256 := by omega
      generalize ([f0, f1, f2, f3, f4, f5, f6, f7, f8] : List Nat).getD k 0 = P at *
      generalize mvT (fun k => ([f0, f1, f2, f3, f4, f5, f6, f7, f8] : List Nat).getD k 0) win k = N at *
      obtain ⟨E, hE⟩ : ∃ E, 8 - P = E := ⟨_, rfl⟩
      rw [hE] at HM
      have hEI : (8 : Int) - (P : Int) = (E : Int) := by omega
      have hEw : IntKind.i64.wrap (E : Int) = (E : Int) := IntWalk.i64_in _ (by omega)
      have e0 : (0 : Int) ≤ (E : Int) := by omega
      have e1 : (E : Int) ≤ 64 := by omega
      obtain ⟨v, hv⟩ : ∃ v, win / 2 ^ E = v := ⟨_, rfl⟩
      have hvI : (win : Int) / 2 ^ E = (v : Int) := by rw [← hv, Int.natCast_ediv, Int.natCast_pow]; rfl
      have hv2 : v < 512 := by rw [← hv]; exact Nat.lt_of_le_of_lt (Nat.div_le_self _ _) hw
      rw [hv] at HM
      have ha := and1_i64 (a := v) (by omega)
      have hz : v % 2 ≤ 1 := by omega
      generalize v % 2 = z at *
      clear hv hE hb hp hf
      go_wp2
      go_round
      case rel => exact ⟨k + 1, by omega, by go_num, by rw [HM.out]; go_num⟩
      case measure => simp [intOf]; omega
    · obtain rfl : k = 9 := by omega
      go_wp2
      go_ret
      exact ⟨rfl, HB.out⟩
theorem moved_q (win : Nat) (hw : win < 512) (W : World) : Calls Tryd.prog 63 #[.int .i64 (win : Nat), .agg #[.int .i64 6, .int .i64 3, .int .i64 0, .int .i64 7, .int .i64 4, .int .i64 1, .int .i64 8, .int .i64 5, .int .i64 2]] W fun e w' => e = .returned (.int .i64 (mvT qF win 9 : Nat)) ∧ Below W.heap.size W w' :=
  moved_any win hw 6 3 0 7 4 1 8 5 2 (by omega) (by omega) (by omega) (by omega) (by omega) (by omega) (by omega) (by omega) (by omega) W
theorem moved_m (win : Nat) (hw : win < 512) (W : World) : Calls Tryd.prog 63 #[.int .i64 (win : Nat), .agg #[.int .i64 2, .int .i64 1, .int .i64 0, .int .i64 5, .int .i64 4, .int .i64 3, .int .i64 8, .int .i64 7, .int .i64 6]] W fun e w' => e = .returned (.int .i64 (mvT mF win 9 : Nat)) ∧ Below W.heap.size W w' :=
  moved_any win hw 2 1 0 5 4 3 8 7 6 (by omega) (by omega) (by omega) (by omega) (by omega) (by omega) (by omega) (by omega) (by omega) W
def evenO (t : List Int) : Bool := decide (tabD t = none) && evB t
def EvRet (R : Nat → Addr) (W : World) (b : Bool) (x : ErrD) (e : Ending) (w' : World) : Prop := ∃ ev, e = .returned (.tuple #[.bool b, ev]) ∧ EC R w' ev x ∧ Below W.heap.size W w'
theorem evenO_er {t : List Int} (h : tabD t ≠ none) : evenO t = false := by unfold evenO; rw [decide_eq_false h]; rfl
theorem evenO_ok {t : List Int} (h : tabD t = none) : evenO t = evB t := by unfold evenO; rw [decide_eq_true h]; rfl
set_option maxHeartbeats 16000000 in
theorem even_any (a : Option Addr) (n c : Nat) (t : List Int) (W : World) (R : Nat → Addr) (hS : Sent W R) (hT : RK .i64 W a n t) (hm : n ≤ maxLen) :
    Calls Tryd.prog 24 #[.slice a n c] W (EvRet R W (evenO t) (tabD t)) := by
  have T0 := Tk.nil W
  have T1 := T0.add (fun wv => Below W.heap.size W wv) (bnil W)
  clear T0
  have T2 := T1.add (fun wv => Sent wv R) (hS)
  clear T1
  have T3 := T2.add (fun wv => RK .i64 wv a n t) (hT)
  clear T2
  clear hS hT
  by_cases htd : tabD t ≠ none
  · skip
    have HO := Lib.hid (evenO_er htd)
    have HTD := Lib.hid htd
    clear htd
    go_enter Tryd.func24, Tryd.ntmps24
    go_wp2_with fail
    refine (plcheck_er a n c t W R T3.out.1.2 T3.out.2 hm HTD.out).mono ?_; rintro e w1 ⟨g, rfl, he, hbw1⟩
    have T4 := T3.up hbw1
    clear T3
    have HEC := Lib.hid he
    clear he
    go_wp2
    go_ret2
    rw [HO.out]
    exact ⟨_, rfl, HEC.out, T4.out.1.1.2⟩
  have ht0 : tabD t = none := Decidable.byContradiction htd
  have HO := Lib.hid (evenO_ok ht0)
  have HT := Lib.hid (tabD_none ht0)
  have HT0 := Lib.hid ht0
  clear htd ht0
  obtain rfl : n = 512 := (T3.out.2).len.trans HT.out.len
  go_enter Tryd.func24, Tryd.ntmps24
  go_wp2_with fail
  refine (plcheck_ok a 512 c t W R T3.out.1.2 T3.out.2 hm HT.out).mono ?_; rintro e w1 ⟨rfl, hbw1⟩
  have T4 := T3.up hbw1
  clear T3
  go_wp2_with fail
  go_loopw [14] (fun ix wr => ∃ i : Nat, i ≤ 512 ∧ ix = .int .i64 (i : Nat) ∧ (∀ j, j < i → evOk t j) ∧ Below w1.heap.size w1 wr) (fun ix _ => 512 - (intOf ix).toNat)
  case atStart => exact ⟨0, by omega, rfl, (fun j hj => absurd hj (by omega)), bnil w1⟩
  case round =>
    obtain ⟨i, hi, rfl, hall, hbx⟩ := hrel
    have HALL := Lib.hid hall
    have HBX := Lib.hid hbx
    clear hall
    have T5 := T4.up hbx
    clear T4
    generalize wr = wx at *
    clear hbx
    by_cases hlt : i < 512
    · skip
      obtain ⟨ab, ao, hab, _, hcell⟩ := (T5.out.2).addr (by omega)
      subst hab
      have z0 := hcell i hlt
      obtain ⟨Q, hQ⟩ : ∃ Q, mvT qF i 9 = Q := ⟨_, rfl⟩
      obtain ⟨M, hM⟩ : ∃ M, mvT mF i 9 = M := ⟨_, rfl⟩
      have hQ5 : Q < 512 := by rw [← hQ]; exact mvT_lt qF i 9
      have hM5 : M < 512 := by rw [← hM]; exact mvT_lt mF i 9
      have HZ : Hid (wx.cell? ⟨ab, ao + Q, none⟩ = some (.int .i64 (t.getD Q 0)) ∧ wx.cell? ⟨ab, ao + M, none⟩ = some (.int .i64 (t.getD M 0))) := ⟨hcell Q hQ5, hcell M hM5⟩
      have HQM := Lib.hid (And.intro hQ hM)
      obtain ⟨x, hx⟩ : ∃ x, t.getD i 0 = x := ⟨_, rfl⟩
      obtain ⟨y, hy⟩ : ∃ y, t.getD Q 0 = y := ⟨_, rfl⟩
      obtain ⟨u, hu⟩ : ∃ u, t.getD M 0 = u := ⟨_, rfl⟩
      rw [hx] at z0
      rw [hy, hu] at HZ
      have HV : Hid (t.getD i 0 = x ∧ t.getD (mvT qF i 9) 0 = y ∧ t.getD (mvT mF i 9) 0 = u) := by rw [hQ, hM]; exact ⟨hx, hy, hu⟩
      have i0 : (0 : Int) ≤ (i : Int) := by omega
      have i1 : (i : Int) < ((512 : Nat) : Int) := by omega
      have i2 : (i : Int) < 512 := by omega
      have q0 : (0 : Int) ≤ (Q : Int) := by omega
      have q1 : (Q : Int) < ((512 : Nat) : Int) := by omega
      have q2 : (Q : Int) < 512 := by omega
      have m0 : (0 : Int) ≤ (M : Int) := by omega
      have m1 : (M : Int) < ((512 : Nat) : Int) := by omega
      have m2 : (M : Int) < 512 := by omega
      clear hcell hQ hM hx hy hu
      go_wp2_with fail
      refine (moved_q i hlt wx).mono ?_; rintro e w3 ⟨rfl, hbw3⟩
      rw [HQM.out.1]
      have c1 : w3.cell? ⟨ab, ao + Q, none⟩ = some (.int .i64 y) := cpa hbw3 HZ.out.1
      have HB3 := Lib.hid (bstep HBX.out hbw3)
      have HZ3 := Lib.hid (cpa hbw3 HZ.out.2)
      have T6 := T5.up hbw3
      clear T5
      clear hbw3 z0
      by_cases hyx : y = x
      · skip
        subst hyx
        go_wp2_with fail
        refine (moved_m i hlt w3).mono ?_; rintro e w4 ⟨rfl, hbw4⟩
        rw [HQM.out.2]
        have c2 : w4.cell? ⟨ab, ao + M, none⟩ = some (.int .i64 u) := cpa hbw4 HZ3.out
        have HB4 := Lib.hid (bstep HB3.out hbw4)
        have T7 := T6.up hbw4
        clear T6
        clear hbw4 c1
        by_cases huy : u = y
        · skip
          subst huy
          have HA2 : Hid (∀ j, j < i + 1 → evOk t j) := by
            intro j hj
            rcases Nat.lt_or_ge j i with h | h
            · exact HALL.out j h
            · obtain rfl : j = i := by omega
              exact ⟨HV.out.2.1.trans HV.out.1.symm, HV.out.2.2.trans HV.out.1.symm⟩
          go_wp2
          go_roundw
          case rel => exact ⟨i + 1, by omega, by go_num, HA2.out, HB4.out⟩
          case measure => simp [intOf]; omega
        · skip
          have hne : (u != y) = true := by simpa using huy
          have HF : Hid (evB t = false) := evB_false hlt (fun h => huy (HV.out.2.2.symm.trans (h.2.trans HV.out.1)))
          go_wp2
          go_ret2
          rw [HO.out, HF.out, HT0.out]
          exact ⟨_, rfl, rfl, T7.out.1.1.2⟩
      · skip
        have hne : (y != x) = true := by simpa using hyx
        have HF : Hid (evB t = false) := evB_false hlt (fun h => hyx (HV.out.2.1.symm.trans (h.1.trans HV.out.1)))
        go_wp2
        go_ret2
        rw [HO.out, HF.out, HT0.out]
        exact ⟨_, rfl, rfl, T6.out.1.1.2⟩
    obtain rfl : i = 512 := by omega
    have HF := Lib.hid (evB_true HALL.out)
    go_wp2
    go_ret2
    rw [HO.out, HF.out, HT0.out]
    exact ⟨_, rfl, rfl, T5.out.1.1.2⟩
end Go.Proofs.YtocfkmdoalhjmaaDoor
namespace Go.Proofs.YtocfkmdoalhjmaaDoor
set_option linter.unusedVariables false
set_option maxRecDepth 100000

/-- the cells of a window's number -/
def winL (i : Nat) : List Int := (List.range 9).map fun b => ((i / 2 ^ (8 - b) % 2 : Nat) : Int)
theorem winL_patch (i : Nat) : IsPatch 3 3 (winL i) := by
  refine ⟨by omega, by omega, by omega, by omega, by simp [winL], fun x hx => ?_⟩
  obtain ⟨b, _, rfl⟩ := List.mem_map.1 hx
  omega
theorem winL_snoc {i q : Nat} (hq : q < 9) : (winL i).take (q + 1) = (winL i).take q ++ [((i / 2 ^ (8 - q) % 2 : Nat) : Int)] := by
  have hl : q < (winL i).length := by simp [winL]; exact hq
  rw [List.take_succ_eq_append_getElem hl]
  simp [winL]
/-- the number of a turned window -/
def trN (k i : Nat) : Nat := numT (turnL 3 3 (winL i) k) 9
def qN (i : Nat) : Nat := mvT qF i 9
def mN (i : Nat) : Nat := mvT mF i 9
theorem tr_key : ∀ i : Fin 512, trN 1 i.val = qN i.val ∧ trN 2 i.val = qN (qN i.val) ∧ trN 3 i.val = qN (qN (qN i.val)) ∧ trN 4 i.val = mN i.val ∧ trN 5 i.val = mN (qN i.val) ∧ trN 6 i.val = mN (qN (qN i.val)) ∧ trN 7 i.val = mN (qN (qN (qN i.val))) := by decide +kernel
theorem qN_lt (i : Nat) : qN i < 512 := mvT_lt qF i 9
theorem mN_lt (i : Nat) : mN i < 512 := mvT_lt mF i 9
theorem trN_lt (k i : Nat) (hk : k < 8) : trN k i < 512 := by
  have hp := turn_patch (t := k) (winL_patch i)
  exact numT_lt hp.sym 9
theorem evB_iff (t : List Int) : evB t = true ↔ ∀ i, i < 512 → ∀ k, 1 ≤ k → k < 8 → t.getD (trN k i) 0 = t.getD i 0 := by
  constructor
  · intro h
    have hq : ∀ i, i < 512 → t.getD (qN i) 0 = t.getD i 0 := fun i hi => (evB_of h hi).1
    have hm : ∀ i, i < 512 → t.getD (mN i) 0 = t.getD i 0 := fun i hi => (evB_of h hi).2
    intro i hi k h1 h8
    obtain ⟨e1, e2, e3, e4, e5, e6, e7⟩ := tr_key ⟨i, hi⟩
    simp only at e1 e2 e3 e4 e5 e6 e7
    have hk : k = 1 ∨ k = 2 ∨ k = 3 ∨ k = 4 ∨ k = 5 ∨ k = 6 ∨ k = 7 := by omega
    rcases hk with rfl | rfl | rfl | rfl | rfl | rfl | rfl
    · rw [e1, hq i hi]
    · rw [e2, hq _ (qN_lt i), hq i hi]
    · rw [e3, hq _ (qN_lt _), hq _ (qN_lt i), hq i hi]
    · rw [e4, hm i hi]
    · rw [e5, hm _ (qN_lt i), hq i hi]
    · rw [e6, hm _ (qN_lt _), hq _ (qN_lt i), hq i hi]
    · rw [e7, hm _ (qN_lt _), hq _ (qN_lt _), hq _ (qN_lt i), hq i hi]
  · intro h
    refine evB_true fun i hi => ?_
    obtain ⟨e1, _, _, e4, _⟩ := tr_key ⟨i, hi⟩
    have h1 := h i hi 1 (by omega) (by omega)
    have h4 := h i hi 4 (by omega) (by omega)
    simp only at e1 e4
    rw [e1] at h1
    rw [e4] at h4
    exact ⟨h1, h4⟩
theorem evB_no {t : List Int} {i k : Nat} (hi : i < 512) (h1 : 1 ≤ k) (h8 : k < 8) (h : t.getD (trN k i) 0 ≠ t.getD i 0) : evB t = false := by
  cases hq : evB t with
  | false => rfl
  | true => exact absurd ((evB_iff t).1 hq i hi k h1 h8) h
end Go.Proofs.YtocfkmdoalhjmaaDoor
namespace Go.Proofs.YtocfkmdoalhjmaaDoor
open Go.RowKit
set_option linter.unusedVariables false
set_option maxRecDepth 100000

set_option maxHeartbeats 8000000 in
theorem window_any (i : Nat) (hi : i < 512) (W : World) : Calls Tryd.prog 79 #[.int .i64 (i : Nat)] W fun e w' => ∃ a c, e = .returned (patV 3 3 a 9 c) ∧ OwI w' W.heap.size a 9 c (winL i) ∧ Below W.heap.size W w' := by
  obtain ⟨W1, hW1⟩ : ∃ W1, W.alloc (.cells #[.int .i64 0, .int .i64 0, .slice none 0 0] 24) = W1 := ⟨_, rfl⟩
  obtain ⟨v, hv⟩ : ∃ v, W1.heap.size = v := ⟨_, rfl⟩
  have hz1 : W1.heap[W.heap.size]? = some (.cells #[.int .i64 0, .int .i64 0, .slice none 0 0] 24) := by rw [← hW1]; exact heap_alloc_new W _
  have hb1 : Below W.heap.size W W1 := by rw [← hW1]; exact balloc (bnil W) _
  have hsv : W.heap.size + 1 = v := by rw [← hv, ← hW1]; simp
  obtain ⟨W2, hW2⟩ : ∃ W2, W1.alloc (.cells #[.int .i64 3, .int .i64 3, .slice none 0 0] 24) = W2 := ⟨_, rfl⟩
  have HH0 : Hid (W2.heap[v]? = some (.cells #[.int .i64 3, .int .i64 3, .slice none 0 0] 24)) := by show _ = _; rw [← hW2, ← hv]; exact heap_alloc_new W1 _
  have HB0 : Hid (Below v W1 W2) := by rw [← hW2, ← hv]; exact balloc (bnil W1) _
  have HZ1 := Lib.hid hz1
  have HB1 := Lib.hid hb1
  have HV := Lib.hid hv
  have HSV := Lib.hid hsv
  have HW := Lib.hid (And.intro hW1 hW2)
  clear hz1 hb1 hW1 hW2 hv hsv
  go_enter Tryd.func79, Tryd.ntmps79
  go_wp2_with fail
  rw [HW.out.1]
  rw [HW.out.2, HSV.out]
  go_loopw [4] (fun jx wr => ∃ (q : Nat) (aa : Option Addr) (cc : Nat), q ≤ 9 ∧ jx = .int .i64 (8 - (q : Int)) ∧ wr.heap[v]? = some (.cells #[.int .i64 3, .int .i64 3, .slice aa q cc] 24) ∧ OwI wr (v + 1) aa q cc ((winL i).take q) ∧ Below v W1 wr) (fun jx _ => (intOf jx + 1).toNat)
  case atStart => exact ⟨0, none, 0, by omega, rfl, HH0.out, by simpa using OwI.nil _ _, HB0.out⟩
  case round =>
    obtain ⟨q, aa, cc, hq, rfl, hh, ho, hb⟩ := hrel
    have HH := Lib.hid hh
    have HO := Lib.hid ho
    have HB := Lib.hid hb
    clear hb ho
    by_cases hq9 : q < 9
    · skip
      obtain ⟨b, hb⟩ : ∃ b, 8 - q = b := ⟨_, rfl⟩
      have hbI : (8 : Int) - (q : Int) = (b : Int) := by omega
      have hb0 : (0 : Int) ≤ (b : Int) := by omega
      have hb8 : (b : Int) ≤ 64 := by omega
      have hgd : (winL i).getD q 0 = ((i / 2 ^ b % 2 : Nat) : Int) := by rw [← hb]; simp [winL, hq9]
      have hsn := take_snocN (l := winL i) (k := q) (by simp [winL]; exact hq9)
      rw [hgd] at hsn
      obtain ⟨V, hV⟩ : ∃ V, i / 2 ^ b = V := ⟨_, rfl⟩
      have hVI : (i : Int) / 2 ^ b = (V : Int) := by rw [← hV, Int.natCast_ediv, Int.natCast_pow]; rfl
      have hV2 : V < 512 := by rw [← hV]; exact Nat.lt_of_le_of_lt (Nat.div_le_self _ _) hi
      have ha := and1_i64 (a := V) (by omega)
      rw [hV] at hsn
      have HQ : Hid ((b : Int) - 1 = 8 - ((q + 1 : Nat) : Int)) := by show _ = _; omega
      generalize V % 2 = u at *
      rw [hbI]
      obtain ⟨⟨u0, u1, u2⟩, g0, g1, g2⟩ := p_cells hh
      have hvs : v + 1 ≤ wr.heap.size := heap_ltT hh
      have HSN := Lib.hid hsn
      have hO3 := Lib.hid HO.out
      clear hsn hgd hV hbI hh u0 u1 g0 g1
      have y3 : (wr.alloc (.cells #[.int .i64 (u : Nat)] 3)).cell? ⟨v, 2, none⟩ = some (.slice aa q cc) := al000 u2
      go_wp2_with fail
      go_region_law (first
        | (refine step_app_lit (by rfl) _ _ _ (by rfl) (v + 1) et_int _ q _ hO3.out.own (by rfl) 1 _ _ (by rfl) (by simp) (by rfl) (by rfl) (by unfold maxLen; omega) (by omega) hvs ?_; intro a5 c5 w5 ho5 hg5 hb5 hs5; have y5 : w5.cell? ⟨v, 2, none⟩ = some (.slice aa q cc) := (hb5.cell (p := ⟨v, 2, none⟩) (Nat.lt_succ_self v)).trans u2; have q5 := (hb5.frozen (p := ⟨v, 2, none⟩) (Nat.lt_succ_self v)).trans g2))
      all_goals
        have hh5 := (hb5.block v (Nat.lt_succ_self v)).trans HH.out
        have HH6 := Lib.hid (set2qN hh5 (.slice a5 (q + 1) c5))
        rw [HSN.out] at ho5
        have HO6 : Hid (OwI (w5.setCell ⟨v, 2, none⟩ (.slice a5 (q + 1) c5)) (v + 1) a5 (q + 1) c5 ((winL i).take (q + 1))) :=
          ⟨own_of_heap' ho5 fun b hb => Below.heap_setCell _ _ _ _ (by have := (ho5.lt b hb).1; show b ≠ v; omega)⟩
        have HB6 := Lib.hid ((HB.out.trans (hb5.mono (Nat.le_succ v))).setCell (p := ⟨v, 2, none⟩) (Nat.le_refl v) (.slice a5 (q + 1) c5))
        clear hh5 ho5 hg5 hb5 hs5 y5 q5 y3 u2 g2
        go_wp2
        go_roundw
        case rel => exact ⟨q + 1, a5, c5, by omega, congrArg (Value.int .i64) HQ.out, HH6.out, HO6.out, HB6.out⟩
        case measure => simp [intOf] <;> omega
    obtain rfl : q = 9 := by omega
    have ho9 := HO.out
    rw [List.take_of_length_le (by simp [winL])] at ho9
    obtain ⟨⟨u0, u1, u2⟩, g0, g1, g2⟩ := p_cells hh
    have hne : W.heap.size ≠ v := by have := HSV.out; omega
    have hzr := (HB.out.block W.heap.size (by have := HSV.out; omega)).trans HZ1.out
    obtain ⟨⟨q0, q1, q2⟩, d0, d1, d2⟩ := p_cells hzr
    have hbW : Below W.heap.size W wr := HB1.out.trans (HB.out.mono (by have := HSV.out; omega))
    obtain ⟨w9, e9, ⟨r0, r1, r2⟩, hk9, hs9, hb9⟩ := set3p hzr (.int .i64 3) (.int .i64 3) (.slice aa 9 cc)
    have HRET : Hid (OwI w9 W.heap.size aa 9 cc (winL i) ∧ Below W.heap.size W w9) := ⟨OwI.base (OwI.mk (own_of_heap' ho9.own fun b hb => hk9 b (by have := (ho9.own.lt b hb).1; have := HSV.out; omega))) (by have := HSV.out; omega), hb9 W W.heap.size (Nat.le_refl _) hbW⟩
    have HE9 := Lib.hid e9
    have HR5 := Lib.hid (And.intro r0 (And.intro r1 r2))
    clear hbW hk9 hs9 hb9 e9 r0 r1 r2 ho9 HO hh
    go_wp2
    rw [HE9.out]
    have r3 := HR5.out.1
    have r4 := HR5.out.2.1
    have r5 := HR5.out.2.2
    refine bodyPost_ret (v := patV 3 3 aa 9 cc) (by simp [results, Tryd.results79, go_sem, r3, r4, r5]) rfl ?_
    exact ⟨_, _, rfl, HRET.out.1, HRET.out.2⟩
end Go.Proofs.YtocfkmdoalhjmaaDoor
namespace Go.Proofs.YtocfkmdoalhjmaaDoor
open Go.RowKit
set_option linter.unusedVariables false
set_option maxRecDepth 100000

/-- a window's neighbours, by its first bits -/
def abT (i : Nat) : Nat → Nat
  | 0 => 0
  | b + 1 => abT i b + (if b = 4 then 0 else i / 2 ^ b % 2)
theorem abT_le (i : Nat) : ∀ b, abT i b ≤ b
  | 0 => Nat.le_refl _
  | b + 1 => by
    have := abT_le i b
    unfold abT
    split <;> omega
theorem abT_key : ∀ i : Fin 512, abT i.val 9 = aboutN i.val := by decide +kernel
theorem abT_all {i : Nat} (hi : i < 512) : abT i 9 = aboutN i := abT_key ⟨i, hi⟩
set_option maxHeartbeats 4000000 in
theorem parts_any (i N z : Nat) (hi : i < 512) (hN : aboutN i = N) (hz : i / 16 % 2 = z) (W : World) : Calls Tryd.prog 75 #[.int .i64 (i : Nat)] W fun e w' => e = .returned (.tuple #[.int .i64 (N : Nat), .int .i64 (z : Nat)]) ∧ W = w' := by
  have HNZ := Lib.hid (And.intro hN hz)
  clear hN hz
  go_enter Tryd.func75, Tryd.ntmps75
  go_wp2
  go_loop [4, 5] (fun nx bx => ∃ b : Nat, b ≤ 9 ∧ bx = .int .i64 (b : Nat) ∧ nx = .int .i64 (abT i b : Nat)) (fun _ bx => 9 - (intOf bx).toNat)
  case atStart => exact ⟨0, by omega, rfl, rfl⟩
  case round =>
    obtain ⟨b, hb, rfl, rfl⟩ := hrel
    by_cases hlt : b < 9
    · have HM : Hid (abT i (b + 1) = abT i b + (if b = 4 then 0 else i / 2 ^ b % 2)) := rfl
      have hn := abT_le i b
      generalize abT i b = M at *
      obtain ⟨v, hv⟩ : ∃ v, i / 2 ^ b = v := ⟨_, rfl⟩
      have hvI : (i : Int) / 2 ^ b = (v : Int) := by rw [← hv, Int.natCast_ediv, Int.natCast_pow]; rfl
      have hv2 : v < 512 := by rw [← hv]; exact Nat.lt_of_le_of_lt (Nat.div_le_self _ _) hi
      rw [hv] at HM
      have ha := and1_i64 (a := v) (by omega)
      have hz : v % 2 ≤ 1 := by omega
      generalize v % 2 = y at *
      have b0 : (0 : Int) ≤ (b : Int) := by omega
      have b1 : (b : Int) ≤ 64 := by omega
      clear hv
      by_cases h4 : b = 4
      · subst h4
        rw [if_pos rfl] at HM
        go_wp2
        go_round
        case rel => exact ⟨5, by omega, by go_num, by rw [HM.out]; go_num⟩
        case measure => simp [intOf]
      · rw [if_neg h4] at HM
        have h4I : ¬ (b : Int) = 4 := by omega
        have h4b : ((b : Int) == 4) = false := by rw [beq_eq_false_iff_ne]; exact h4I
        go_wp2
        go_round
        case rel => exact ⟨b + 1, by omega, by go_num, by rw [HM.out]; go_num⟩
        case measure => simp [intOf]; omega
    · obtain rfl : b = 9 := by omega
      rw [abT_all hi, HNZ.out.1]
      have h8 := (andNot16 ⟨i, hi⟩).2.2.2
      simp only at h8
      rw [HNZ.out.1] at h8
      obtain ⟨v, hv⟩ : ∃ v, i / 16 = v := ⟨_, rfl⟩
      have hvI : (i : Int) / 16 = (v : Int) := by omega
      have hvJ : (i : Int) / 2 ^ 4 = (v : Int) := hvI
      have ha := and1_i64 (a := v) (by omega)
      rw [show v % 2 = z by rw [← hv]; exact HNZ.out.2] at ha
      clear hv
      go_wp2
      go_ret2
      exact ⟨rfl, rfl⟩
/-- a set's numbers as an array of nine -/
def bB (z k : Nat) : Bool := decide (z / 2 ^ k % 2 = 1)
abbrev bAgg (z : Nat) : Value := .agg #[.bool (bB z 0), .bool (bB z 1), .bool (bB z 2), .bool (bB z 3), .bool (bB z 4), .bool (bB z 5), .bool (bB z 6), .bool (bB z 7), .bool (bB z 8)]
abbrev bBox (z : Nat) : Obj := .cells #[.bool (bB z 0), .bool (bB z 1), .bool (bB z 2), .bool (bB z 3), .bool (bB z 4), .bool (bB z 5), .bool (bB z 6), .bool (bB z 7), .bool (bB z 8)] 123
def BB (w : World) (g z : Nat) : Prop := ∀ k, k < 9 → w.cell? ⟨g, k, none⟩ = some (.bool (bB z k))
theorem BB.new {w : World} {g z : Nat} (h : w.heap[g]? = some (bBox z)) : BB w g z := by
  intro k hk
  have h9 : k = 0 ∨ k = 1 ∨ k = 2 ∨ k = 3 ∨ k = 4 ∨ k = 5 ∨ k = 6 ∨ k = 7 ∨ k = 8 := by omega
  rcases h9 with rfl | rfl | rfl | rfl | rfl | rfl | rfl | rfl | rfl <;> simp [World.cell?, h]
theorem BB.lt {w : World} {g z : Nat} (h : BB w g z) : g < w.heap.size := World.block_lt_of_cell? _ _ (h 0 (by omega))
theorem BB.up {w w' : World} {n g z : Nat} (h : BB w g z) (hb : Below n w w') (hg : g < n) : BB w' g z := fun k hk => (hb.cell (p := ⟨g, k, none⟩) hg).trans (h k hk)
theorem take_zero {L : List Int} {n i : Nat} (hL : L.length = n) (hi : i < n) (hu : L.getD i 0 = 0) : L.take i ++ List.replicate (n - i) 0 = L.take (i + 1) ++ List.replicate (n - (i + 1)) 0 := by
  rw [← take_set hL hi hu]
  have h1 : (L.take i).length = i := by simp; omega
  rw [List.set_append_right _ _ (by omega), h1, Nat.sub_self, show n - i = (n - (i + 1)) + 1 by omega, List.replicate_succ, List.set_cons_zero]
set_option maxHeartbeats 8000000 in
theorem refcounted (b s : Nat) (W : World) : Calls Tryd.prog 76 #[bAgg b, bAgg s] W fun e w' => ∃ g c', e = .returned (.slice (some ⟨g, 0, none⟩) 512 c') ∧ OwI w' W.heap.size (some ⟨g, 0, none⟩) 512 c' (tabOf b s) ∧ Below W.heap.size W w' := by
  obtain ⟨L, hL⟩ : ∃ L, tabOf b s = L := ⟨_, rfl⟩
  have hLl : L.length = 512 := by rw [← hL]; exact tabOf_len b s
  have HL := Lib.hid hL
  have HLL := Lib.hid hLl
  rw [hL]
  clear hL hLl
  obtain ⟨g1, hg1⟩ : ∃ g1, W.heap.size = g1 := ⟨_, rfl⟩
  obtain ⟨Wb, hWb⟩ : ∃ Wb, (W.alloc (bBox b)).alloc (bBox s) = Wb := ⟨_, rfl⟩
  have HBB : Hid (Below g1 W Wb) := by show Below _ _ _; rw [← hWb, ← hg1]; exact balloc (balloc (bnil W) _) _
  have HZ1 : Hid (BB Wb g1 b) := by
    refine BB.new ?_
    rw [← hWb, (balloc (bnil _) (bBox s)).block _ (by rw [← hg1]; simp), ← hg1]
    exact heap_alloc_new W _
  have HZ2 : Hid (BB Wb (g1 + 1) s) := by
    refine BB.new ?_
    rw [← hWb]
    have := heap_alloc_new (W.alloc (bBox b)) (bBox s)
    rw [← hg1]
    simpa using this
  have HSZ : Hid (Wb.heap.size = g1 + 1 + 1) := by show _ = _; rw [← hWb, ← hg1]; simp
  have HWB := Lib.hid hWb
  have HG1 := Lib.hid hg1
  clear hWb
  go_enter Tryd.func76, Tryd.ntmps76
  go_wp2_with (first
    | (at_make; rw [HWB.out]; refine mk_full rfl _ _ _ rfl Wb.heap.size et_int .i64 .i64 _ _ 512 rfl rfl rfl rfl (by omega) (by unfold maxLen; omega) (Nat.le_refl _) ?_; intro w2 hown hb2 hsz2; rw [made_i64p] at hown))
  obtain ⟨g, hg⟩ : ∃ g, Wb.heap.size = g := ⟨_, rfl⟩
  rw [hg] at hown hb2
  rw [hg]
  have hgg : g = g1 + 1 + 1 := by rw [← hg]; exact HSZ.out
  have HO2 : Hid (w2.ownsRow g 3 1 (.slice (some ⟨g, 0, none⟩) 512 512) 512 ((L.take 0 ++ List.replicate (512 - 0) 0).map (Value.int .i64))) := by show World.ownsRow _ _ _ _ _ _ _; simpa using hown
  have HGG := Lib.hid hgg
  have HB2 := Lib.hid hb2
  clear hown hg hb2 hsz2 hgg hg1
  go_loopw [6] (fun ix wr => ∃ i : Nat, i ≤ 512 ∧ ix = .int .i64 i ∧ wr.ownsRow g 3 1 (.slice (some ⟨g, 0, none⟩) 512 512) 512 ((L.take i ++ List.replicate (512 - i) 0).map (Value.int .i64)) ∧ Below g Wb wr) (fun ix _ => 512 - (intOf ix).toNat)
  case atStart => exact ⟨0, by omega, rfl, HO2.out, HB2.out⟩
  case round =>
    obtain ⟨i, hi, rfl, ho, hbr⟩ := hrel
    have HO := Lib.hid ho
    have HBR := Lib.hid hbr
    have HY1 : Hid (BB wr g1 b) := HZ1.out.up hbr (by have := HGG.out; omega)
    have HY2 : Hid (BB wr (g1 + 1) s) := HZ2.out.up hbr (by have := HGG.out; omega)
    clear ho hbr
    by_cases hin : i < 512
    · have h8 := (andNot16 ⟨i, hin⟩).2.2.2
      simp only at h8
      obtain ⟨k, hk⟩ : ∃ k, aboutN i = k := ⟨_, rfl⟩
      have hget : L.getD i 0 = ((tabF b s i : Nat) : Int) := by rw [← HL.out]; exact tabOf_get hin
      have i0 : (0 : Int) ≤ (i : Int) := by omega
      have i1 : (i : Int) < 512 := by omega
      rw [hk] at h8
      have k0 : (0 : Int) ≤ (k : Int) := by omega
      have k1 : (k : Int) < 9 := by omega
      have z1 := HY1.out k (by omega)
      have z2 := HY2.out k (by omega)
      have hm2 : i / 16 % 2 < 2 := by omega
      have hu : tabF b s i = if bB (if i / 16 % 2 = 1 then s else b) k = true then 1 else 0 := by
        unfold tabF bB
        rw [hk]
        generalize (if i / 16 % 2 = 1 then s else b) / 2 ^ k = q
        by_cases hq : q % 2 = 1
        · rw [decide_eq_true hq, if_pos rfl, hq]
        · rw [decide_eq_false hq, if_neg (by decide)]; omega
      rw [hu] at hget
      clear hu
      have HK := Lib.hid hk
      have hc0 : wr.cell? ⟨g, i, none⟩ = some (.int .i64 0) := by
        rw [HO.out.cellAt i (by omega), List.getElem?_map, app_at HLL.out hin]
        rfl
      have f0 := HO.out.frozenAt i
      clear hk
      by_cases hm : i / 16 % 2 = 1
      · rw [if_pos hm] at hget
        have HM : Hid (i / 16 % 2 = 1) := hm
        cases hq : bB s k with
        | true =>
          rw [hq] at z2
          rw [hq, if_pos rfl] at hget
          have hset := take_set HLL.out hin hget
          have ho6 := own_set HO.out i (.int .i64 ((1 : Nat) : Int))
          rw [map_set_j, hset] at ho6
          have HO6 := Lib.hid ho6
          have HB6 := Lib.hid (HBR.out.setCell (p := ⟨g, i, none⟩) (Nat.le_refl _) (.int .i64 1))
          clear hget hset ho6 hq hm hm2
          go_wp2_with fail
          refine (parts_any i k 1 hin HK.out HM.out wr).mono ?_; rintro e w3 ⟨rfl, rfl⟩
          go_wp2
          go_roundw
          case rel => exact ⟨i + 1, by omega, by go_num, HO6.out, HB6.out⟩
          case measure => simp [intOf]; omega
        | false =>
          rw [hq] at z2
          rw [hq, if_neg (by decide)] at hget
          have ho6 := HO.out
          rw [take_zero HLL.out hin hget] at ho6
          have HO6 := Lib.hid ho6
          clear hget ho6 hq hm hm2 hc0 f0
          go_wp2_with fail
          refine (parts_any i k 1 hin HK.out HM.out wr).mono ?_; rintro e w3 ⟨rfl, rfl⟩
          go_wp2
          go_roundw
          case rel => exact ⟨i + 1, by omega, by go_num, HO6.out, HBR.out⟩
          case measure => simp [intOf]; omega
      · have hm0 : i / 16 % 2 = 0 := by omega
        rw [if_neg hm] at hget
        have HM : Hid (i / 16 % 2 = 0) := hm0
        cases hq : bB b k with
        | true =>
          rw [hq] at z1
          rw [hq, if_pos rfl] at hget
          have hset := take_set HLL.out hin hget
          have ho6 := own_set HO.out i (.int .i64 ((1 : Nat) : Int))
          rw [map_set_j, hset] at ho6
          have HO6 := Lib.hid ho6
          have HB6 := Lib.hid (HBR.out.setCell (p := ⟨g, i, none⟩) (Nat.le_refl _) (.int .i64 1))
          clear hget hset ho6 hq hm hm0 hm2
          go_wp2_with fail
          refine (parts_any i k 0 hin HK.out HM.out wr).mono ?_; rintro e w3 ⟨rfl, rfl⟩
          go_wp2
          go_roundw
          case rel => exact ⟨i + 1, by omega, by go_num, HO6.out, HB6.out⟩
          case measure => simp [intOf]; omega
        | false =>
          rw [hq] at z1
          rw [hq, if_neg (by decide)] at hget
          have ho6 := HO.out
          rw [take_zero HLL.out hin hget] at ho6
          have HO6 := Lib.hid ho6
          clear hget ho6 hq hm hm0 hm2 hc0 f0
          go_wp2_with fail
          refine (parts_any i k 0 hin HK.out HM.out wr).mono ?_; rintro e w3 ⟨rfl, rfl⟩
          go_wp2
          go_roundw
          case rel => exact ⟨i + 1, by omega, by go_num, HO6.out, HBR.out⟩
          case measure => simp [intOf]; omega
    · obtain rfl : i = 512 := by omega
      have ho := HO.out
      rw [Nat.sub_self, List.replicate_zero, List.append_nil, List.take_of_length_le (by have := HLL.out; omega)] at ho
      have HO3 := Lib.hid ho
      clear ho HO
      go_wp2
      go_ret
      exact ⟨g, 512, rfl, OwI.base ⟨HO3.out⟩ (by have := HGG.out; have := HG1.out; omega), (HBB.out.trans (HBR.out.mono (by have := HGG.out; omega))).mono (by have := HG1.out; omega)⟩
end Go.Proofs.YtocfkmdoalhjmaaDoor
namespace Go.Proofs.YtocfkmdoalhjmaaDoor
open Go.RowKit
set_option linter.unusedVariables false
set_option maxRecDepth 100000

theorem bit_grow2 {s d n : Nat} (hs : s < 2 ^ d) : bB (s + 2 ^ d) n = if n = d then true else bB s n := by
  unfold bB
  by_cases h : n = d
  · subst h
    rw [if_pos rfl, Nat.add_div_right _ (Nat.two_pow_pos n), Nat.div_eq_of_lt hs]
    rfl
  · rw [if_neg h]
    rcases Nat.lt_or_ge n d with h1 | h1
    · have e2 : 2 ^ d = 2 ^ n * (2 * 2 ^ (d - n - 1)) := by
        rw [← Nat.mul_assoc, ← Nat.pow_succ, ← Nat.pow_add]; congr 1; omega
      rw [e2, Nat.add_mul_div_left _ _ (Nat.two_pow_pos n)]
      have : (s / 2 ^ n + 2 * 2 ^ (d - n - 1)) % 2 = s / 2 ^ n % 2 := by omega
      rw [this]
    · have h2 : d + 1 ≤ n := by omega
      have e1 : 2 ^ (d + 1) ≤ 2 ^ n := Nat.pow_le_pow_right (by omega) h2
      have e3 : 2 ^ (d + 1) = 2 ^ d * 2 := Nat.pow_succ ..
      rw [Nat.div_eq_of_lt (show s + 2 ^ d < 2 ^ n by omega), Nat.div_eq_of_lt (show s < 2 ^ n by omega)]
def isDg (last : Int) (c : UInt8) : Prop := 48 ≤ c.toNat ∧ c.toNat ≤ 56 ∧ last < (c.toNat : Int) - 48
instance (last : Int) (c : UInt8) : Decidable (isDg last c) := by unfold isDg; exact inferInstance
theorem tk1_dig {last : Int} {s0 s1 d : Nat} {c : UInt8} (h : isDg last c) (hd : c.toNat = 48 + d) : takeF 1 last s0 s1 c = some (1, (d : Int), s0 + 2 ^ d, s1) := by
  obtain ⟨h1, h2, h3⟩ := h
  have hc : c ≠ 47 := fun e => by subst e; exact absurd h1 (by decide)
  unfold takeF
  rw [if_neg (by omega), if_neg (by omega), if_neg (fun h => hc h.2), if_neg (by omega), if_pos rfl, hd]
  simp only [Nat.add_sub_cancel_left]
  rw [show ((48 + d : Nat) : Int) - 48 = (d : Int) by omega]
theorem tk3_dig {last : Int} {s0 s1 d : Nat} {c : UInt8} (h : isDg last c) (hd : c.toNat = 48 + d) : takeF 3 last s0 s1 c = some (3, (d : Int), s0, s1 + 2 ^ d) := by
  obtain ⟨h1, h2, h3⟩ := h
  unfold takeF
  rw [if_neg (by omega), if_neg (by omega), if_neg (fun h => absurd h.1 (by omega)), if_neg (by omega), if_neg (by omega), hd]
  simp only [Nat.add_sub_cancel_left]
  rw [show ((48 + d : Nat) : Int) - 48 = (d : Int) by omega]
theorem tk1_no {last : Int} {s0 s1 : Nat} {c : UInt8} (hl : -1 ≤ last) (h : ¬ isDg last c) (hc : c ≠ 47) : takeF 1 last s0 s1 c = none := by
  unfold isDg at h
  unfold takeF
  rw [if_neg (by omega), if_neg (by omega), if_neg (fun h => hc h.2), if_pos (by omega)]
theorem tk3_no {last : Int} {s0 s1 : Nat} {c : UInt8} (hl : -1 ≤ last) (h : ¬ isDg last c) : takeF 3 last s0 s1 c = none := by
  unfold isDg at h
  unfold takeF
  rw [if_neg (by omega), if_neg (by omega), if_neg (fun h => absurd h.1 (by omega)), if_pos (by omega)]
/-- the two arrays in one block -/
abbrev LBo (s0 s1 : Nat) : Obj := .cells #[.bool (bB s0 0), .bool (bB s0 1), .bool (bB s0 2), .bool (bB s0 3), .bool (bB s0 4), .bool (bB s0 5), .bool (bB s0 6), .bool (bB s0 7), .bool (bB s0 8), .bool (bB s1 0), .bool (bB s1 1), .bool (bB s1 2), .bool (bB s1 3), .bool (bB s1 4), .bool (bB s1 5), .bool (bB s1 6), .bool (bB s1 7), .bool (bB s1 8)] 124
abbrev LB (w : World) (g s0 s1 : Nat) : Prop := w.heap[g]? = some (LBo s0 s1)
theorem LB.set0 {w : World} {g s0 s1 d : Nat} (h : LB w g s0 s1) (hd : d < 9) (hs : s0 < 2 ^ d) : LB (w.setCell ⟨g, d, none⟩ (.bool true)) g (s0 + 2 ^ d) s1 := by
  have h2 : w.heap[g]? = _ := h
  show (w.setCell ⟨g, d, none⟩ (.bool true)).heap[g]? = _
  unfold LBo
  simp only [bit_grow2 hs]
  have hj : d = 0 ∨ d = 1 ∨ d = 2 ∨ d = 3 ∨ d = 4 ∨ d = 5 ∨ d = 6 ∨ d = 7 ∨ d = 8 := by omega
  rcases hj with rfl | rfl | rfl | rfl | rfl | rfl | rfl | rfl | rfl <;> simp [World.setCell, Array.getElem?_modify, h2]
theorem LB.set1 {w : World} {g s0 s1 d : Nat} (h : LB w g s0 s1) (hd : d < 9) (hs : s1 < 2 ^ d) : LB (w.setCell ⟨g, 9 + d, none⟩ (.bool true)) g s0 (s1 + 2 ^ d) := by
  have h2 : w.heap[g]? = _ := h
  show (w.setCell ⟨g, 9 + d, none⟩ (.bool true)).heap[g]? = _
  unfold LBo
  simp only [bit_grow2 hs]
  have hj : d = 0 ∨ d = 1 ∨ d = 2 ∨ d = 3 ∨ d = 4 ∨ d = 5 ∨ d = 6 ∨ d = 7 ∨ d = 8 := by omega
  rcases hj with rfl | rfl | rfl | rfl | rfl | rfl | rfl | rfl | rfl <;> simp [World.setCell, Array.getElem?_modify, h2]
theorem LB.at0 {w : World} {g s0 s1 d : Nat} (h : LB w g s0 s1) (hd : d < 9) : w.cell? ⟨g, d, none⟩ = some (.bool (bB s0 d)) ∧ w.frozen? ⟨g, d, none⟩ = false := by
  have h2 : w.heap[g]? = _ := h
  have hj : d = 0 ∨ d = 1 ∨ d = 2 ∨ d = 3 ∨ d = 4 ∨ d = 5 ∨ d = 6 ∨ d = 7 ∨ d = 8 := by omega
  rcases hj with rfl | rfl | rfl | rfl | rfl | rfl | rfl | rfl | rfl <;> simp [World.cell?, World.frozen?, h2]
theorem LB.at1 {w : World} {g s0 s1 d : Nat} (h : LB w g s0 s1) (hd : d < 9) : w.cell? ⟨g, 9 + d, none⟩ = some (.bool (bB s1 d)) ∧ w.frozen? ⟨g, 9 + d, none⟩ = false := by
  have h2 : w.heap[g]? = _ := h
  have hj : d = 0 ∨ d = 1 ∨ d = 2 ∨ d = 3 ∨ d = 4 ∨ d = 5 ∨ d = 6 ∨ d = 7 ∨ d = 8 := by omega
  rcases hj with rfl | rfl | rfl | rfl | rfl | rfl | rfl | rfl | rfl <;> simp [World.cell?, World.frozen?, h2]
/-- what the outer loop holds: k rounds done -/
structure OSt (RR : Except Nat (Nat × Nat)) (l : List UInt8) (k at_ : Nat) (last : Int) (s0 s1 : Nat) : Prop where
  k2 : k ≤ 2
  le : at_ ≤ l.length
  z : k = 0 → LfS RR l at_ 0 0 0 0 ∧ s0 = 0 ∧ s1 = 0
  o : k = 1 → LfS RR l at_ 1 last s0 0 ∧ s1 = 0 ∧ ∀ h : at_ < l.length, ¬ isDg last l[at_]
  t : k = 2 → LfS RR l at_ 3 last s0 s1 ∧ ∀ h : at_ < l.length, ¬ isDg last l[at_]
theorem lf_end {RR : Except Nat (Nat × Nat)} {l : List UInt8} {A st s0 s1 : Nat} {last : Int} (h : LfS RR l A st last s0 s1) (ha : A = l.length) (hs : st ≠ 3) : RR = .error A := by
  subst ha
  have := h.fin
  rwa [if_neg hs] at this
theorem lf_go0 {RR : Except Nat (Nat × Nat)} {l : List UInt8} {A : Nat} {c : UInt8} (h : LfS RR l A 0 0 0 0) (ha : A < l.length) (hc : l[A] = c) : (c = 66 → LfS RR l (A + 1) 1 (-1) 0 0) ∧ (c ≠ 66 → RR = .error A) :=
  ⟨fun e => h.next ha hc (r := (1, -1, 0, 0)) (by unfold takeF; rw [if_pos rfl, if_pos e]), fun e => h.bad ha hc (by unfold takeF; rw [if_pos rfl, if_neg e])⟩
theorem lf_go1 {RR : Except Nat (Nat × Nat)} {l : List UInt8} {A s0 s1 : Nat} {last : Int} {c : UInt8} (h : LfS RR l A 1 last s0 s1) (ha : A < l.length) (hc : l[A] = c) (hn : ¬ isDg last c) : (c = 47 → LfS RR l (A + 1) 2 last s0 s1) ∧ (c ≠ 47 → RR = .error A) :=
  ⟨fun e => h.next ha hc (r := (2, last, s0, s1)) (by unfold takeF; rw [if_neg (by omega), if_neg (by omega), if_pos ⟨rfl, e⟩]), fun e => h.bad ha hc (tk1_no h.rd.lo hn e)⟩
theorem lf_go2 {RR : Except Nat (Nat × Nat)} {l : List UInt8} {A s0 s1 : Nat} {last : Int} {c : UInt8} (h : LfS RR l A 2 last s0 s1) (ha : A < l.length) (hc : l[A] = c) : (c = 83 → LfS RR l (A + 1) 3 (-1) s0 s1) ∧ (c ≠ 83 → RR = .error A) :=
  ⟨fun e => h.next ha hc (r := (3, -1, s0, s1)) (by unfold takeF; rw [if_neg (by omega), if_pos rfl, if_pos e]), fun e => h.bad ha hc (by unfold takeF; rw [if_neg (by omega), if_pos rfl, if_neg e])⟩
theorem lf_bad {s : ByteArray} {i : Nat} {RR : Except Nat (Nat × Nat)} (hb : ¬ 32 < s.size) (h : lifeR s = RR) (hr : RR = .error i) : lifeO s = [] ∧ lifeD s = some ([(opPlane, (i : Int))], 6) := by
  obtain ⟨h1, h2⟩ := lifeD_er hb (h.trans hr)
  exact ⟨h2, h1⟩
theorem u8_ne {c : UInt8} {n : Nat} (hn : n < 256) (h : c.toNat ≠ n) : c ≠ UInt8.ofNat n := fun e => h (by rw [e]; simp; omega)
set_option maxHeartbeats 16000000 in
theorem reflife_any (s : ByteArray) (W : World) :
    Calls Tryd.prog 36 #[.string s] W (IntsRef W (lifeO s) (lifeD s)) := by
  have T0 := Tk.nil W
  have T1 := T0.add (fun wv => Below W.heap.size W wv) (bnil W)
  clear T0
  obtain ⟨Wb, hWb⟩ : ∃ Wb, W.alloc (.cells #[.int .i64 0, .slice none 0 0, .slice none 0 0] 48) = Wb := ⟨_, rfl⟩
  have hbWb : Below W.heap.size W Wb := by rw [← hWb]; exact balloc (bnil W) _
  have T2 := T1.up hbWb
  clear T1
  have HWb := Lib.hid hWb
  clear hWb hbWb
  have hz2 : Wb.heap[W.heap.size]? = some (.cells #[.int .i64 0, .slice none 0 0, .slice none 0 0] 48) := by
    rw [← HWb.out]
    exact heap_alloc_new W _
  have hsz1 : W.heap.size + 1 = Wb.heap.size := by rw [← HWb.out]; simp
  have T3 := T2.add (fun wv => wv.heap[W.heap.size]? = some (.cells #[.int .i64 0, .slice none 0 0, .slice none 0 0] 48)) (hz2)
  clear T2
  obtain ⟨g, hg⟩ : ∃ g, Wb.heap.size = g := ⟨_, rfl⟩
  rw [hg] at hsz1
  have HSZ := Lib.hid hsz1
  have HG := Lib.hid hg
  clear hz2 hsz1 hg
  by_cases hbig : 32 < s.size
  · skip
    have hd : lifeD s = some ([(opPlane, 0)], 4) := by unfold lifeD; rw [if_pos hbig]
    have ho : lifeO s = [] := by unfold lifeO; rw [if_neg (by rw [hd]; exact nofun)]
    have hOD := And.intro ho hd
    have hbI : (32 : Int) < (s.size : Int) := by omega
    clear hd ho
    go_enter Tryd.func36, Tryd.ntmps36
    have HOD := Lib.hid (hOD)
    have sb0 : W.heap.size < Wb.heap.size := heap_ltT (T3.out.2)
    go_wp2_with fail
    rw [HWb.out]
    refine (rawNew_fresh _ _ _ _ rfl).mono ?_; rintro e w8 ⟨b1, b2, rfl, lb1, lb2, hw8, hbw8⟩
    have T4 := T3.up hbw8
    clear T3
    obtain ⟨⟨q3, q4, q5⟩, f3, f4, f5⟩ := p_cells (T4.out.2)
    obtain ⟨w9, e9, ⟨r0, r1, r2⟩, hk9, hs9, hw9, hb9⟩ := er_set (Nat.le_refl W.heap.size) (T4.out.2) (T4.out.1.2) (fr_some (by omega)) (fr_some (by omega)) (wc_want hw8)
    have HRET := Lib.hid (And.intro hw9 hb9)
    clear hk9 hs9 hw9 hb9 hw8 lb1 lb2 sb0
    have HE9 := Lib.hid e9
    have HR9 := Lib.hid (And.intro r0 (And.intro r1 r2))
    clear e9 r0 r1 r2
    go_wp2
    rw [HE9.out]
    have r0 := HR9.out.1
    have r1 := HR9.out.2.1
    have r2 := HR9.out.2.2
    refine bodyPost_ret (v := .tuple #[.slice none 0 0, .agg #[.int .i64 4, .slice (some ⟨b1, 0, none⟩) 1 1, .slice (some ⟨b2, 0, none⟩) 1 1]]) (by simp [results, Tryd.results36, go_sem, r0, r1, r2]) rfl ?_
    rw [HOD.out.1, HOD.out.2]
    exact ⟨none, 0, 0, 4, _, 1, 1, _, 1, 1, rfl, RK.nil, HRET.out.1, rfl, HRET.out.2⟩
  have HBG := Lib.hid hbig
  obtain ⟨RR, hRR⟩ : ∃ RR, lifeR s = RR := ⟨_, rfl⟩
  have HRR := Lib.hid hRR
  have hst : LfS RR s.data.toList 0 0 0 0 0 := ⟨by rw [← hRR]; rfl, RdSt.start0⟩
  have HST := Lib.hid hst
  have hsm : s.size ≤ 32 := by omega
  have hll : s.data.toList.length = s.size := by simp
  have HLL := Lib.hid hll
  clear hbig hRR hst hll
  go_enter Tryd.func36, Tryd.ntmps36
  go_wp2_with fail
  rw [HWb.out, HSZ.out]
  obtain ⟨w1, hw1⟩ : ∃ w1, Wb.alloc (LBo 0 0) = w1 := ⟨_, rfl⟩
  have HL1 : Hid (LB w1 g 0 0) := by show LB _ _ _ _; rw [← hw1, ← HG.out]; exact heap_alloc_new Wb _
  have HB1 : Hid (Below g Wb w1) := by rw [← hw1, ← HG.out]; exact balloc (bnil Wb) _
  have e00 : LBo 0 0 = .cells #[.bool false, .bool false, .bool false, .bool false, .bool false, .bool false, .bool false, .bool false, .bool false, .bool false, .bool false, .bool false, .bool false, .bool false, .bool false, .bool false, .bool false, .bool false] 124 := rfl
  rw [e00] at hw1
  rw [hw1]
  clear hw1 e00
  go_loopw [5, 7] (fun ax kx wr => ∃ (kk at_ : Nat) (last : Int) (s0 s1 : Nat), kx = .int .i64 (kk : Nat) ∧ ax = .int .i64 (at_ : Nat) ∧ OSt RR s.data.toList kk at_ last s0 s1 ∧ LB wr g s0 s1 ∧ Below g Wb wr) (fun _ kx _ => 2 - (intOf kx).toNat)
  case atStart => exact ⟨0, 0, 0, 0, 0, rfl, rfl, ⟨by omega, by omega, fun _ => ⟨HST.out, rfl, rfl⟩, (fun h => by cases h), (fun h => by cases h)⟩, HL1.out, HB1.out⟩
  case round =>
    obtain ⟨kk, at_, last, s0, s1, rfl, rfl, hO, hL, hb⟩ := hrel
    have HO := Lib.hid hO
    have HL := Lib.hid hL
    have HB := Lib.hid hb
    have hk2 := hO.k2
    have hle := hO.le
    rw [HLL.out] at hle
    clear hO hL hb HL1 HB1
    generalize wr = wo at *
    by_cases hk0 : kk = 0
    · skip
      subst hk0
      rw [show ((0 : Nat) : Int) = 0 from rfl]
      obtain ⟨hlf, rfl, rfl⟩ := HO.out.z rfl
      have HLF := Lib.hid hlf
      clear hlf HO
      go_wp2_with fail
      have hx0 : (⟨#[66, 47, 83]⟩ : ByteArray).extract 0 1 = ⟨#[66]⟩ := by decide +kernel
      rw [hx0]
      clear hx0
      go_loopw [5, 9] (fun ax ix wr => ∃ i A : Nat, i ≤ 1 ∧ A ≤ s.size ∧ ix = .int .i64 (i : Nat) ∧ ax = .int .i64 (A : Nat) ∧ (i = 0 → LfS RR s.data.toList A 0 0 0 0) ∧ (i = 1 → LfS RR s.data.toList A 1 (-1) 0 0) ∧ LB wr g 0 0 ∧ Below g Wb wr) (fun _ ix _ => 1 - (intOf ix).toNat)
      case atStart => exact ⟨0, at_, by omega, hle, rfl, rfl, fun _ => HLF.out, (fun h => by cases h), HL.out, HB.out⟩
      case round =>
        obtain ⟨i, A, hi, hA, rfl, rfl, h0, h1, hL, hb⟩ := hrel
        have H01 := Lib.hid (And.intro h0 h1)
        have HL3 := Lib.hid hL
        have HB3 := Lib.hid hb
        clear h0 h1 hL hb HL HB HLF
        by_cases hi0 : i = 0
        · skip
          subst hi0
          have HLF3 := Lib.hid (H01.out.1 rfl)
          clear H01
          by_cases hA2 : A < s.size
          · skip
            obtain ⟨c, hc⟩ : ∃ c, s[A] = c := ⟨_, rfl⟩
            have hcl : s.data.toList[A]'(by rw [HLL.out]; exact hA2) = c := hc
            have hgo := lf_go0 HLF3.out (by rw [HLL.out]; exact hA2) hcl
            have a0 : (0 : Int) ≤ (A : Int) := by omega
            have a1 : (A : Int) < (s.size : Int) := by omega
            have a2 : ¬ (s.size : Int) ≤ (A : Int) := by omega
            have a3 : decide ((s.size : Int) ≤ (A : Int)) = false := decide_eq_false a2
            have a4 : ¬ s.size ≤ A := by omega
            have a5 : decide (s.size ≤ A) = false := decide_eq_false a4
            have w0 : ∀ h, ((⟨#[66]⟩ : ByteArray)[0]'h).toNat = 66 := fun _ => rfl
            have HGO := Lib.hid hgo
            clear hgo hcl
            by_cases hce : c.toNat = 66
            · skip
              have hcc : c = UInt8.ofNat 66 := UInt8.toNat_inj.1 (by rw [hce]; rfl)
              have HGN := Lib.hid (HGO.out.1 hcc)
              have hC : s[A].toNat = 66 := by rw [hc]; exact hce
              have hC2 : ((s[A].toNat : Nat) : Int) = 66 := by rw [hC]; rfl
              clear HGO hcc hce hc
              go_wp2_with fail
              go_quiet (fail)
              obtain ⟨wqq, hwq⟩ : ∃ x, wr.drewN nq = x := ⟨_, rfl⟩
              have hbq : Below wr.heap.size wr wqq := by rw [← hwq]; exact bdrewN (bnil wr) nq
              rw [hwq]
              have HLq : Hid (LB wqq g 0 0) := (hbq.block g (heap_ltT HL3.out)).trans HL3.out
              have HBq : Hid (Below g Wb wqq) := HB3.out.trans (hbq.mono (Nat.le_of_lt (heap_ltT HL3.out)))
              clear hwq hbq
              go_wp2
              go_roundw
              case rel => exact ⟨1, A + 1, by omega, by omega, by go_num, by go_num, (fun h => by cases h), fun _ => HGN.out, HLq.out, HBq.out⟩
              case measure => simp [intOf]
            have HGN := Lib.hid (HGO.out.2 (u8_ne (n := 66) (by decide) hce))
            obtain ⟨C, hC⟩ : ∃ C : Nat, s[A].toNat = C := ⟨_, rfl⟩
            have hCn : C ≠ 66 := by rw [← hC, hc]; exact hce
            have hCi : ¬ (C : Int) = 66 := by omega
            have hCb : ((C : Int) != 66) = true := by rw [bne_iff_ne]; exact hCi
            clear HGO hce hc
            go_wp2_with fail
            go_quiet (fail)
            obtain ⟨wqq, hwq⟩ : ∃ x, wr.drewN nq = x := ⟨_, rfl⟩
            have hbq : Below wr.heap.size wr wqq := by rw [← hwq]; exact bdrewN (bnil wr) nq
            rw [hwq]
            have HLq : Hid (LB wqq g 0 0) := (hbq.block g (heap_ltT HL3.out)).trans HL3.out
            have HBq : Hid (Below g Wb wqq) := HB3.out.trans (hbq.mono (Nat.le_of_lt (heap_ltT HL3.out)))
            clear hwq hbq
            have hbT : Below Wb.heap.size Wb wqq := by rw [HG.out]; exact HBq.out
            have T4 := T3.up hbT
            clear T3
            clear hbT
            have HOD := Lib.hid (lf_bad HBG.out HRR.out HGN.out)
            have sb0 : W.heap.size < wqq.heap.size := heap_ltT (T4.out.2)
            go_wp2_with fail
            refine (rawNew_fresh _ _ _ _ rfl).mono ?_; rintro e w8 ⟨b1, b2, rfl, lb1, lb2, hw8, hbw8⟩
            have T5 := T4.up hbw8
            clear T4
            obtain ⟨⟨q3, q4, q5⟩, f3, f4, f5⟩ := p_cells (T5.out.2)
            obtain ⟨w9, e9, ⟨r0, r1, r2⟩, hk9, hs9, hw9, hb9⟩ := er_set (Nat.le_refl W.heap.size) (T5.out.2) (T5.out.1.2) (fr_some (by omega)) (fr_some (by omega)) (wc_want hw8)
            have HRET := Lib.hid (And.intro hw9 hb9)
            clear hk9 hs9 hw9 hb9 hw8 lb1 lb2 sb0
            have HE9 := Lib.hid e9
            have HR9 := Lib.hid (And.intro r0 (And.intro r1 r2))
            clear e9 r0 r1 r2
            go_wp2
            rw [HE9.out]
            have r0 := HR9.out.1
            have r1 := HR9.out.2.1
            have r2 := HR9.out.2.2
            refine bodyPost_ret (v := .tuple #[.slice none 0 0, .agg #[.int .i64 6, .slice (some ⟨b1, 0, none⟩) 1 1, .slice (some ⟨b2, 0, none⟩) 1 1]]) (by simp [results, Tryd.results36, go_sem, r0, r1, r2]) rfl ?_
            rw [HOD.out.1, HOD.out.2]
            exact ⟨none, 0, 0, 6, _, 1, 1, _, 1, 1, rfl, RK.nil, HRET.out.1, rfl, HRET.out.2⟩
          · skip
            obtain rfl : A = s.size := by omega
            have HGN := Lib.hid (lf_end HLF3.out HLL.out.symm (by decide))
            have a1 : (s.size : Int) ≤ (s.size : Int) := by omega
            have a3 : decide ((s.size : Int) ≤ (s.size : Int)) = true := decide_eq_true a1
            have a4 : s.size ≤ s.size := Nat.le_refl _
            have a5 : decide (s.size ≤ s.size) = true := decide_eq_true a4
            go_wp2_with fail
            go_quiet (fail)
            obtain ⟨wqq, hwq⟩ : ∃ x, wr.drewN nq = x := ⟨_, rfl⟩
            have hbq : Below wr.heap.size wr wqq := by rw [← hwq]; exact bdrewN (bnil wr) nq
            rw [hwq]
            have HLq : Hid (LB wqq g 0 0) := (hbq.block g (heap_ltT HL3.out)).trans HL3.out
            have HBq : Hid (Below g Wb wqq) := HB3.out.trans (hbq.mono (Nat.le_of_lt (heap_ltT HL3.out)))
            clear hwq hbq
            have hbT : Below Wb.heap.size Wb wqq := by rw [HG.out]; exact HBq.out
            have T4 := T3.up hbT
            clear T3
            clear hbT
            have HOD := Lib.hid (lf_bad HBG.out HRR.out HGN.out)
            have sb0 : W.heap.size < wqq.heap.size := heap_ltT (T4.out.2)
            go_wp2_with fail
            refine (rawNew_fresh _ _ _ _ rfl).mono ?_; rintro e w8 ⟨b1, b2, rfl, lb1, lb2, hw8, hbw8⟩
            have T5 := T4.up hbw8
            clear T4
            obtain ⟨⟨q3, q4, q5⟩, f3, f4, f5⟩ := p_cells (T5.out.2)
            obtain ⟨w9, e9, ⟨r0, r1, r2⟩, hk9, hs9, hw9, hb9⟩ := er_set (Nat.le_refl W.heap.size) (T5.out.2) (T5.out.1.2) (fr_some (by omega)) (fr_some (by omega)) (wc_want hw8)
            have HRET := Lib.hid (And.intro hw9 hb9)
            clear hk9 hs9 hw9 hb9 hw8 lb1 lb2 sb0
            have HE9 := Lib.hid e9
            have HR9 := Lib.hid (And.intro r0 (And.intro r1 r2))
            clear e9 r0 r1 r2
            go_wp2
            rw [HE9.out]
            have r0 := HR9.out.1
            have r1 := HR9.out.2.1
            have r2 := HR9.out.2.2
            refine bodyPost_ret (v := .tuple #[.slice none 0 0, .agg #[.int .i64 6, .slice (some ⟨b1, 0, none⟩) 1 1, .slice (some ⟨b2, 0, none⟩) 1 1]]) (by simp [results, Tryd.results36, go_sem, r0, r1, r2]) rfl ?_
            rw [HOD.out.1, HOD.out.2]
            exact ⟨none, 0, 0, 6, _, 1, 1, _, 1, 1, rfl, RK.nil, HRET.out.1, rfl, HRET.out.2⟩
        obtain rfl : i = 1 := by omega
        have HLF3 := Lib.hid (H01.out.2 rfl)
        clear H01 hi0
        go_wp2_with fail
        go_loopw [5, 10] (fun ax lx wr => ∃ (A : Nat) (la : Int) (z : Nat), A ≤ s.size ∧ ax = .int .i64 (A : Nat) ∧ lx = .int .i64 la ∧ LfS RR s.data.toList A 1 la z 0 ∧ LB wr g z 0 ∧ Below g Wb wr) (fun ax _ _ => s.size - (intOf ax).toNat)
        case atStart => exact ⟨A, -1, 0, by omega, rfl, rfl, HLF3.out, HL3.out, HB3.out⟩
        case round =>
          obtain ⟨A, la, z, hA, rfl, rfl, hlf, hL, hb⟩ := hrel
          have hlo := hlf.rd.lo
          have hhi := hlf.rd.hi
          have HLF4 := Lib.hid hlf
          have HL4 := Lib.hid hL
          have HB4 := Lib.hid hb
          clear hlf hL hb
          have a0 : (0 : Int) ≤ (A : Int) := by omega
          have HST4 : Hid ((∃ (h : A < s.size), isDg la s[A]) ∨ ∀ h : A < s.data.toList.length, ¬ isDg la s.data.toList[A]) := by
            by_cases h : A < s.size
            · by_cases hd : isDg la s[A]
              · exact .inl ⟨h, hd⟩
              · exact .inr fun _ => hd
            · exact .inr fun h2 => absurd (by rw [← HLL.out]; exact h2) h
          by_cases hdg : ∃ (h : A < s.size), isDg la s[A]
          · skip
            obtain ⟨hA2, hd1, hd2, hd3⟩ := hdg
            obtain ⟨d, hd⟩ : ∃ d : Nat, s[A].toNat = 48 + d := ⟨s[A].toNat - 48, by omega⟩
            have hgo := HLF4.out.next (by rw [HLL.out]; exact hA2) rfl (tk1_dig (c := s[A]) ⟨hd1, hd2, hd3⟩ hd)
            have HGO : Hid (LfS RR s.data.toList (A + 1) 1 (d : Int) (z + 2 ^ d) 0) := hgo
            have hd8 : d ≤ 8 := by omega
            have hzd : z < 2 ^ d := Nat.lt_of_lt_of_le (HLF4.out.rd.g0 rfl) (Nat.pow_le_pow_right (by omega) (by omega))
            have HLn := Lib.hid (HL4.out.set0 (show d < 9 by omega) hzd)
            have hfz := (HL4.out.at0 (show d < 9 by omega)).2
            have hcl := (HL4.out.at0 (show d < 9 by omega)).1
            have HBn := Lib.hid (HB4.out.setCell (p := ⟨g, d, none⟩) (Nat.le_refl g) (.bool true))
            have a1 : (A : Int) < (s.size : Int) := by omega
            have hdI : (((48 + d : Nat) : Int)) = 48 + (d : Int) := by omega
            have b1 : (48 : Int) ≤ 48 + (d : Int) := by omega
            have b2 : 48 + (d : Int) ≤ 56 := by omega
            have b3 : 48 + (d : Int) - 48 = (d : Int) := by omega
            have b4 : la < (d : Int) := by omega
            have b5 : IntKind.i64.wrap (d : Int) = (d : Int) := IntWalk.i64_in _ (by omega)
            have b6 : (0 : Int) ≤ (d : Int) := by omega
            have b7 : (d : Int) < 9 := by omega
            have b8 : IntKind.i64.wrap (48 + (d : Int)) = 48 + (d : Int) := IntWalk.i64_in _ (by omega)
            clear hgo hd1 hd2 hd3 hzd HST4
            go_wp2
            go_roundw
            case rel => exact ⟨A + 1, d, z + 2 ^ d, by omega, by go_num, rfl, HGO.out, HLn.out, HBn.out⟩
            case measure => simp [intOf]; omega
          have HNO : Hid (∀ h : A < s.data.toList.length, ¬ isDg la s.data.toList[A]) := HST4.out.resolve_left hdg
          clear HST4
          by_cases hA2 : A < s.size
          · skip
            have a1 : (A : Int) < (s.size : Int) := by omega
            obtain ⟨C, hC⟩ : ∃ C : Nat, s[A].toNat = C := ⟨_, rfl⟩
            have hnd : ¬ (48 ≤ C ∧ C ≤ 56 ∧ la < (C : Int) - 48) := fun h => hdg ⟨hA2, by unfold isDg; rw [hC]; exact h⟩
            have hC2 : C < 256 := by rw [← hC]; exact UInt8.toNat_lt _
            clear hdg
            by_cases q0 : C < 48
            · skip
              have b1 : ¬ (48 : Int) ≤ (C : Int) := by omega
              clear hnd q0
              go_wp2
              go_roundw
              case rel => exact ⟨1, A, la, z, 0, by go_num, rfl, ⟨by omega, by rw [HLL.out]; exact hA, (fun h => by cases h), fun _ => ⟨HLF4.out, rfl, HNO.out⟩, (fun h => by cases h)⟩, HL4.out, HB4.out⟩
              case measure => simp [intOf]
            by_cases q1 : 56 < C
            · skip
              have b1 : (48 : Int) ≤ (C : Int) := by omega
              have b2 : ¬ (C : Int) ≤ 56 := by omega
              clear hnd q0 q1
              go_wp2
              go_roundw
              case rel => exact ⟨1, A, la, z, 0, by go_num, rfl, ⟨by omega, by rw [HLL.out]; exact hA, (fun h => by cases h), fun _ => ⟨HLF4.out, rfl, HNO.out⟩, (fun h => by cases h)⟩, HL4.out, HB4.out⟩
              case measure => simp [intOf]
            have b1 : (48 : Int) ≤ (C : Int) := by omega
            have b2 : (C : Int) ≤ 56 := by omega
            have b3 : ¬ la < (C : Int) - 48 := by omega
            have b4 : IntKind.i64.wrap ((C : Int) - 48) = (C : Int) - 48 := IntWalk.i64_in _ (by omega)
            clear hnd q0 q1
            go_wp2
            go_roundw
            case rel => exact ⟨1, A, la, z, 0, by go_num, rfl, ⟨by omega, by rw [HLL.out]; exact hA, (fun h => by cases h), fun _ => ⟨HLF4.out, rfl, HNO.out⟩, (fun h => by cases h)⟩, HL4.out, HB4.out⟩
            case measure => simp [intOf]
          · skip
            have a1 : ¬ (A : Int) < (s.size : Int) := by omega
            clear hdg
            go_wp2
            go_roundw
            case rel => exact ⟨1, A, la, z, 0, by go_num, rfl, ⟨by omega, by rw [HLL.out]; exact hA, (fun h => by cases h), fun _ => ⟨HLF4.out, rfl, HNO.out⟩, (fun h => by cases h)⟩, HL4.out, HB4.out⟩
            case measure => simp [intOf]
    by_cases hk1 : kk = 1
    · skip
      subst hk1
      rw [show ((1 : Nat) : Int) = 1 from rfl]
      obtain ⟨hlf, rfl, hno⟩ := HO.out.o rfl
      have HLF := Lib.hid (And.intro hlf hno)
      clear hlf hno HO hk0
      go_wp2_with fail
      have hx0 : (⟨#[66, 47, 83]⟩ : ByteArray).extract 1 3 = ⟨#[47, 83]⟩ := by decide +kernel
      rw [hx0]
      clear hx0
      go_loopw [5, 9] (fun ax ix wr => ∃ i A : Nat, i ≤ 2 ∧ A ≤ s.size ∧ ix = .int .i64 (i : Nat) ∧ ax = .int .i64 (A : Nat) ∧ (i = 0 → LfS RR s.data.toList A 1 last s0 0 ∧ ∀ h : A < s.data.toList.length, ¬ isDg last s.data.toList[A]) ∧ (i = 1 → LfS RR s.data.toList A 2 last s0 0) ∧ (i = 2 → LfS RR s.data.toList A 3 (-1) s0 0) ∧ LB wr g s0 0 ∧ Below g Wb wr) (fun _ ix _ => 2 - (intOf ix).toNat)
      case atStart => exact ⟨0, at_, by omega, hle, rfl, rfl, fun _ => HLF.out, (fun h => by cases h), (fun h => by cases h), HL.out, HB.out⟩
      case round =>
        obtain ⟨i, A, hi, hA, rfl, rfl, h0, h1, h2, hL, hb⟩ := hrel
        have H01 := Lib.hid (And.intro h0 (And.intro h1 h2))
        have HL3 := Lib.hid hL
        have HB3 := Lib.hid hb
        clear h0 h1 h2 hL hb HL HB HLF
        by_cases hi0 : i = 0
        · skip
          subst hi0
          have HLF3 := Lib.hid (H01.out.1 rfl).1
          have HNO3 := Lib.hid (H01.out.1 rfl).2
          clear H01
          by_cases hA2 : A < s.size
          · skip
            obtain ⟨c, hc⟩ : ∃ c, s[A] = c := ⟨_, rfl⟩
            have hcl : s.data.toList[A]'(by rw [HLL.out]; exact hA2) = c := hc
            have hgo := lf_go1 HLF3.out (by rw [HLL.out]; exact hA2) hcl (by rw [← hcl]; exact HNO3.out _)
            have a0 : (0 : Int) ≤ (A : Int) := by omega
            have a1 : (A : Int) < (s.size : Int) := by omega
            have a2 : ¬ (s.size : Int) ≤ (A : Int) := by omega
            have a3 : decide ((s.size : Int) ≤ (A : Int)) = false := decide_eq_false a2
            have a4 : ¬ s.size ≤ A := by omega
            have a5 : decide (s.size ≤ A) = false := decide_eq_false a4
            have w0 : ∀ h, ((⟨#[47, 83]⟩ : ByteArray)[0]'h).toNat = 47 := fun _ => rfl
            have HGO := Lib.hid hgo
            clear hgo hcl
            by_cases hce : c.toNat = 47
            · skip
              have hcc : c = UInt8.ofNat 47 := UInt8.toNat_inj.1 (by rw [hce]; rfl)
              have HGN := Lib.hid (HGO.out.1 hcc)
              have hC : s[A].toNat = 47 := by rw [hc]; exact hce
              have hC2 : ((s[A].toNat : Nat) : Int) = 47 := by rw [hC]; rfl
              clear HGO hcc hce hc
              go_wp2_with fail
              go_quiet (fail)
              obtain ⟨wqq, hwq⟩ : ∃ x, wr.drewN nq = x := ⟨_, rfl⟩
              have hbq : Below wr.heap.size wr wqq := by rw [← hwq]; exact bdrewN (bnil wr) nq
              rw [hwq]
              have HLq : Hid (LB wqq g s0 0) := (hbq.block g (heap_ltT HL3.out)).trans HL3.out
              have HBq : Hid (Below g Wb wqq) := HB3.out.trans (hbq.mono (Nat.le_of_lt (heap_ltT HL3.out)))
              clear hwq hbq
              go_wp2
              go_roundw
              case rel => exact ⟨1, A + 1, by omega, by omega, by go_num, by go_num, (fun h => by cases h), fun _ => HGN.out, (fun h => by cases h), HLq.out, HBq.out⟩
              case measure => simp [intOf]
            have HGN := Lib.hid (HGO.out.2 (u8_ne (n := 47) (by decide) hce))
            obtain ⟨C, hC⟩ : ∃ C : Nat, s[A].toNat = C := ⟨_, rfl⟩
            have hCn : C ≠ 47 := by rw [← hC, hc]; exact hce
            have hCi : ¬ (C : Int) = 47 := by omega
            have hCb : ((C : Int) != 47) = true := by rw [bne_iff_ne]; exact hCi
            clear HGO hce hc
            go_wp2_with fail
            go_quiet (fail)
            obtain ⟨wqq, hwq⟩ : ∃ x, wr.drewN nq = x := ⟨_, rfl⟩
            have hbq : Below wr.heap.size wr wqq := by rw [← hwq]; exact bdrewN (bnil wr) nq
            rw [hwq]
            have HLq : Hid (LB wqq g s0 0) := (hbq.block g (heap_ltT HL3.out)).trans HL3.out
            have HBq : Hid (Below g Wb wqq) := HB3.out.trans (hbq.mono (Nat.le_of_lt (heap_ltT HL3.out)))
            clear hwq hbq
            have hbT : Below Wb.heap.size Wb wqq := by rw [HG.out]; exact HBq.out
            have T4 := T3.up hbT
            clear T3
            clear hbT
            have HOD := Lib.hid (lf_bad HBG.out HRR.out HGN.out)
            have sb0 : W.heap.size < wqq.heap.size := heap_ltT (T4.out.2)
            go_wp2_with fail
            refine (rawNew_fresh _ _ _ _ rfl).mono ?_; rintro e w8 ⟨b1, b2, rfl, lb1, lb2, hw8, hbw8⟩
            have T5 := T4.up hbw8
            clear T4
            obtain ⟨⟨q3, q4, q5⟩, f3, f4, f5⟩ := p_cells (T5.out.2)
            obtain ⟨w9, e9, ⟨r0, r1, r2⟩, hk9, hs9, hw9, hb9⟩ := er_set (Nat.le_refl W.heap.size) (T5.out.2) (T5.out.1.2) (fr_some (by omega)) (fr_some (by omega)) (wc_want hw8)
            have HRET := Lib.hid (And.intro hw9 hb9)
            clear hk9 hs9 hw9 hb9 hw8 lb1 lb2 sb0
            have HE9 := Lib.hid e9
            have HR9 := Lib.hid (And.intro r0 (And.intro r1 r2))
            clear e9 r0 r1 r2
            go_wp2
            rw [HE9.out]
            have r0 := HR9.out.1
            have r1 := HR9.out.2.1
            have r2 := HR9.out.2.2
            refine bodyPost_ret (v := .tuple #[.slice none 0 0, .agg #[.int .i64 6, .slice (some ⟨b1, 0, none⟩) 1 1, .slice (some ⟨b2, 0, none⟩) 1 1]]) (by simp [results, Tryd.results36, go_sem, r0, r1, r2]) rfl ?_
            rw [HOD.out.1, HOD.out.2]
            exact ⟨none, 0, 0, 6, _, 1, 1, _, 1, 1, rfl, RK.nil, HRET.out.1, rfl, HRET.out.2⟩
          · skip
            obtain rfl : A = s.size := by omega
            have HGN := Lib.hid (lf_end HLF3.out HLL.out.symm (by decide))
            have a1 : (s.size : Int) ≤ (s.size : Int) := by omega
            have a3 : decide ((s.size : Int) ≤ (s.size : Int)) = true := decide_eq_true a1
            have a4 : s.size ≤ s.size := Nat.le_refl _
            have a5 : decide (s.size ≤ s.size) = true := decide_eq_true a4
            go_wp2_with fail
            go_quiet (fail)
            obtain ⟨wqq, hwq⟩ : ∃ x, wr.drewN nq = x := ⟨_, rfl⟩
            have hbq : Below wr.heap.size wr wqq := by rw [← hwq]; exact bdrewN (bnil wr) nq
            rw [hwq]
            have HLq : Hid (LB wqq g s0 0) := (hbq.block g (heap_ltT HL3.out)).trans HL3.out
            have HBq : Hid (Below g Wb wqq) := HB3.out.trans (hbq.mono (Nat.le_of_lt (heap_ltT HL3.out)))
            clear hwq hbq
            have hbT : Below Wb.heap.size Wb wqq := by rw [HG.out]; exact HBq.out
            have T4 := T3.up hbT
            clear T3
            clear hbT
            have HOD := Lib.hid (lf_bad HBG.out HRR.out HGN.out)
            have sb0 : W.heap.size < wqq.heap.size := heap_ltT (T4.out.2)
            go_wp2_with fail
            refine (rawNew_fresh _ _ _ _ rfl).mono ?_; rintro e w8 ⟨b1, b2, rfl, lb1, lb2, hw8, hbw8⟩
            have T5 := T4.up hbw8
            clear T4
            obtain ⟨⟨q3, q4, q5⟩, f3, f4, f5⟩ := p_cells (T5.out.2)
            obtain ⟨w9, e9, ⟨r0, r1, r2⟩, hk9, hs9, hw9, hb9⟩ := er_set (Nat.le_refl W.heap.size) (T5.out.2) (T5.out.1.2) (fr_some (by omega)) (fr_some (by omega)) (wc_want hw8)
            have HRET := Lib.hid (And.intro hw9 hb9)
            clear hk9 hs9 hw9 hb9 hw8 lb1 lb2 sb0
            have HE9 := Lib.hid e9
            have HR9 := Lib.hid (And.intro r0 (And.intro r1 r2))
            clear e9 r0 r1 r2
            go_wp2
            rw [HE9.out]
            have r0 := HR9.out.1
            have r1 := HR9.out.2.1
            have r2 := HR9.out.2.2
            refine bodyPost_ret (v := .tuple #[.slice none 0 0, .agg #[.int .i64 6, .slice (some ⟨b1, 0, none⟩) 1 1, .slice (some ⟨b2, 0, none⟩) 1 1]]) (by simp [results, Tryd.results36, go_sem, r0, r1, r2]) rfl ?_
            rw [HOD.out.1, HOD.out.2]
            exact ⟨none, 0, 0, 6, _, 1, 1, _, 1, 1, rfl, RK.nil, HRET.out.1, rfl, HRET.out.2⟩
        by_cases hi1 : i = 1
        · skip
          subst hi1
          have HLF3 := Lib.hid (H01.out.2.1 rfl)
          clear H01 hi0
          by_cases hA2 : A < s.size
          · skip
            obtain ⟨c, hc⟩ : ∃ c, s[A] = c := ⟨_, rfl⟩
            have hcl : s.data.toList[A]'(by rw [HLL.out]; exact hA2) = c := hc
            have hgo := lf_go2 HLF3.out (by rw [HLL.out]; exact hA2) hcl
            have a0 : (0 : Int) ≤ (A : Int) := by omega
            have a1 : (A : Int) < (s.size : Int) := by omega
            have a2 : ¬ (s.size : Int) ≤ (A : Int) := by omega
            have a3 : decide ((s.size : Int) ≤ (A : Int)) = false := decide_eq_false a2
            have a4 : ¬ s.size ≤ A := by omega
            have a5 : decide (s.size ≤ A) = false := decide_eq_false a4
            have w0 : ∀ h, ((⟨#[47, 83]⟩ : ByteArray)[1]'h).toNat = 83 := fun _ => rfl
            have HGO := Lib.hid hgo
            clear hgo hcl
            by_cases hce : c.toNat = 83
            · skip
              have hcc : c = UInt8.ofNat 83 := UInt8.toNat_inj.1 (by rw [hce]; rfl)
              have HGN := Lib.hid (HGO.out.1 hcc)
              have hC : s[A].toNat = 83 := by rw [hc]; exact hce
              have hC2 : ((s[A].toNat : Nat) : Int) = 83 := by rw [hC]; rfl
              clear HGO hcc hce hc
              go_wp2_with fail
              go_quiet (fail)
              obtain ⟨wqq, hwq⟩ : ∃ x, wr.drewN nq = x := ⟨_, rfl⟩
              have hbq : Below wr.heap.size wr wqq := by rw [← hwq]; exact bdrewN (bnil wr) nq
              rw [hwq]
              have HLq : Hid (LB wqq g s0 0) := (hbq.block g (heap_ltT HL3.out)).trans HL3.out
              have HBq : Hid (Below g Wb wqq) := HB3.out.trans (hbq.mono (Nat.le_of_lt (heap_ltT HL3.out)))
              clear hwq hbq
              go_wp2
              go_roundw
              case rel => exact ⟨2, A + 1, by omega, by omega, by go_num, by go_num, (fun h => by cases h), (fun h => by cases h), fun _ => HGN.out, HLq.out, HBq.out⟩
              case measure => simp [intOf]
            have HGN := Lib.hid (HGO.out.2 (u8_ne (n := 83) (by decide) hce))
            obtain ⟨C, hC⟩ : ∃ C : Nat, s[A].toNat = C := ⟨_, rfl⟩
            have hCn : C ≠ 83 := by rw [← hC, hc]; exact hce
            have hCi : ¬ (C : Int) = 83 := by omega
            have hCb : ((C : Int) != 83) = true := by rw [bne_iff_ne]; exact hCi
            clear HGO hce hc
            go_wp2_with fail
            go_quiet (fail)
            obtain ⟨wqq, hwq⟩ : ∃ x, wr.drewN nq = x := ⟨_, rfl⟩
            have hbq : Below wr.heap.size wr wqq := by rw [← hwq]; exact bdrewN (bnil wr) nq
            rw [hwq]
            have HLq : Hid (LB wqq g s0 0) := (hbq.block g (heap_ltT HL3.out)).trans HL3.out
            have HBq : Hid (Below g Wb wqq) := HB3.out.trans (hbq.mono (Nat.le_of_lt (heap_ltT HL3.out)))
            clear hwq hbq
            have hbT : Below Wb.heap.size Wb wqq := by rw [HG.out]; exact HBq.out
            have T4 := T3.up hbT
            clear T3
            clear hbT
            have HOD := Lib.hid (lf_bad HBG.out HRR.out HGN.out)
            have sb0 : W.heap.size < wqq.heap.size := heap_ltT (T4.out.2)
            go_wp2_with fail
            refine (rawNew_fresh _ _ _ _ rfl).mono ?_; rintro e w8 ⟨b1, b2, rfl, lb1, lb2, hw8, hbw8⟩
            have T5 := T4.up hbw8
            clear T4
            obtain ⟨⟨q3, q4, q5⟩, f3, f4, f5⟩ := p_cells (T5.out.2)
            obtain ⟨w9, e9, ⟨r0, r1, r2⟩, hk9, hs9, hw9, hb9⟩ := er_set (Nat.le_refl W.heap.size) (T5.out.2) (T5.out.1.2) (fr_some (by omega)) (fr_some (by omega)) (wc_want hw8)
            have HRET := Lib.hid (And.intro hw9 hb9)
            clear hk9 hs9 hw9 hb9 hw8 lb1 lb2 sb0
            have HE9 := Lib.hid e9
            have HR9 := Lib.hid (And.intro r0 (And.intro r1 r2))
            clear e9 r0 r1 r2
            go_wp2
            rw [HE9.out]
            have r0 := HR9.out.1
            have r1 := HR9.out.2.1
            have r2 := HR9.out.2.2
            refine bodyPost_ret (v := .tuple #[.slice none 0 0, .agg #[.int .i64 6, .slice (some ⟨b1, 0, none⟩) 1 1, .slice (some ⟨b2, 0, none⟩) 1 1]]) (by simp [results, Tryd.results36, go_sem, r0, r1, r2]) rfl ?_
            rw [HOD.out.1, HOD.out.2]
            exact ⟨none, 0, 0, 6, _, 1, 1, _, 1, 1, rfl, RK.nil, HRET.out.1, rfl, HRET.out.2⟩
          · skip
            obtain rfl : A = s.size := by omega
            have HGN := Lib.hid (lf_end HLF3.out HLL.out.symm (by decide))
            have a1 : (s.size : Int) ≤ (s.size : Int) := by omega
            have a3 : decide ((s.size : Int) ≤ (s.size : Int)) = true := decide_eq_true a1
            have a4 : s.size ≤ s.size := Nat.le_refl _
            have a5 : decide (s.size ≤ s.size) = true := decide_eq_true a4
            go_wp2_with fail
            go_quiet (fail)
            obtain ⟨wqq, hwq⟩ : ∃ x, wr.drewN nq = x := ⟨_, rfl⟩
            have hbq : Below wr.heap.size wr wqq := by rw [← hwq]; exact bdrewN (bnil wr) nq
            rw [hwq]
            have HLq : Hid (LB wqq g s0 0) := (hbq.block g (heap_ltT HL3.out)).trans HL3.out
            have HBq : Hid (Below g Wb wqq) := HB3.out.trans (hbq.mono (Nat.le_of_lt (heap_ltT HL3.out)))
            clear hwq hbq
            have hbT : Below Wb.heap.size Wb wqq := by rw [HG.out]; exact HBq.out
            have T4 := T3.up hbT
            clear T3
            clear hbT
            have HOD := Lib.hid (lf_bad HBG.out HRR.out HGN.out)
            have sb0 : W.heap.size < wqq.heap.size := heap_ltT (T4.out.2)
            go_wp2_with fail
            refine (rawNew_fresh _ _ _ _ rfl).mono ?_; rintro e w8 ⟨b1, b2, rfl, lb1, lb2, hw8, hbw8⟩
            have T5 := T4.up hbw8
            clear T4
            obtain ⟨⟨q3, q4, q5⟩, f3, f4, f5⟩ := p_cells (T5.out.2)
            obtain ⟨w9, e9, ⟨r0, r1, r2⟩, hk9, hs9, hw9, hb9⟩ := er_set (Nat.le_refl W.heap.size) (T5.out.2) (T5.out.1.2) (fr_some (by omega)) (fr_some (by omega)) (wc_want hw8)
            have HRET := Lib.hid (And.intro hw9 hb9)
            clear hk9 hs9 hw9 hb9 hw8 lb1 lb2 sb0
            have HE9 := Lib.hid e9
            have HR9 := Lib.hid (And.intro r0 (And.intro r1 r2))
            clear e9 r0 r1 r2
            go_wp2
            rw [HE9.out]
            have r0 := HR9.out.1
            have r1 := HR9.out.2.1
            have r2 := HR9.out.2.2
            refine bodyPost_ret (v := .tuple #[.slice none 0 0, .agg #[.int .i64 6, .slice (some ⟨b1, 0, none⟩) 1 1, .slice (some ⟨b2, 0, none⟩) 1 1]]) (by simp [results, Tryd.results36, go_sem, r0, r1, r2]) rfl ?_
            rw [HOD.out.1, HOD.out.2]
            exact ⟨none, 0, 0, 6, _, 1, 1, _, 1, 1, rfl, RK.nil, HRET.out.1, rfl, HRET.out.2⟩
        obtain rfl : i = 2 := by omega
        have HLF3 := Lib.hid (H01.out.2.2 rfl)
        clear H01 hi0 hi1
        go_wp2_with fail
        go_loopw [5, 10] (fun ax lx wr => ∃ (A : Nat) (la : Int) (z : Nat), A ≤ s.size ∧ ax = .int .i64 (A : Nat) ∧ lx = .int .i64 la ∧ LfS RR s.data.toList A 3 la s0 z ∧ LB wr g s0 z ∧ Below g Wb wr) (fun ax _ _ => s.size - (intOf ax).toNat)
        case atStart => exact ⟨A, -1, 0, by omega, rfl, rfl, HLF3.out, HL3.out, HB3.out⟩
        case round =>
          obtain ⟨A, la, z, hA, rfl, rfl, hlf, hL, hb⟩ := hrel
          have hlo := hlf.rd.lo
          have hhi := hlf.rd.hi
          have HLF4 := Lib.hid hlf
          have HL4 := Lib.hid hL
          have HB4 := Lib.hid hb
          clear hlf hL hb
          have a0 : (0 : Int) ≤ (A : Int) := by omega
          have HST4 : Hid ((∃ (h : A < s.size), isDg la s[A]) ∨ ∀ h : A < s.data.toList.length, ¬ isDg la s.data.toList[A]) := by
            by_cases h : A < s.size
            · by_cases hd : isDg la s[A]
              · exact .inl ⟨h, hd⟩
              · exact .inr fun _ => hd
            · exact .inr fun h2 => absurd (by rw [← HLL.out]; exact h2) h
          by_cases hdg : ∃ (h : A < s.size), isDg la s[A]
          · skip
            obtain ⟨hA2, hd1, hd2, hd3⟩ := hdg
            obtain ⟨d, hd⟩ : ∃ d : Nat, s[A].toNat = 48 + d := ⟨s[A].toNat - 48, by omega⟩
            have hgo := HLF4.out.next (by rw [HLL.out]; exact hA2) rfl (tk3_dig (c := s[A]) ⟨hd1, hd2, hd3⟩ hd)
            have HGO : Hid (LfS RR s.data.toList (A + 1) 3 (d : Int) s0 (z + 2 ^ d)) := hgo
            have hd8 : d ≤ 8 := by omega
            have hzd : z < 2 ^ d := Nat.lt_of_lt_of_le (HLF4.out.rd.g1 rfl) (Nat.pow_le_pow_right (by omega) (by omega))
            have HLn := Lib.hid (HL4.out.set1 (show d < 9 by omega) hzd)
            have hfz := (HL4.out.at1 (show d < 9 by omega)).2
            have hcl := (HL4.out.at1 (show d < 9 by omega)).1
            have HBn := Lib.hid (HB4.out.setCell (p := ⟨g, 9 + d, none⟩) (Nat.le_refl g) (.bool true))
            have a1 : (A : Int) < (s.size : Int) := by omega
            have hdI : (((48 + d : Nat) : Int)) = 48 + (d : Int) := by omega
            have b1 : (48 : Int) ≤ 48 + (d : Int) := by omega
            have b2 : 48 + (d : Int) ≤ 56 := by omega
            have b3 : 48 + (d : Int) - 48 = (d : Int) := by omega
            have b4 : la < (d : Int) := by omega
            have b5 : IntKind.i64.wrap (d : Int) = (d : Int) := IntWalk.i64_in _ (by omega)
            have b6 : (0 : Int) ≤ (d : Int) := by omega
            have b7 : (d : Int) < 9 := by omega
            have b8 : IntKind.i64.wrap (48 + (d : Int)) = 48 + (d : Int) := IntWalk.i64_in _ (by omega)
            clear hgo hd1 hd2 hd3 hzd HST4
            go_wp2
            go_roundw
            case rel => exact ⟨A + 1, d, z + 2 ^ d, by omega, by go_num, rfl, HGO.out, HLn.out, HBn.out⟩
            case measure => simp [intOf]; omega
          have HNO : Hid (∀ h : A < s.data.toList.length, ¬ isDg la s.data.toList[A]) := HST4.out.resolve_left hdg
          clear HST4
          by_cases hA2 : A < s.size
          · skip
            have a1 : (A : Int) < (s.size : Int) := by omega
            obtain ⟨C, hC⟩ : ∃ C : Nat, s[A].toNat = C := ⟨_, rfl⟩
            have hnd : ¬ (48 ≤ C ∧ C ≤ 56 ∧ la < (C : Int) - 48) := fun h => hdg ⟨hA2, by unfold isDg; rw [hC]; exact h⟩
            have hC2 : C < 256 := by rw [← hC]; exact UInt8.toNat_lt _
            clear hdg
            by_cases q0 : C < 48
            · skip
              have b1 : ¬ (48 : Int) ≤ (C : Int) := by omega
              clear hnd q0
              go_wp2
              go_roundw
              case rel => exact ⟨2, A, la, s0, z, by go_num, rfl, ⟨by omega, by rw [HLL.out]; exact hA, (fun h => by cases h), (fun h => by cases h), fun _ => ⟨HLF4.out, HNO.out⟩⟩, HL4.out, HB4.out⟩
              case measure => simp [intOf]
            by_cases q1 : 56 < C
            · skip
              have b1 : (48 : Int) ≤ (C : Int) := by omega
              have b2 : ¬ (C : Int) ≤ 56 := by omega
              clear hnd q0 q1
              go_wp2
              go_roundw
              case rel => exact ⟨2, A, la, s0, z, by go_num, rfl, ⟨by omega, by rw [HLL.out]; exact hA, (fun h => by cases h), (fun h => by cases h), fun _ => ⟨HLF4.out, HNO.out⟩⟩, HL4.out, HB4.out⟩
              case measure => simp [intOf]
            have b1 : (48 : Int) ≤ (C : Int) := by omega
            have b2 : (C : Int) ≤ 56 := by omega
            have b3 : ¬ la < (C : Int) - 48 := by omega
            have b4 : IntKind.i64.wrap ((C : Int) - 48) = (C : Int) - 48 := IntWalk.i64_in _ (by omega)
            clear hnd q0 q1
            go_wp2
            go_roundw
            case rel => exact ⟨2, A, la, s0, z, by go_num, rfl, ⟨by omega, by rw [HLL.out]; exact hA, (fun h => by cases h), (fun h => by cases h), fun _ => ⟨HLF4.out, HNO.out⟩⟩, HL4.out, HB4.out⟩
            case measure => simp [intOf]
          · skip
            have a1 : ¬ (A : Int) < (s.size : Int) := by omega
            clear hdg
            go_wp2
            go_roundw
            case rel => exact ⟨2, A, la, s0, z, by go_num, rfl, ⟨by omega, by rw [HLL.out]; exact hA, (fun h => by cases h), (fun h => by cases h), fun _ => ⟨HLF4.out, HNO.out⟩⟩, HL4.out, HB4.out⟩
            case measure => simp [intOf]
    obtain rfl : kk = 2 := by omega
    rw [show ((2 : Nat) : Int) = 2 from rfl]
    obtain ⟨hlf, hno⟩ := HO.out.t rfl
    have HLF := Lib.hid (And.intro hlf hno)
    clear hlf hno HO hk0 hk1
    by_cases hA2 : at_ < s.size
    · skip
      have HGN := Lib.hid (HLF.out.1.bad (by rw [HLL.out]; exact hA2) rfl (tk3_no HLF.out.1.rd.lo (HLF.out.2 (by rw [HLL.out]; exact hA2))))
      have a1 : (at_ : Int) < (s.size : Int) := by omega
      have hbT : Below Wb.heap.size Wb wo := by rw [HG.out]; exact HB.out
      have T4 := T3.up hbT
      clear T3
      clear hbT
      have HOD := Lib.hid (lf_bad HBG.out HRR.out HGN.out)
      have sb0 : W.heap.size < wo.heap.size := heap_ltT (T4.out.2)
      go_wp2_with fail
      refine (rawNew_fresh _ _ _ _ rfl).mono ?_; rintro e w8 ⟨b1, b2, rfl, lb1, lb2, hw8, hbw8⟩
      have T5 := T4.up hbw8
      clear T4
      obtain ⟨⟨q3, q4, q5⟩, f3, f4, f5⟩ := p_cells (T5.out.2)
      obtain ⟨w9, e9, ⟨r0, r1, r2⟩, hk9, hs9, hw9, hb9⟩ := er_set (Nat.le_refl W.heap.size) (T5.out.2) (T5.out.1.2) (fr_some (by omega)) (fr_some (by omega)) (wc_want hw8)
      have HRET := Lib.hid (And.intro hw9 hb9)
      clear hk9 hs9 hw9 hb9 hw8 lb1 lb2 sb0
      have HE9 := Lib.hid e9
      have HR9 := Lib.hid (And.intro r0 (And.intro r1 r2))
      clear e9 r0 r1 r2
      go_wp2
      rw [HE9.out]
      have r0 := HR9.out.1
      have r1 := HR9.out.2.1
      have r2 := HR9.out.2.2
      refine bodyPost_ret (v := .tuple #[.slice none 0 0, .agg #[.int .i64 6, .slice (some ⟨b1, 0, none⟩) 1 1, .slice (some ⟨b2, 0, none⟩) 1 1]]) (by simp [results, Tryd.results36, go_sem, r0, r1, r2]) rfl ?_
      rw [HOD.out.1, HOD.out.2]
      exact ⟨none, 0, 0, 6, _, 1, 1, _, 1, 1, rfl, RK.nil, HRET.out.1, rfl, HRET.out.2⟩
    have a1 : ¬ (at_ : Int) < (s.size : Int) := by omega
    have hfin := HLF.out.1
    rw [show at_ = s.data.toList.length by rw [HLL.out]; omega] at hfin
    have hok : RR = .ok (s0, s1) := by have h := hfin.fin; rwa [if_pos rfl] at h
    obtain ⟨hd, ho⟩ := lifeD_ok HBG.out (HRR.out.trans hok)
    have HOD := Lib.hid (And.intro ho hd)
    clear hfin hok hd ho
    have c0 := (HL.out.at0 (show 0 < 9 by omega)).1
    have c1 := (HL.out.at0 (show 1 < 9 by omega)).1
    have c2 := (HL.out.at0 (show 2 < 9 by omega)).1
    have c3 := (HL.out.at0 (show 3 < 9 by omega)).1
    have c4 := (HL.out.at0 (show 4 < 9 by omega)).1
    have c5 := (HL.out.at0 (show 5 < 9 by omega)).1
    have c6 := (HL.out.at0 (show 6 < 9 by omega)).1
    have c7 := (HL.out.at0 (show 7 < 9 by omega)).1
    have c8 := (HL.out.at0 (show 8 < 9 by omega)).1
    have d0 : wo.cell? ⟨g, 9, none⟩ = some (.bool (bB s1 0)) := (HL.out.at1 (show 0 < 9 by omega)).1
    have d1 : wo.cell? ⟨g, 10, none⟩ = some (.bool (bB s1 1)) := (HL.out.at1 (show 1 < 9 by omega)).1
    have d2 : wo.cell? ⟨g, 11, none⟩ = some (.bool (bB s1 2)) := (HL.out.at1 (show 2 < 9 by omega)).1
    have d3 : wo.cell? ⟨g, 12, none⟩ = some (.bool (bB s1 3)) := (HL.out.at1 (show 3 < 9 by omega)).1
    have d4 : wo.cell? ⟨g, 13, none⟩ = some (.bool (bB s1 4)) := (HL.out.at1 (show 4 < 9 by omega)).1
    have d5 : wo.cell? ⟨g, 14, none⟩ = some (.bool (bB s1 5)) := (HL.out.at1 (show 5 < 9 by omega)).1
    have d6 : wo.cell? ⟨g, 15, none⟩ = some (.bool (bB s1 6)) := (HL.out.at1 (show 6 < 9 by omega)).1
    have d7 : wo.cell? ⟨g, 16, none⟩ = some (.bool (bB s1 7)) := (HL.out.at1 (show 7 < 9 by omega)).1
    have d8 : wo.cell? ⟨g, 17, none⟩ = some (.bool (bB s1 8)) := (HL.out.at1 (show 8 < 9 by omega)).1
    have hbT : Below Wb.heap.size Wb wo := by rw [HG.out]; exact HB.out
    have T4 := T3.up hbT
    clear T3
    clear hbT
    have sb0 : W.heap.size < wo.heap.size := heap_ltT (T4.out.2)
    go_wp2_with fail
    refine (refcounted s0 s1 wo).mono ?_; rintro e w5 ⟨g5, cc5, rfl, ho5, hbw5⟩
    have T5 := T4.up hbw5
    clear T4
    clear c0 d0 c1 d1 c2 d2 c3 d3 c4 d4 c5 d5 c6 d6 c7 d7 c8 d8
    obtain ⟨⟨q3, q4, q5⟩, f3, f4, f5⟩ := p_cells (T5.out.2)
    obtain ⟨w9, e9, ⟨r0, r1, r2⟩, hk9, hs9, hw9, hb9⟩ := er_set (Nat.le_refl W.heap.size) (T5.out.2) (T5.out.1.2) fr_none fr_none (wc_none w5)
    have HRK : Hid (RK .i64 w9 (some ⟨g5, 0, none⟩) 512 (tabOf s0 s1)) := OwI.rk (base := wo.heap.size) (c := cc5) ⟨own_of_heap' ho5.own fun b hb => hk9 b (by have h1 := (ho5.own.lt b hb).1; omega)⟩
    have HRET := Lib.hid (And.intro hw9 hb9)
    clear hk9 hs9 hw9 hb9 ho5 sb0
    have HE9 := Lib.hid e9
    have HR9 := Lib.hid (And.intro r0 (And.intro r1 r2))
    clear e9 r0 r1 r2
    go_wp2_with fail
    first | rw [HE9.out] | (go_region; all_goals go_wp2; rw [HE9.out])
    have r0 := HR9.out.1
    have r1 := HR9.out.2.1
    have r2 := HR9.out.2.2
    refine bodyPost_ret (v := .tuple #[.slice (some ⟨g5, 0, none⟩) 512 cc5, .agg #[.int .i64 0, .slice none 0 0, .slice none 0 0]]) (by simp [results, Tryd.results36, go_sem, r0, r1, r2]) rfl ?_
    rw [HOD.out.1, HOD.out.2]
    exact ⟨_, _, _, 0, none, 0, 0, none, 0, 0, rfl, HRK.out, HRET.out.1, rfl, HRET.out.2⟩
end Go.Proofs.YtocfkmdoalhjmaaDoor
namespace Go.Proofs.YtocfkmdoalhjmaaDoor
open Go.RowKit
set_option linter.unusedVariables false
set_option maxRecDepth 100000

theorem refplcheck_er (a : Option Addr) (n c : Nat) (l : List Int) (W : World) (hR : RK .i64 W a n l) (hm : n ≤ maxLen) (ht : tabD l ≠ none) :
    Calls Tryd.prog 35 #[.slice a n c] W fun e w' => ∃ N a1 n1 c1 a2 n2 c2, e = .returned (.agg #[.int .i64 N, .slice a1 n1 c1, .slice a2 n2 c2]) ∧ WC w' (.agg #[.int .i64 N, .slice a1 n1 c1, .slice a2 n2 c2]) (tabD l) ∧ Fr W.heap.size a1 ∧ Fr W.heap.size a2 ∧ (N != 0) = true ∧ Below W.heap.size W w' := by
  refine (refplcheck_any a n c l W hR hm).mono ?_
  rintro e w' ⟨N, a1, n1, c1, a2, n2, c2, rfl, hw, f1, f2, hN, _, hb⟩
  refine ⟨N, a1, n1, c1, a2, n2, c2, rfl, hw, f1, f2, ?_, hb⟩
  rw [hN]
  cases hq : tabD l with
  | none => exact absurd hq ht
  | some x => rfl
/-- a row of bytes of the call's own -/
structure OwU (w : World) (base : Nat) (a : Option Addr) (n c : Nat) (L : List UInt8) : Prop where
  own : w.ownsRow base 5 1 (.slice a n c) n (Lib.byteCells L)
theorem OwU.nil (w : World) (base : Nat) : OwU w base none 0 0 [] := ⟨World.ownsRow_nil _ _ _ _⟩
theorem OwU.app {w : World} {base : Nat} {a : Option Addr} {n c : Nat} {L : List UInt8} {v : Int} (b : UInt8) (hv : v = (b.toNat : Int)) (h : w.ownsRow base 5 1 (.slice a (n + 1) c) (n + 1) (Lib.byteCells L ++ (#[Value.int .u8 v] : Array Value).toList)) : OwU w base a (n + 1) c (L ++ [b]) := by
  refine ⟨?_⟩
  rw [show Lib.byteCells (L ++ [b]) = Lib.byteCells L ++ (#[Value.int .u8 v] : Array Value).toList by simp [Lib.byteCells, hv]]
  exact h
theorem conv_own {w : World} {base : Nat} {a : Option Addr} {n c : Nat} {L : List UInt8} (h : OwU w base a n c L) : (convert 67 9 (.slice a n c)).run Tryd.prog w = .ok (.string ⟨L.toArray⟩) w := by
  have h1 : Lib.byteCells L = (L.map fun b => ((b.toNat : Nat) : Int)).map (Value.int .u8) := by simp [Lib.byteCells]
  have h2 := h.own
  rw [h1] at h2
  rw [conv_str (c := c) Tryd.underlying67 Tryd.underlying5 Tryd.underlying9 (owns_rd h2).2, strOfU8]
def StrRef (W : World) (s : ByteArray) (x : ErrD) (e : Ending) (w' : World) : Prop := ∃ N b1 m1 d1 b2 m2 d2, e = .returned (.tuple #[.string s, .agg #[.int .i64 N, .slice b1 m1 d1, .slice b2 m2 d2]]) ∧ WC w' (.agg #[.int .i64 N, .slice b1 m1 d1, .slice b2 m2 d2]) x ∧ (N != 0) = x.isSome ∧ Below W.heap.size W w'
theorem hexT_snoc {t : List Int} {q : Nat} (hq : q < 128) : (hexT t).take (q + 1) = (hexT t).take q ++ [hexC (wtF t q)] := by
  have hl : q < (hexT t).length := by rw [hexT_len]; exact hq
  rw [List.take_succ_eq_append_getElem hl]
  simp [hexT]
theorem hex_ix (Y : Nat) (hY : Y < 16) : ∀ w, (Instr.index 9 (.string { data := #[48, 49, 50, 51, 52, 53, 54, 55, 56, 57, 97, 98, 99, 100, 101, 102] }) (.int .i64 (Y : Int))).run Tryd.prog w = .ok (.int .u8 ((hexC Y).toNat : Nat)) w := by
  intro w
  show (Instr.index 9 (.string hexS) (.int .i64 (Y : Int))).run Tryd.prog w = _
  have hsz : hexS.size = 16 := rfl
  rw [run_index_string w 9 hexS .i64 (Y : Int) (by kernel_rfl), dif_pos ⟨by omega, by rw [hsz]; omega⟩]
  have h9 := hex_at ⟨Y, hY⟩
  simp only [Int.toNat_natCast] at h9 ⊢
  rw [h9]
set_option maxHeartbeats 16000000 in
theorem refhex_any (a : Option Addr) (n c : Nat) (t : List Int) (W : World) (hR : RK .i64 W a n t) (hm : n ≤ maxLen) :
    Calls Tryd.prog 32 #[.slice a n c] W (StrRef W (hexO t) (tabD t)) := by
  have T0 := Tk.nil W
  have T1 := T0.add (fun wv => Below W.heap.size W wv) (bnil W)
  clear T0
  have T2 := T1.add (fun wv => RK .i64 wv a n t) (hR)
  clear T1
  obtain ⟨Wb, hWb⟩ : ∃ Wb, W.alloc (.cells #[.int .i64 0, .slice none 0 0, .slice none 0 0] 48) = Wb := ⟨_, rfl⟩
  have hbWb : Below W.heap.size W Wb := by rw [← hWb]; exact balloc (bnil W) _
  have T3 := T2.up hbWb
  clear T2
  have HWb := Lib.hid hWb
  clear hWb hbWb
  have hz2 : Wb.heap[W.heap.size]? = some (.cells #[.int .i64 0, .slice none 0 0, .slice none 0 0] 48) := by
    rw [← HWb.out]
    exact heap_alloc_new W _
  have hsz : W.heap.size + 1 = Wb.heap.size := by rw [← HWb.out]; simp
  have T4 := T3.add (fun wv => wv.heap[W.heap.size]? = some (.cells #[.int .i64 0, .slice none 0 0, .slice none 0 0] 48)) (hz2)
  clear T3
  have HSZ := Lib.hid hsz
  clear hz2 hsz hR
  have hmx : n ≤ 9223372036854775807 := hm
  by_cases htd : tabD t ≠ none
  · skip
    have ho : hexO t = ⟨#[]⟩ := by unfold hexO; rw [if_neg htd]
    have HOD := Lib.hid ho
    clear ho
    have HTD := Lib.hid htd
    clear htd
    go_enter Tryd.func32, Tryd.ntmps32
    go_wp2_with fail
    rw [HWb.out]
    refine (refplcheck_er a n c t Wb T4.out.1.2 hm HTD.out).mono ?_; rintro e w1 ⟨N, a1, n1, c1, a2, n2, c2, rfl, hw, f1, f2, hN, hbw1⟩
    have T5 := T4.up hbw1
    clear T4
    have T6 := T5.add (fun wv => WC wv (.agg #[.int .i64 N, .slice a1 n1 c1, .slice a2 n2 c2]) (tabD t)) (hw)
    clear T5
    have HN := Lib.hid hN
    have HF := Lib.hid (And.intro f1 f2)
    clear hw f1 f2 hN
    obtain ⟨we, hwe⟩ : ∃ we, w1.alloc (.cells #[.int .i64 N, .slice a1 n1 c1, .slice a2 n2 c2] 48) = we := ⟨_, rfl⟩
    have hbwe : Below w1.heap.size w1 we := by rw [← hwe]; exact balloc (bnil w1) _
    have T7 := T6.up hbwe
    clear T6
    have T8 := T7.add (fun wv => wv.cell? ⟨w1.heap.size, 0, none⟩ = some (.int .i64 N) ∧ wv.cell? ⟨w1.heap.size, 1, none⟩ = some (.slice a1 n1 c1) ∧ wv.cell? ⟨w1.heap.size, 2, none⟩ = some (.slice a2 n2 c2)) (by rw [← hwe]; exact ⟨cnw (by simp) rfl, cnw (by simp) rfl, cnw (by simp) rfl⟩)
    clear T7
    have Hwe := Lib.hid hwe
    clear hwe hbwe
    have v_e0 : (w1.alloc (.cells #[.int .i64 N, .slice a1 n1 c1, .slice a2 n2 c2] 48)).cell? ⟨w1.heap.size, 0, none⟩ = some (.int .i64 N) := by rw [Hwe.out]; exact T8.out.2.1
    have v_e1 : (w1.alloc (.cells #[.int .i64 N, .slice a1 n1 c1, .slice a2 n2 c2] 48)).cell? ⟨w1.heap.size, 1, none⟩ = some (.slice a1 n1 c1) := by rw [Hwe.out]; exact T8.out.2.2.1
    have v_e2 : (w1.alloc (.cells #[.int .i64 N, .slice a1 n1 c1, .slice a2 n2 c2] 48)).cell? ⟨w1.heap.size, 2, none⟩ = some (.slice a2 n2 c2) := by rw [Hwe.out]; exact T8.out.2.2.2
    go_wp2_with fail
    rw [Hwe.out]
    refine (refBadE _ _ _ we true HN.out).mono ?_; rintro e w2 ⟨rfl, hbw2⟩
    clear v_e0 v_e1 v_e2
    have T9 := T8.up hbw2
    clear T8
    have hNs : (N != 0) = (tabD t).isSome := by rw [HN.out]; cases hq : tabD t with | none => exact absurd hq HTD.out | some z => rfl
    have HNS := Lib.hid hNs
    clear hNs
    have v_e0 : w2.cell? ⟨w1.heap.size, 0, none⟩ = some (.int .i64 N) := T9.out.2.1
    have v_e1 : w2.cell? ⟨w1.heap.size, 1, none⟩ = some (.slice a1 n1 c1) := T9.out.2.2.1
    have v_e2 : w2.cell? ⟨w1.heap.size, 2, none⟩ = some (.slice a2 n2 c2) := T9.out.2.2.2
    obtain ⟨⟨q3, q4, q5⟩, f3, f4, f5⟩ := p_cells (T9.out.1.1.2)
    obtain ⟨w9, e9, ⟨r0, r1, r2⟩, hk9, hs9, hw9, hb9⟩ := er_set (Nat.le_refl W.heap.size) (T9.out.1.1.2) (T9.out.1.1.1.1.2) (HF.out.1.base (by have := HSZ.out; omega)) (HF.out.2.base (by have := HSZ.out; omega)) (T9.out.1.2)
    have HRET := Lib.hid (And.intro hw9 hb9)
    clear hk9 hs9 hw9 hb9
    have HE9 := Lib.hid e9
    have HR9 := Lib.hid (And.intro r0 (And.intro r1 r2))
    clear e9 r0 r1 r2
    have sz1 := hbw1.size
    have sz0 := HSZ.out
    have ne1 : ¬ w1.heap.size = W.heap.size := by omega
    have ne2 : ¬ W.heap.size = w1.heap.size := by omega
    clear sz0 sz1
    go_wp2_with fail
    go_region
    all_goals
      go_wp2
      rw [HE9.out]
      have r0 := HR9.out.1
      have r1 := HR9.out.2.1
      have r2 := HR9.out.2.2
      refine bodyPost_ret (v := .tuple #[.string ⟨#[]⟩, .agg #[.int .i64 N, .slice a1 n1 c1, .slice a2 n2 c2]]) (by simp [results, Tryd.results32, go_sem, r0, r1, r2]) rfl ?_
      rw [HOD.out]
      exact ⟨N, a1, n1, c1, a2, n2, c2, rfl, HRET.out.1.up (Below.drew (bnil _)), HNS.out, Below.drew HRET.out.2⟩
  have h0 : tabD t = none := Decidable.byContradiction htd
  have ho : hexO t = ⟨(hexT t).toArray⟩ := by unfold hexO; rw [if_pos h0]
  have HOD := Lib.hid (And.intro ho h0)
  have HTD := Lib.hid h0
  have HT := Lib.hid (tabD_none h0)
  clear htd h0 ho
  obtain rfl : n = 512 := (T4.out.1.2).len.trans HT.out.len
  go_enter Tryd.func32, Tryd.ntmps32
  go_wp2_with fail
  rw [HWb.out]
  refine (refplcheck_ok a 512 c t Wb T4.out.1.2 hm HTD.out).mono ?_; rintro e w1 ⟨rfl, hbw1⟩
  have T5 := T4.up hbw1
  clear T4
  obtain ⟨we, hwe⟩ : ∃ we, w1.alloc (.cells #[.int .i64 0, .slice none 0 0, .slice none 0 0] 48) = we := ⟨_, rfl⟩
  have hbwe : Below w1.heap.size w1 we := by rw [← hwe]; exact balloc (bnil w1) _
  have T6 := T5.up hbwe
  clear T5
  have T7 := T6.add (fun wv => wv.cell? ⟨w1.heap.size, 0, none⟩ = some (.int .i64 0) ∧ wv.cell? ⟨w1.heap.size, 1, none⟩ = some (.slice none 0 0) ∧ wv.cell? ⟨w1.heap.size, 2, none⟩ = some (.slice none 0 0)) (by rw [← hwe]; exact ⟨cnw (by simp) rfl, cnw (by simp) rfl, cnw (by simp) rfl⟩)
  clear T6
  have Hwe := Lib.hid hwe
  clear hwe hbwe
  have v_e0 : (w1.alloc (.cells #[.int .i64 0, .slice none 0 0, .slice none 0 0] 48)).cell? ⟨w1.heap.size, 0, none⟩ = some (.int .i64 0) := by rw [Hwe.out]; exact T7.out.2.1
  have v_e1 : (w1.alloc (.cells #[.int .i64 0, .slice none 0 0, .slice none 0 0] 48)).cell? ⟨w1.heap.size, 1, none⟩ = some (.slice none 0 0) := by rw [Hwe.out]; exact T7.out.2.2.1
  have v_e2 : (w1.alloc (.cells #[.int .i64 0, .slice none 0 0, .slice none 0 0] 48)).cell? ⟨w1.heap.size, 2, none⟩ = some (.slice none 0 0) := by rw [Hwe.out]; exact T7.out.2.2.2
  go_wp2_with fail
  rw [Hwe.out]
  refine (refBadE _ _ _ we false rfl).mono ?_; rintro e w2 ⟨rfl, hbw2⟩
  clear v_e0 v_e1 v_e2
  have T8 := T7.up hbw2
  clear T7
  obtain ⟨ab, ao, hab0, hab, _⟩ := (T8.out.1.1.2).addr (by omega)
  subst hab0
  go_wp2_with fail
  obtain ⟨g, hg⟩ : ∃ g, w2.heap.size = g := ⟨_, rfl⟩
  have HG := Lib.hid hg
  have hgW : W.heap.size < g := by rw [← hg]; exact heap_ltT (T8.out.1.2)
  have HGW := Lib.hid hgW
  have HAB : Hid (ab < g) := by show _ < _; rw [← hg]; exact hab
  clear hg hgW
  go_loopw [6, 7] (fun ox ix wr => ∃ (q : Nat) (aa : Option Addr) (cc : Nat), q ≤ 128 ∧ ix = .int .i64 ((4 * q : Nat) : Int) ∧ ox = .slice aa q cc ∧ OwU wr g aa q cc ((hexT t).take q) ∧ Below g w2 wr) (fun _ ix _ => 512 - (intOf ix).toNat)
  case atStart => exact ⟨0, none, 0, by omega, rfl, rfl, by simpa using OwU.nil _ _, Below.refl _ _⟩
  case round =>
    obtain ⟨q, aa, cc, hq, rfl, rfl, ho, hb⟩ := hrel
    have HO := Lib.hid ho
    have HB := Lib.hid hb
    clear ho
    have hb0 : Below w2.heap.size w2 wr := by rw [HG.out]; exact hb
    clear hb
    generalize wr = wo at *
    have T9 := T8.up hb0
    clear T8
    clear hb0
    by_cases hq2 : q < 128
    · skip
      obtain ⟨ab2, ao2, hab0, _, hcell⟩ := (T9.out.1.1.2).addr (by omega)
      cases hab0
      obtain ⟨va, ea, la⟩ := tab_bit HT.out (show 4 * q < 512 by omega)
      obtain ⟨vb, eb, lb⟩ := tab_bit HT.out (show 4 * q + 1 < 512 by omega)
      obtain ⟨vc, ec, lc⟩ := tab_bit HT.out (show 4 * q + 2 < 512 by omega)
      obtain ⟨vd, ed, ld⟩ := tab_bit HT.out (show 4 * q + 3 < 512 by omega)
      have z0 := hcell (4 * q) (by omega)
      have z1 := hcell (4 * q + 1) (by omega)
      have z2 := hcell (4 * q + 2) (by omega)
      have z3 := hcell (4 * q + 3) (by omega)
      rw [ea] at z0
      rw [eb] at z1
      rw [ec] at z2
      rw [ed] at z3
      have hY : wtF t q = 8 * va + 4 * vb + 2 * vc + vd := by unfold wtF; rw [ea, eb, ec, ed]; simp only [Int.toNat_natCast]
      have hsn := hexT_snoc (t := t) hq2
      rw [hY] at hsn
      have HSN := Lib.hid hsn
      clear ea eb ec ed hcell hY hsn
      obtain ⟨I, hI⟩ : ∃ I, 4 * q = I := ⟨_, rfl⟩
      rw [hI] at z0 z1 z2 z3
      have HI := Lib.hid hI
      have hI5 : I + 4 ≤ 512 := by omega
      have hIq : (4 : Int) * (q : Int) = (I : Int) := by omega
      rw [hI]
      clear hI
      obtain ⟨P, hP⟩ : ∃ P, 8 * va = P := ⟨_, rfl⟩
      obtain ⟨Q, hQ⟩ : ∃ Q, 4 * vb = Q := ⟨_, rfl⟩
      obtain ⟨R2, hR2⟩ : ∃ R2, 2 * vc = R2 := ⟨_, rfl⟩
      obtain ⟨S1, hS1⟩ : ∃ S1, P + Q = S1 := ⟨_, rfl⟩
      obtain ⟨S2, hS2⟩ : ∃ S2, S1 + R2 = S2 := ⟨_, rfl⟩
      obtain ⟨Y, hYY⟩ : ∃ Y, S2 + vd = Y := ⟨_, rfl⟩
      have iP : (8 : Int) * (va : Int) = (P : Int) := by omega
      have iQ : (4 : Int) * (vb : Int) = (Q : Int) := by omega
      have iR : (2 : Int) * (vc : Int) = (R2 : Int) := by omega
      have iS : (P : Int) + (Q : Int) = (S1 : Int) := by omega
      have iT : (S1 : Int) + (R2 : Int) = (S2 : Int) := by omega
      have iY : (S2 : Int) + (vd : Int) = (Y : Int) := by omega
      have wP : IntKind.i64.wrap (P : Int) = (P : Int) := IntWalk.i64_in _ (by omega)
      have wQ : IntKind.i64.wrap (Q : Int) = (Q : Int) := IntWalk.i64_in _ (by omega)
      have wR : IntKind.i64.wrap (R2 : Int) = (R2 : Int) := IntWalk.i64_in _ (by omega)
      have wS : IntKind.i64.wrap (S1 : Int) = (S1 : Int) := IntWalk.i64_in _ (by omega)
      have wT : IntKind.i64.wrap (S2 : Int) = (S2 : Int) := IntWalk.i64_in _ (by omega)
      have wY : IntKind.i64.wrap (Y : Int) = (Y : Int) := IntWalk.i64_in _ (by omega)
      have hY16 : Y < 16 := by omega
      have HYE : Hid (8 * va + 4 * vb + 2 * vc + vd = Y) := by show _ = _; omega
      clear hP hQ hR2 hS1 hS2 hYY la lb lc ld
      have hix := hex_ix Y hY16
      have j0 : (0 : Int) ≤ (I : Int) := by omega
      have j1 : (I : Int) < 512 := by omega
      have k1 : (I : Int) + 1 = ((I + 1 : Nat) : Int) := by omega
      have k2 : (I : Int) + 2 = ((I + 2 : Nat) : Int) := by omega
      have k3 : (I : Int) + 3 = ((I + 3 : Nat) : Int) := by omega
      have hgs : g ≤ wo.heap.size := by have := HB.out.size; have := HG.out; omega
      have hO3 := Lib.hid HO.out
      have HSY : Hid ((hexT t).take (q + 1) = (hexT t).take q ++ [hexC Y]) := by show _ = _; rw [← HYE.out]; exact HSN.out
      clear HSN HYE
      generalize hexC Y = cY at *
      obtain ⟨I1, hI1⟩ : ∃ I1, I + 1 = I1 := ⟨_, rfl⟩
      obtain ⟨I2, hI2⟩ : ∃ I2, I + 2 = I2 := ⟨_, rfl⟩
      obtain ⟨I3, hI3⟩ : ∃ I3, I + 3 = I3 := ⟨_, rfl⟩
      rw [hI1] at k1 z1
      rw [hI2] at k2 z2
      rw [hI3] at k3 z3
      have l1 : (I1 : Int) < 512 := by omega
      have l2 : (I2 : Int) < 512 := by omega
      have l3 : (I3 : Int) < 512 := by omega
      have m1 : (0 : Int) ≤ (I1 : Int) := by omega
      have m2 : (0 : Int) ≤ (I2 : Int) := by omega
      have m3 : (0 : Int) ≤ (I3 : Int) := by omega
      have o1 : IntKind.i64.wrap (I1 : Int) = (I1 : Int) := IntWalk.i64_in _ (by omega)
      have o2 : IntKind.i64.wrap (I2 : Int) = (I2 : Int) := IntWalk.i64_in _ (by omega)
      have o3 : IntKind.i64.wrap (I3 : Int) = (I3 : Int) := IntWalk.i64_in _ (by omega)
      clear hI1 hI2 hI3
      have HS0 : Hid (wo.drew.cell? ⟨ab, ao + I, none⟩ = some (.int .i64 (va : Nat)) ∧ wo.drew.cell? ⟨ab, ao + I1, none⟩ = some (.int .i64 (vb : Nat)) ∧ wo.drew.cell? ⟨ab, ao + I2, none⟩ = some (.int .i64 (vc : Nat)) ∧ wo.drew.cell? ⟨ab, ao + I3, none⟩ = some (.int .i64 (vd : Nat))) := ⟨z0, z1, z2, z3⟩
      have HS1 : Hid ((wo.alloc (.cells #[.int .u8 ((cY.toNat : Nat) : Int)] 5)).drew.cell? ⟨ab, ao + I, none⟩ = some (.int .i64 (va : Nat)) ∧ (wo.alloc (.cells #[.int .u8 ((cY.toNat : Nat) : Int)] 5)).drew.cell? ⟨ab, ao + I1, none⟩ = some (.int .i64 (vb : Nat)) ∧ (wo.alloc (.cells #[.int .u8 ((cY.toNat : Nat) : Int)] 5)).drew.cell? ⟨ab, ao + I2, none⟩ = some (.int .i64 (vc : Nat)) ∧ (wo.alloc (.cells #[.int .u8 ((cY.toNat : Nat) : Int)] 5)).drew.cell? ⟨ab, ao + I3, none⟩ = some (.int .i64 (vd : Nat))) := ⟨al000 z0, al000 z1, al000 z2, al000 z3⟩
      clear z0 z1 z2 z3
      go_wp2_with fail
      go_region_held3 (fun w' => w'.cell? ⟨ab, ao + I, none⟩ = some (.int .i64 (va : Nat)) ∧ w'.cell? ⟨ab, ao + I1, none⟩ = some (.int .i64 (vb : Nat)) ∧ w'.cell? ⟨ab, ao + I2, none⟩ = some (.int .i64 (vc : Nat)) ∧ w'.cell? ⟨ab, ao + I3, none⟩ = some (.int .i64 (vd : Nat)))
        (first | with_reducible exact HS5.out | with_reducible exact HS0.out | with_reducible exact HS1.out | exact HS1.out | go_keep)
        (first | (refine step_app_lit (by rfl) _ _ _ (by rfl) g et_u8 _ q _ hO3.out.own (by rfl) 1 _ _ (by rfl) (by simp) (by rfl) (by rfl) (by unfold maxLen; omega) (by omega) hgs ?_; intro a5 c5 w5 ho5 hg5 hb5 hs5; have HS5 := Lib.hid (And.intro ((hb5.cell (p := ⟨ab, ao + I, none⟩) HAB.out).trans HS0.out.1) (And.intro ((hb5.cell (p := ⟨ab, ao + I1, none⟩) HAB.out).trans HS0.out.2.1) (And.intro ((hb5.cell (p := ⟨ab, ao + I2, none⟩) HAB.out).trans HS0.out.2.2.1) ((hb5.cell (p := ⟨ab, ao + I3, none⟩) HAB.out).trans HS0.out.2.2.2))))))
      all_goals
        have HO6 : Hid (OwU w5 g a5 (q + 1) c5 ((hexT t).take (q + 1))) := by rw [HSY.out]; exact OwU.app cY rfl ho5
        have HB6 := Lib.hid (HB.out.trans hb5)
        have HI4 : Hid (4 * (q + 1) = I + 4) := by show _ = _; have := HI.out; omega
        clear ho5 hg5 hb5 hs5
        go_wp2
        go_roundw
        case rel => exact ⟨q + 1, a5, c5, by omega, by rw [HI4.out]; go_num, rfl, HO6.out, HB6.out⟩
        case measure => simp [intOf]; omega
    obtain rfl : q = 128 := by omega
    have ho9 := HO.out
    rw [List.take_of_length_le (by rw [hexT_len]; omega)] at ho9
    have cv := conv_own ho9
    obtain ⟨⟨q3, q4, q5⟩, f3, f4, f5⟩ := p_cells (T9.out.1.2)
    obtain ⟨w9, e9, ⟨r0, r1, r2⟩, hk9, hs9, hw9, hb9⟩ := er_set (Nat.le_refl W.heap.size) (T9.out.1.2) (T9.out.1.1.1.2) fr_none fr_none (wc_none wo)
    have HRET := Lib.hid (And.intro hw9 hb9)
    clear hk9 hs9 hw9 hb9 ho9 HO
    have HE9 := Lib.hid e9
    have HR9 := Lib.hid (And.intro r0 (And.intro r1 r2))
    clear e9 r0 r1 r2
    go_wp2_with fail
    first | rw [HE9.out] | (go_region; all_goals go_wp2; rw [HE9.out])
    have r0 := HR9.out.1
    have r1 := HR9.out.2.1
    have r2 := HR9.out.2.2
    refine bodyPost_ret (v := .tuple #[.string ⟨(hexT t).toArray⟩, .agg #[.int .i64 0, .slice none 0 0, .slice none 0 0]]) (by simp [results, Tryd.results32, go_sem, r0, r1, r2]) rfl ?_
    rw [HOD.out.1, HOD.out.2]
    exact ⟨0, none, 0, 0, none, 0, 0, rfl, HRET.out.1, rfl, HRET.out.2⟩
end Go.Proofs.YtocfkmdoalhjmaaDoor
namespace Go.Proofs.YtocfkmdoalhjmaaDoor
open Go.RowKit
set_option linter.unusedVariables false
set_option maxRecDepth 100000

theorem turned9 (k i : Nat) (a : Option Addr) (c : Nat) (L : List Int) (W : World) (hk : k < 8) (hL : turnL 3 3 (winL i) k = L) (hR : SlI W a 9 c (winL i)) :
    Calls Tryd.prog 78 #[patV 3 3 a 9 c, .int .i64 k] W fun e w' => ∃ a' c', e = .returned (.agg #[.int .i64 3, .int .i64 3, .slice a' 9 c']) ∧ RK .i64 w' a' 9 L ∧ Below W.heap.size W w' := by
  refine (refturned 3 3 k a 9 c (winL i) W hR (winL_patch i) hk).mono ?_
  rintro e w' ⟨a', N, c', rfl, ho, hb⟩
  have hw : turnW 3 3 k = 3 := by unfold turnW; split <;> rfl
  have hn : N = 9 := by rw [ho.rk.len, (turn_patch (t := k) (winL_patch i)).len, hw]
  subst hn
  rw [hw]
  rw [hL] at ho
  exact ⟨a', c', rfl, ho.rk, hb⟩
theorem num9 (k i N : Nat) (a : Option Addr) (c : Nat) (L : List Int) (W : World) (hL : turnL 3 3 (winL i) k = L) (hN : trN k i = N) (hR : RK .i64 W a 9 L) :
    Calls Tryd.prog 77 #[.slice a 9 c] W fun e w' => e = .returned (.int .i64 (N : Nat)) ∧ W = w' := by
  have hs : ∀ x ∈ L, x = 0 ∨ x = 1 := by rw [← hL]; exact (turn_patch (t := k) (winL_patch i)).sym
  refine (number_any a 9 c L W hR (Nat.le_refl 9) hs).mono ?_
  rintro e w' ⟨rfl, rfl⟩
  have e1 : numT L 9 = N := by rw [← hL]; exact hN
  rw [e1]
  exact ⟨rfl, rfl⟩
theorem field9 (a : Option Addr) (c : Nat) (w : World) : (Instr.field 24 (.agg #[.int .i64 3, .int .i64 3, .slice a 9 c]) 2).run Tryd.prog w = .ok (.slice a 9 c) w := by kernel_rfl
theorem win9 (i : Nat) (hi : i < 512) (W : World) : Calls Tryd.prog 79 #[.int .i64 (i : Nat)] W fun e w' => ∃ a c, e = .returned (patV 3 3 a 9 c) ∧ SlI w' a 9 c (winL i) ∧ Below W.heap.size W w' :=
  (window_any i hi W).mono fun e w' ⟨a, c, h1, h2, h3⟩ => ⟨a, c, h1, h2.sl (by omega), h3⟩
def EvRef (W : World) (s : Bool) (x : ErrD) (e : Ending) (w' : World) : Prop := ∃ N b1 m1 d1 b2 m2 d2, e = .returned (.tuple #[.bool s, .agg #[.int .i64 N, .slice b1 m1 d1, .slice b2 m2 d2]]) ∧ WC w' (.agg #[.int .i64 N, .slice b1 m1 d1, .slice b2 m2 d2]) x ∧ (N != 0) = x.isSome ∧ Below W.heap.size W w'
set_option maxHeartbeats 16000000 in
theorem refeven_any (a : Option Addr) (n c : Nat) (t : List Int) (W : World) (hR : RK .i64 W a n t) (hm : n ≤ maxLen) :
    Calls Tryd.prog 33 #[.slice a n c] W (EvRef W (evenO t) (tabD t)) := by
  have T0 := Tk.nil W
  have T1 := T0.add (fun wv => Below W.heap.size W wv) (bnil W)
  clear T0
  have T2 := T1.add (fun wv => RK .i64 wv a n t) (hR)
  clear T1
  obtain ⟨Wb, hWb⟩ : ∃ Wb, W.alloc (.cells #[.int .i64 0, .slice none 0 0, .slice none 0 0] 48) = Wb := ⟨_, rfl⟩
  have hbWb : Below W.heap.size W Wb := by rw [← hWb]; exact balloc (bnil W) _
  have T3 := T2.up hbWb
  clear T2
  have HWb := Lib.hid hWb
  clear hWb hbWb
  have hz2 : Wb.heap[W.heap.size]? = some (.cells #[.int .i64 0, .slice none 0 0, .slice none 0 0] 48) := by
    rw [← HWb.out]
    exact heap_alloc_new W _
  have hsz : W.heap.size + 1 = Wb.heap.size := by rw [← HWb.out]; simp
  have T4 := T3.add (fun wv => wv.heap[W.heap.size]? = some (.cells #[.int .i64 0, .slice none 0 0, .slice none 0 0] 48)) (hz2)
  clear T3
  have HSZ := Lib.hid hsz
  clear hz2 hsz hR
  have hmx : n ≤ 9223372036854775807 := hm
  by_cases htd : tabD t ≠ none
  · skip
    have HOD := Lib.hid (evenO_er htd)
    have HTD := Lib.hid htd
    clear htd
    go_enter Tryd.func33, Tryd.ntmps33
    go_wp2_with fail
    rw [HWb.out]
    refine (refplcheck_er a n c t Wb T4.out.1.2 hm HTD.out).mono ?_; rintro e w1 ⟨N, a1, n1, c1, a2, n2, c2, rfl, hw, f1, f2, hN, hbw1⟩
    have T5 := T4.up hbw1
    clear T4
    have T6 := T5.add (fun wv => WC wv (.agg #[.int .i64 N, .slice a1 n1 c1, .slice a2 n2 c2]) (tabD t)) (hw)
    clear T5
    have HN := Lib.hid hN
    have HF := Lib.hid (And.intro f1 f2)
    clear hw f1 f2 hN
    obtain ⟨we, hwe⟩ : ∃ we, w1.alloc (.cells #[.int .i64 N, .slice a1 n1 c1, .slice a2 n2 c2] 48) = we := ⟨_, rfl⟩
    have hbwe : Below w1.heap.size w1 we := by rw [← hwe]; exact balloc (bnil w1) _
    have T7 := T6.up hbwe
    clear T6
    have T8 := T7.add (fun wv => wv.cell? ⟨w1.heap.size, 0, none⟩ = some (.int .i64 N) ∧ wv.cell? ⟨w1.heap.size, 1, none⟩ = some (.slice a1 n1 c1) ∧ wv.cell? ⟨w1.heap.size, 2, none⟩ = some (.slice a2 n2 c2)) (by rw [← hwe]; exact ⟨cnw (by simp) rfl, cnw (by simp) rfl, cnw (by simp) rfl⟩)
    clear T7
    have Hwe := Lib.hid hwe
    clear hwe hbwe
    have v_e0 : (w1.alloc (.cells #[.int .i64 N, .slice a1 n1 c1, .slice a2 n2 c2] 48)).cell? ⟨w1.heap.size, 0, none⟩ = some (.int .i64 N) := by rw [Hwe.out]; exact T8.out.2.1
    have v_e1 : (w1.alloc (.cells #[.int .i64 N, .slice a1 n1 c1, .slice a2 n2 c2] 48)).cell? ⟨w1.heap.size, 1, none⟩ = some (.slice a1 n1 c1) := by rw [Hwe.out]; exact T8.out.2.2.1
    have v_e2 : (w1.alloc (.cells #[.int .i64 N, .slice a1 n1 c1, .slice a2 n2 c2] 48)).cell? ⟨w1.heap.size, 2, none⟩ = some (.slice a2 n2 c2) := by rw [Hwe.out]; exact T8.out.2.2.2
    go_wp2_with fail
    rw [Hwe.out]
    refine (refBadE _ _ _ we true HN.out).mono ?_; rintro e w2 ⟨rfl, hbw2⟩
    clear v_e0 v_e1 v_e2
    have T9 := T8.up hbw2
    clear T8
    have hNs : (N != 0) = (tabD t).isSome := by rw [HN.out]; cases hq : tabD t with | none => exact absurd hq HTD.out | some z => rfl
    have HNS := Lib.hid hNs
    clear hNs
    have v_e0 : w2.cell? ⟨w1.heap.size, 0, none⟩ = some (.int .i64 N) := T9.out.2.1
    have v_e1 : w2.cell? ⟨w1.heap.size, 1, none⟩ = some (.slice a1 n1 c1) := T9.out.2.2.1
    have v_e2 : w2.cell? ⟨w1.heap.size, 2, none⟩ = some (.slice a2 n2 c2) := T9.out.2.2.2
    obtain ⟨⟨q3, q4, q5⟩, f3, f4, f5⟩ := p_cells (T9.out.1.1.2)
    obtain ⟨w9, e9, ⟨r0, r1, r2⟩, hk9, hs9, hw9, hb9⟩ := er_set (Nat.le_refl W.heap.size) (T9.out.1.1.2) (T9.out.1.1.1.1.2) (HF.out.1.base (by have := HSZ.out; omega)) (HF.out.2.base (by have := HSZ.out; omega)) (T9.out.1.2)
    have HRET := Lib.hid (And.intro hw9 hb9)
    clear hk9 hs9 hw9 hb9
    have HE9 := Lib.hid e9
    have HR9 := Lib.hid (And.intro r0 (And.intro r1 r2))
    clear e9 r0 r1 r2
    have sz1 := hbw1.size
    have sz0 := HSZ.out
    have ne1 : ¬ w1.heap.size = W.heap.size := by omega
    have ne2 : ¬ W.heap.size = w1.heap.size := by omega
    clear sz0 sz1
    go_wp2_with fail
    go_region
    all_goals
      go_wp2
      rw [HE9.out]
      have r0 := HR9.out.1
      have r1 := HR9.out.2.1
      have r2 := HR9.out.2.2
      refine bodyPost_ret (v := .tuple #[.bool false, .agg #[.int .i64 N, .slice a1 n1 c1, .slice a2 n2 c2]]) (by simp [results, Tryd.results33, go_sem, r0, r1, r2]) rfl ?_
      rw [HOD.out]
      exact ⟨N, a1, n1, c1, a2, n2, c2, rfl, HRET.out.1.up (Below.drew (bnil _)), HNS.out, Below.drew HRET.out.2⟩
  have h0 : tabD t = none := Decidable.byContradiction htd
  have HEV := Lib.hid (evenO_ok h0)
  have HTD := Lib.hid h0
  have HT := Lib.hid (tabD_none h0)
  clear htd h0
  obtain rfl : n = 512 := (T4.out.1.2).len.trans HT.out.len
  go_enter Tryd.func33, Tryd.ntmps33
  go_wp2_with fail
  rw [HWb.out]
  refine (refplcheck_ok a 512 c t Wb T4.out.1.2 hm HTD.out).mono ?_; rintro e w1 ⟨rfl, hbw1⟩
  have T5 := T4.up hbw1
  clear T4
  obtain ⟨we, hwe⟩ : ∃ we, w1.alloc (.cells #[.int .i64 0, .slice none 0 0, .slice none 0 0] 48) = we := ⟨_, rfl⟩
  have hbwe : Below w1.heap.size w1 we := by rw [← hwe]; exact balloc (bnil w1) _
  have T6 := T5.up hbwe
  clear T5
  have T7 := T6.add (fun wv => wv.cell? ⟨w1.heap.size, 0, none⟩ = some (.int .i64 0) ∧ wv.cell? ⟨w1.heap.size, 1, none⟩ = some (.slice none 0 0) ∧ wv.cell? ⟨w1.heap.size, 2, none⟩ = some (.slice none 0 0)) (by rw [← hwe]; exact ⟨cnw (by simp) rfl, cnw (by simp) rfl, cnw (by simp) rfl⟩)
  clear T6
  have Hwe := Lib.hid hwe
  clear hwe hbwe
  have v_e0 : (w1.alloc (.cells #[.int .i64 0, .slice none 0 0, .slice none 0 0] 48)).cell? ⟨w1.heap.size, 0, none⟩ = some (.int .i64 0) := by rw [Hwe.out]; exact T7.out.2.1
  have v_e1 : (w1.alloc (.cells #[.int .i64 0, .slice none 0 0, .slice none 0 0] 48)).cell? ⟨w1.heap.size, 1, none⟩ = some (.slice none 0 0) := by rw [Hwe.out]; exact T7.out.2.2.1
  have v_e2 : (w1.alloc (.cells #[.int .i64 0, .slice none 0 0, .slice none 0 0] 48)).cell? ⟨w1.heap.size, 2, none⟩ = some (.slice none 0 0) := by rw [Hwe.out]; exact T7.out.2.2.2
  go_wp2_with fail
  rw [Hwe.out]
  refine (refBadE _ _ _ we false rfl).mono ?_; rintro e w2 ⟨rfl, hbw2⟩
  clear v_e0 v_e1 v_e2
  have T8 := T7.up hbw2
  clear T7
  obtain ⟨ab, ao, hab0, hab, _⟩ := (T8.out.1.1.2).addr (by omega)
  subst hab0
  go_wp2_with fail
  go_loopw [5] (fun ix wr => ∃ i : Nat, i ≤ 512 ∧ ix = .int .i64 (i : Nat) ∧ Hid (∀ j, j < i → ∀ k, 1 ≤ k → k < 8 → t.getD (trN k j) 0 = t.getD j 0) ∧ Below w2.heap.size w2 wr) (fun ix _ => 512 - (intOf ix).toNat)
  case atStart => exact ⟨0, by omega, rfl, Lib.hid (fun j hj => absurd hj (by omega)), Below.refl _ _⟩
  case round =>
    obtain ⟨i, hi, rfl, HJ, hb⟩ := hrel
    have HB := Lib.hid hb
    clear hb
    by_cases hi5 : i < 512
    · skip
      have i1 : (i : Int) < 512 := by omega
      have i0 : (0 : Int) ≤ (i : Int) := by omega
      go_wp2_with fail
      go_loopw [6] (fun kx wr => ∃ k i2 : Nat, i2 = i ∧ 1 ≤ k ∧ k ≤ 8 ∧ kx = .int .i64 (k : Nat) ∧ Hid (∀ k', 1 ≤ k' → k' < k → t.getD (trN k' i2) 0 = t.getD i2 0) ∧ Below w2.heap.size w2 wr) (fun kx _ => 8 - (intOf kx).toNat)
      case atStart => exact ⟨1, i, rfl, by omega, by omega, rfl, Lib.hid (fun k' h1 h2 => absurd h2 (by omega)), HB.out⟩
      case round =>
        obtain ⟨k, i2, rfl, hk1, hk8, rfl, HK, hb⟩ := hrel
        have HBB := Lib.hid hb
        clear HB
        by_cases hk7 : k < 8
        · skip
          have T9 := T8.up hb
          clear T8
          clear hb
          have k1 : (k : Int) < 8 := by omega
          obtain ⟨N, hN⟩ : ∃ N, trN k i2 = N := ⟨_, rfl⟩
          have hN5 : N < 512 := by rw [← hN]; exact trN_lt k i2 hk7
          obtain ⟨L, hL⟩ : ∃ L, turnL 3 3 (winL i2) k = L := ⟨_, rfl⟩
          obtain ⟨x, ex, lx⟩ := tab_bit HT.out hi5
          obtain ⟨y, ey, ly⟩ := tab_bit HT.out hN5
          obtain ⟨ab2, ao2, hab0, _, hcell⟩ := (T9.out.1.1.2).addr (by omega)
          cases hab0
          have z1 := hcell i2 hi5
          have z2 := hcell N hN5
          rw [ex] at z1
          rw [ey] at z2
          have HC := Lib.hid (And.intro (win9 i2 hi5) (And.intro (fun a c W hR => turned9 k i2 a c L W hk7 hL hR) (fun a c W hR => num9 k i2 N a c L W hL hN hR)))
          have HNL := Lib.hid hN
          have HXY := Lib.hid (And.intro ex ey)
          have HS0 : Hid (wr.drew.cell? ⟨ab, ao + i2, none⟩ = some (.int .i64 (x : Nat)) ∧ wr.drew.cell? ⟨ab, ao + N, none⟩ = some (.int .i64 (y : Nat))) := ⟨z1, z2⟩
          have hfd := field9
          have n0 : (0 : Int) ≤ (N : Int) := by omega
          have n1 : (N : Int) < 512 := by omega
          clear hcell hL hN ex ey z1 z2
          by_cases hxy : y = x
          · skip
            subst hxy
            go_wp2_with fail
            go_region_held3 (fun w' => w'.cell? ⟨ab, ao + i2, none⟩ = some (.int .i64 (y : Nat)) ∧ w'.cell? ⟨ab, ao + N, none⟩ = some (.int .i64 (y : Nat)))
              (first | with_reducible exact HS8.out | with_reducible exact HS7.out | with_reducible exact HS0.out | go_keep)
              (first
                | (go_at_call 77; refine (HC.out.2.2 _ _ _ HR8.out).mono ?_; rintro e w9 ⟨rfl, rfl⟩)
                | (go_at_call 78; refine (HC.out.2.1 _ _ _ HR7.out).mono ?_; rintro e w8 ⟨a8, c8, rfl, ho8, hb8⟩; have HR8 := Lib.hid ho8; have HD8 := Lib.hid (bstep HD7.out hb8); have HS8 := Lib.hid (And.intro (cpa hb8 (HS7.out).1) (cpa hb8 (HS7.out).2)); clear ho8 hb8)
                | (go_at_call 79; refine (HC.out.1 _).mono ?_; rintro e w7 ⟨a7, c7, rfl, ho7, hb7⟩; have HR7 := Lib.hid ho7; have HD7 := Lib.hid hb7; have HS7 := Lib.hid (And.intro (cpa hb7 (HS0.out).1) (cpa hb7 (HS0.out).2)); clear ho7 hb7))
            all_goals
              have HB6 : Hid (Below w2.heap.size w2 w8) := HBB.out.trans (((Below.drew (bnil wr)).trans HD8.out).mono HBB.out.size)
              have HK6 : Hid (∀ k', 1 ≤ k' → k' < k + 1 → t.getD (trN k' i2) 0 = t.getD i2 0) := by
                intro k' h1 h2
                by_cases hkk : k' = k
                · subst hkk
                  rw [HNL.out, HXY.out.1, HXY.out.2]
                · exact HK.out k' h1 (by omega)
              clear HC
              go_wp2
              go_roundw
              case rel => exact ⟨k + 1, i2, rfl, by omega, by omega, by go_num, HK6, HB6.out⟩
              case measure => simp [intOf]; omega
          have hxI : ¬ (y : Int) = (x : Int) := by omega
          have hxB : ((y : Int) != (x : Int)) = true := by rw [bne_iff_ne]; exact hxI
          have HEF := Lib.hid (HEV.out.trans (evB_no hi5 hk1 hk7 (by rw [HNL.out, HXY.out.1, HXY.out.2]; exact hxI)))
          go_wp2_with fail
          go_region_held3 (fun w' => w'.cell? ⟨ab, ao + i2, none⟩ = some (.int .i64 (x : Nat)) ∧ w'.cell? ⟨ab, ao + N, none⟩ = some (.int .i64 (y : Nat)))
            (first | with_reducible exact HS8.out | with_reducible exact HS7.out | with_reducible exact HS0.out | go_keep)
            (first
              | (go_at_call 77; refine (HC.out.2.2 _ _ _ HR8.out).mono ?_; rintro e w9 ⟨rfl, rfl⟩)
              | (go_at_call 78; refine (HC.out.2.1 _ _ _ HR7.out).mono ?_; rintro e w8 ⟨a8, c8, rfl, ho8, hb8⟩; have HR8 := Lib.hid ho8; have HD8 := Lib.hid (bstep HD7.out hb8); have HS8 := Lib.hid (And.intro (cpa hb8 (HS7.out).1) (cpa hb8 (HS7.out).2)); clear ho8 hb8)
              | (go_at_call 79; refine (HC.out.1 _).mono ?_; rintro e w7 ⟨a7, c7, rfl, ho7, hb7⟩; have HR7 := Lib.hid ho7; have HD7 := Lib.hid hb7; have HS7 := Lib.hid (And.intro (cpa hb7 (HS0.out).1) (cpa hb7 (HS0.out).2)); clear ho7 hb7))
          all_goals
            have hbr : Below wr.heap.size wr w8 := (Below.drew (bnil wr)).trans HD8.out
            have T10 := T9.up hbr
            clear T9
            clear hbr HC
            have HOD := Lib.hid (And.intro (HEF.out) HTD.out)
            obtain ⟨⟨q3, q4, q5⟩, f3, f4, f5⟩ := p_cells (T10.out.1.2)
            obtain ⟨w9, e9, ⟨r0, r1, r2⟩, hk9, hs9, hw9, hb9⟩ := er_set (Nat.le_refl W.heap.size) (T10.out.1.2) (T10.out.1.1.1.2) fr_none fr_none (wc_none w8)
            have HRET := Lib.hid (And.intro hw9 hb9)
            clear hk9 hs9 hw9 hb9
            have HE9 := Lib.hid e9
            have HR9 := Lib.hid (And.intro r0 (And.intro r1 r2))
            clear e9 r0 r1 r2
            go_wp2_with fail
            first | rw [HE9.out] | (go_region; all_goals go_wp2; rw [HE9.out])
            have r0 := HR9.out.1
            have r1 := HR9.out.2.1
            have r2 := HR9.out.2.2
            refine bodyPost_ret (v := .tuple #[.bool false, .agg #[.int .i64 0, .slice none 0 0, .slice none 0 0]]) (by simp [results, Tryd.results33, go_sem, r0, r1, r2]) rfl ?_
            rw [HOD.out.1, HOD.out.2]
            exact ⟨0, none, 0, 0, none, 0, 0, rfl, HRET.out.1, rfl, HRET.out.2⟩
        obtain rfl : k = 8 := by omega
        have HJ6 : Hid (∀ j, j < i2 + 1 → ∀ k, 1 ≤ k → k < 8 → t.getD (trN k j) 0 = t.getD j 0) := by
          intro j hj k' h1 h2
          by_cases hji : j = i2
          · subst hji; exact HK.out k' h1 h2
          · exact HJ.out j (by omega) k' h1 h2
        go_wp2
        go_roundw
        case rel => exact ⟨i2 + 1, by omega, by go_num, HJ6, HBB.out⟩
        case measure => simp [intOf]; omega
    obtain rfl : i = 512 := by omega
    have HEF := Lib.hid (HEV.out.trans ((evB_iff t).2 HJ.out))
    have hbo := HB.out
    have T9 := T8.up hbo
    clear T8
    clear hbo
    have HOD := Lib.hid (And.intro (HEF.out) HTD.out)
    obtain ⟨⟨q3, q4, q5⟩, f3, f4, f5⟩ := p_cells (T9.out.1.2)
    obtain ⟨w9, e9, ⟨r0, r1, r2⟩, hk9, hs9, hw9, hb9⟩ := er_set (Nat.le_refl W.heap.size) (T9.out.1.2) (T9.out.1.1.1.2) fr_none fr_none (wc_none wr)
    have HRET := Lib.hid (And.intro hw9 hb9)
    clear hk9 hs9 hw9 hb9
    have HE9 := Lib.hid e9
    have HR9 := Lib.hid (And.intro r0 (And.intro r1 r2))
    clear e9 r0 r1 r2
    go_wp2_with fail
    first | rw [HE9.out] | (go_region; all_goals go_wp2; rw [HE9.out])
    have r0 := HR9.out.1
    have r1 := HR9.out.2.1
    have r2 := HR9.out.2.2
    refine bodyPost_ret (v := .tuple #[.bool true, .agg #[.int .i64 0, .slice none 0 0, .slice none 0 0]]) (by simp [results, Tryd.results33, go_sem, r0, r1, r2]) rfl ?_
    rw [HOD.out.1, HOD.out.2]
    exact ⟨0, none, 0, 0, none, 0, 0, rfl, HRET.out.1, rfl, HRET.out.2⟩
end Go.Proofs.YtocfkmdoalhjmaaDoor
namespace Go.Proofs.YtocfkmdoalhjmaaDoor
open Go.RowKit
set_option linter.unusedVariables false
set_option maxRecDepth 100000

theorem bB_bit (z n : Nat) : bB z n = z.testBit n := by unfold bB; rw [Nat.testBit_eq_decide_div_mod_eq]
theorem bit_or (s d n : Nat) : bB (s ||| 2 ^ d) n = if n = d then true else bB s n := by
  rw [bB_bit, bB_bit, Nat.testBit_or, Nat.testBit_two_pow]
  by_cases h : n = d
  · subst h; simp
  · rw [if_neg h, decide_eq_false (fun e => h e.symm), Bool.or_false]
theorem LB.or0 {w : World} {g s0 s1 d : Nat} (h : LB w g s0 s1) (hd : d < 9) : LB (w.setCell ⟨g, d, none⟩ (.bool true)) g (s0 ||| 2 ^ d) s1 := by
  have h2 : w.heap[g]? = _ := h
  show (w.setCell ⟨g, d, none⟩ (.bool true)).heap[g]? = _
  unfold LBo
  simp only [bit_or]
  have hj : d = 0 ∨ d = 1 ∨ d = 2 ∨ d = 3 ∨ d = 4 ∨ d = 5 ∨ d = 6 ∨ d = 7 ∨ d = 8 := by omega
  rcases hj with rfl | rfl | rfl | rfl | rfl | rfl | rfl | rfl | rfl <;> simp [World.setCell, Array.getElem?_modify, h2]
theorem LB.or1 {w : World} {g s0 s1 d : Nat} (h : LB w g s0 s1) (hd : d < 9) : LB (w.setCell ⟨g, 9 + d, none⟩ (.bool true)) g s0 (s1 ||| 2 ^ d) := by
  have h2 : w.heap[g]? = _ := h
  show (w.setCell ⟨g, 9 + d, none⟩ (.bool true)).heap[g]? = _
  unfold LBo
  simp only [bit_or]
  have hj : d = 0 ∨ d = 1 ∨ d = 2 ∨ d = 3 ∨ d = 4 ∨ d = 5 ∨ d = 6 ∨ d = 7 ∨ d = 8 := by omega
  rcases hj with rfl | rfl | rfl | rfl | rfl | rfl | rfl | rfl | rfl <;> simp [World.setCell, Array.getElem?_modify, h2]
theorem LB.up {w w' : World} {n g s0 s1 : Nat} (h : LB w g s0 s1) (hb : Below n w w') (hg : g < n) : LB w' g s0 s1 := (hb.block g hg).trans h
theorem OwU.len {w : World} {base : Nat} {a : Option Addr} {n c : Nat} {L : List UInt8} (h : OwU w base a n c L) : n = L.length := by
  have := h.own.1
  simpa [Lib.byteCells] using this.symm
theorem OwU.base {w : World} {B b' : Nat} {a : Option Addr} {n c : Nat} {L : List UInt8} (h : OwU w B a n c L) (hb : b' ≤ B) : OwU w b' a n c L := ⟨owns_base h.own hb⟩
/-- append onto a literal of one element: a new row -/
theorem appg {P : Program} {ops : Array Oper} {rest : List Oper} {o : Oper} {a : Act} {Q : Exit → Act → World → Prop} {w : World} (hg : o.guard = none) (s x : Operand) (t : TypeId) (hop : o.op = .call { callee := .builtin .append, args := #[s, x], argTypes := #[t, t] })
    {e : TypeId} {z : Value} {bytes : Nat} (T : ET P t e z 1 bytes) (g : Nat) (u : Value) (hs : a.eval s = .slice (some ⟨g, 0, none⟩) 1 1) (hu : w.cell? ⟨g, 0, none⟩ = some u)
    (ad : Option Addr) (m c : Nat) (news : List Value) (hx : a.eval x = .slice ad m c) (hm : 0 < m) (hR : Rd w ad m 1 news) (b1 : 1 + m ≤ maxLen) (b2 : (1 + m) * bytes ≤ 140737488355328)
    (hK : ∀ g' c' w', g' = w.heap.size → w'.ownsRow w.heap.size e 1 (.slice (some ⟨g', 0, none⟩) (1 + m) c') (1 + m) (u :: news) → Below w.heap.size w w' → wpList P ops Q rest (a.put o.dst (.slice (some ⟨g', 0, none⟩) (1 + m) c')) w') :
    wpList P ops Q (o :: rest) a w := by
  refine wpList_plain hg fun K hK' => ?_
  have hw : Region.wanted o (yielded ops a.tmps) = true := by simp [Region.wanted, hg]
  have h := stg (ops := ops) (K := K) (Q := Q) (E := True) hg s x t hop T g u hs hu ad m c news hx hm hR b1 b2 (fun g' c' w' h1 h2 h3 => hK' _ _ (hK g' c' w' h1 h2 h3))
  rwa [if_pos hw] at h
theorem lit_rd {w : World} {cs : Array Value} {e : TypeId} : Rd (w.alloc (.cells cs e)) (some ⟨w.heap.size, 0, none⟩) cs.size 1 cs.toList := rd_new rfl (by simp)
/-- the bytes so far: the literal of one byte, or a row of the call's own -/
def OutS (w : World) (B : Nat) (v : Value) (L : List UInt8) : Prop := (∃ gl, v = .slice (some ⟨gl, 0, none⟩) 1 1 ∧ w.cell? ⟨gl, 0, none⟩ = some (.int .u8 66) ∧ L = [66]) ∨ (∃ a n c, v = .slice a n c ∧ OwU w B a n c L)
theorem u8_dig : ∀ n : Fin 9, IntKind.u8.wrap (48 + ((n.val : Nat) : Int)) = 48 + ((n.val : Nat) : Int) := by decide
theorem tbS_eq (t : List Int) : tbS t = ⟨(66 :: digsN (setB t) ++ [47, 83] ++ digsN (setS t)).toArray⟩ := by
  unfold tbS
  apply ByteArray.ext
  apply Array.ext'
  simp [ByteArray.data_append]
def TxRef (W : World) (s : ByteArray) (b : Bool) (x : ErrD) (e : Ending) (w' : World) : Prop := ∃ N b1 m1 d1 b2 m2 d2, e = .returned (.tuple #[.string s, .bool b, .agg #[.int .i64 N, .slice b1 m1 d1, .slice b2 m2 d2]]) ∧ WC w' (.agg #[.int .i64 N, .slice b1 m1 d1, .slice b2 m2 d2]) x ∧ (N != 0) = x.isSome ∧ Below W.heap.size W w'
theorem digs_snoc {z n : Nat} (h : bB z n = true) : digsTo z (n + 1) = digsTo z n ++ [UInt8.ofNat (48 + n)] := by
  have h2 : z / 2 ^ n % 2 = 1 := of_decide_eq_true h
  rw [digsTo, if_pos h2]
theorem digs_same {z n : Nat} (h : bB z n = false) : digsTo z (n + 1) = digsTo z n := digs_no (of_decide_eq_false h)
set_option maxHeartbeats 16000000 in
theorem reftext_any (a : Option Addr) (n c : Nat) (t : List Int) (W : World) (hR : RK .i64 W a n t) (hm : n ≤ maxLen) :
    Calls Tryd.prog 31 #[.slice a n c] W (TxRef W (plTextS t) (plTextB t) (tabD t)) := by
  have T0 := Tk.nil W
  have T1 := T0.add (fun wv => Below W.heap.size W wv) (bnil W)
  clear T0
  have T2 := T1.add (fun wv => RK .i64 wv a n t) (hR)
  clear T1
  obtain ⟨Wb, hWb⟩ : ∃ Wb, W.alloc (.cells #[.int .i64 0, .slice none 0 0, .slice none 0 0] 48) = Wb := ⟨_, rfl⟩
  have hbWb : Below W.heap.size W Wb := by rw [← hWb]; exact balloc (bnil W) _
  have T3 := T2.up hbWb
  clear T2
  have HWb := Lib.hid hWb
  clear hWb hbWb
  have hz2 : Wb.heap[W.heap.size]? = some (.cells #[.int .i64 0, .slice none 0 0, .slice none 0 0] 48) := by
    rw [← HWb.out]
    exact heap_alloc_new W _
  have hsz : W.heap.size + 1 = Wb.heap.size := by rw [← HWb.out]; simp
  have T4 := T3.add (fun wv => wv.heap[W.heap.size]? = some (.cells #[.int .i64 0, .slice none 0 0, .slice none 0 0] 48)) (hz2)
  clear T3
  have HSZ := Lib.hid hsz
  clear hz2 hsz hR
  have hmx : n ≤ 9223372036854775807 := hm
  by_cases htd : tabD t ≠ none
  · skip
    have h1 : plTextS t = ⟨#[]⟩ := by unfold plTextS; rw [if_neg (fun h => htd h.1)]
    have h2 : plTextB t = false := by unfold plTextB; rw [decide_eq_false htd]; rfl
    have HOD := Lib.hid (And.intro h1 h2)
    clear h1 h2
    have HTD := Lib.hid htd
    clear htd
    go_enter Tryd.func31, Tryd.ntmps31
    go_wp2_with fail
    rw [HWb.out]
    refine (refplcheck_er a n c t Wb T4.out.1.2 hm HTD.out).mono ?_; rintro e w1 ⟨N, a1, n1, c1, a2, n2, c2, rfl, hw, f1, f2, hN, hbw1⟩
    have T5 := T4.up hbw1
    clear T4
    have T6 := T5.add (fun wv => WC wv (.agg #[.int .i64 N, .slice a1 n1 c1, .slice a2 n2 c2]) (tabD t)) (hw)
    clear T5
    have HN := Lib.hid hN
    have HF := Lib.hid (And.intro f1 f2)
    clear hw f1 f2 hN
    obtain ⟨we, hwe⟩ : ∃ we, w1.alloc (.cells #[.int .i64 N, .slice a1 n1 c1, .slice a2 n2 c2] 48) = we := ⟨_, rfl⟩
    have hbwe : Below w1.heap.size w1 we := by rw [← hwe]; exact balloc (bnil w1) _
    have T7 := T6.up hbwe
    clear T6
    have T8 := T7.add (fun wv => wv.cell? ⟨w1.heap.size, 0, none⟩ = some (.int .i64 N) ∧ wv.cell? ⟨w1.heap.size, 1, none⟩ = some (.slice a1 n1 c1) ∧ wv.cell? ⟨w1.heap.size, 2, none⟩ = some (.slice a2 n2 c2)) (by rw [← hwe]; exact ⟨cnw (by simp) rfl, cnw (by simp) rfl, cnw (by simp) rfl⟩)
    clear T7
    have Hwe := Lib.hid hwe
    clear hwe hbwe
    have v_e0 : (w1.alloc (.cells #[.int .i64 N, .slice a1 n1 c1, .slice a2 n2 c2] 48)).cell? ⟨w1.heap.size, 0, none⟩ = some (.int .i64 N) := by rw [Hwe.out]; exact T8.out.2.1
    have v_e1 : (w1.alloc (.cells #[.int .i64 N, .slice a1 n1 c1, .slice a2 n2 c2] 48)).cell? ⟨w1.heap.size, 1, none⟩ = some (.slice a1 n1 c1) := by rw [Hwe.out]; exact T8.out.2.2.1
    have v_e2 : (w1.alloc (.cells #[.int .i64 N, .slice a1 n1 c1, .slice a2 n2 c2] 48)).cell? ⟨w1.heap.size, 2, none⟩ = some (.slice a2 n2 c2) := by rw [Hwe.out]; exact T8.out.2.2.2
    go_wp2_with fail
    rw [Hwe.out]
    refine (refBadE _ _ _ we true HN.out).mono ?_; rintro e w2 ⟨rfl, hbw2⟩
    clear v_e0 v_e1 v_e2
    have T9 := T8.up hbw2
    clear T8
    have hNs : (N != 0) = (tabD t).isSome := by rw [HN.out]; cases hq : tabD t with | none => exact absurd hq HTD.out | some z => rfl
    have HNS := Lib.hid hNs
    clear hNs
    have v_e0 : w2.cell? ⟨w1.heap.size, 0, none⟩ = some (.int .i64 N) := T9.out.2.1
    have v_e1 : w2.cell? ⟨w1.heap.size, 1, none⟩ = some (.slice a1 n1 c1) := T9.out.2.2.1
    have v_e2 : w2.cell? ⟨w1.heap.size, 2, none⟩ = some (.slice a2 n2 c2) := T9.out.2.2.2
    obtain ⟨⟨q3, q4, q5⟩, f3, f4, f5⟩ := p_cells (T9.out.1.1.2)
    obtain ⟨w9, e9, ⟨r0, r1, r2⟩, hk9, hs9, hw9, hb9⟩ := er_set (Nat.le_refl W.heap.size) (T9.out.1.1.2) (T9.out.1.1.1.1.2) (HF.out.1.base (by have := HSZ.out; omega)) (HF.out.2.base (by have := HSZ.out; omega)) (T9.out.1.2)
    have HRET := Lib.hid (And.intro hw9 hb9)
    clear hk9 hs9 hw9 hb9
    have HE9 := Lib.hid e9
    have HR9 := Lib.hid (And.intro r0 (And.intro r1 r2))
    clear e9 r0 r1 r2
    have sz1 := hbw1.size
    have sz0 := HSZ.out
    have ne1 : ¬ w1.heap.size = W.heap.size := by omega
    have ne2 : ¬ W.heap.size = w1.heap.size := by omega
    clear sz0 sz1
    go_wp2_with fail
    go_region
    all_goals
      go_wp2
      rw [HE9.out]
      have r0 := HR9.out.1
      have r1 := HR9.out.2.1
      have r2 := HR9.out.2.2
      refine bodyPost_ret (v := .tuple #[.string ⟨#[]⟩, .bool false, .agg #[.int .i64 N, .slice a1 n1 c1, .slice a2 n2 c2]]) (by simp [results, Tryd.results31, go_sem, r0, r1, r2]) rfl ?_
      rw [HOD.out.1, HOD.out.2]
      exact ⟨N, a1, n1, c1, a2, n2, c2, rfl, HRET.out.1.up (Below.drew (bnil _)), HNS.out, Below.drew HRET.out.2⟩
  have h0 : tabD t = none := Decidable.byContradiction htd
  have HTD := Lib.hid h0
  have HT := Lib.hid (tabD_none h0)
  clear htd h0
  obtain rfl : n = 512 := (T4.out.1.2).len.trans HT.out.len
  go_enter Tryd.func31, Tryd.ntmps31
  go_wp2_with fail
  rw [HWb.out]
  refine (refplcheck_ok a 512 c t Wb T4.out.1.2 hm HTD.out).mono ?_; rintro e w1 ⟨rfl, hbw1⟩
  have T5 := T4.up hbw1
  clear T4
  obtain ⟨we, hwe⟩ : ∃ we, w1.alloc (.cells #[.int .i64 0, .slice none 0 0, .slice none 0 0] 48) = we := ⟨_, rfl⟩
  have hbwe : Below w1.heap.size w1 we := by rw [← hwe]; exact balloc (bnil w1) _
  have T6 := T5.up hbwe
  clear T5
  have T7 := T6.add (fun wv => wv.cell? ⟨w1.heap.size, 0, none⟩ = some (.int .i64 0) ∧ wv.cell? ⟨w1.heap.size, 1, none⟩ = some (.slice none 0 0) ∧ wv.cell? ⟨w1.heap.size, 2, none⟩ = some (.slice none 0 0)) (by rw [← hwe]; exact ⟨cnw (by simp) rfl, cnw (by simp) rfl, cnw (by simp) rfl⟩)
  clear T6
  have Hwe := Lib.hid hwe
  clear hwe hbwe
  have v_e0 : (w1.alloc (.cells #[.int .i64 0, .slice none 0 0, .slice none 0 0] 48)).cell? ⟨w1.heap.size, 0, none⟩ = some (.int .i64 0) := by rw [Hwe.out]; exact T7.out.2.1
  have v_e1 : (w1.alloc (.cells #[.int .i64 0, .slice none 0 0, .slice none 0 0] 48)).cell? ⟨w1.heap.size, 1, none⟩ = some (.slice none 0 0) := by rw [Hwe.out]; exact T7.out.2.2.1
  have v_e2 : (w1.alloc (.cells #[.int .i64 0, .slice none 0 0, .slice none 0 0] 48)).cell? ⟨w1.heap.size, 2, none⟩ = some (.slice none 0 0) := by rw [Hwe.out]; exact T7.out.2.2.2
  go_wp2_with fail
  rw [Hwe.out]
  refine (refBadE _ _ _ we false rfl).mono ?_; rintro e w2 ⟨rfl, hbw2⟩
  clear v_e0 v_e1 v_e2
  have T8 := T7.up hbw2
  clear T7
  obtain ⟨ab, ao, hab0, hab, _⟩ := (T8.out.1.1.2).addr (by omega)
  subst hab0
  have HZW : Hid (w2.heap[W.heap.size]? = some (.cells #[.int .i64 0, .slice none 0 0, .slice none 0 0] 48)) := T8.out.1.2
  have HZL : Hid (W.heap.size < w2.heap.size) := heap_ltT (T8.out.1.2)
  have HBW : Hid (Below W.heap.size W w2) := T8.out.1.1.1.2
  go_wp2_with fail
  obtain ⟨g, hg⟩ : ∃ g, w2.heap.size = g := ⟨_, rfl⟩
  obtain ⟨w3, hw3⟩ : ∃ w3, w2.alloc (LBo 0 0) = w3 := ⟨_, rfl⟩
  have HL1 : Hid (LB w3 g (setsO t 0 0) (setsO t 1 0)) := by show LB _ _ 0 0; rw [← hw3, ← hg]; exact heap_alloc_new w2 _
  have HB1 : Hid (Below g w2 w3) := by rw [← hw3, ← hg]; exact balloc (bnil w2) _
  have e00 : LBo 0 0 = .cells #[.bool false, .bool false, .bool false, .bool false, .bool false, .bool false, .bool false, .bool false, .bool false, .bool false, .bool false, .bool false, .bool false, .bool false, .bool false, .bool false, .bool false, .bool false] 124 := rfl
  rw [e00] at hw3
  rw [hw3, hg]
  have HG := Lib.hid hg
  clear hw3 e00 hg
  go_loopw [7] (fun ix wr => ∃ i : Nat, i ≤ 512 ∧ ix = .int .i64 (i : Nat) ∧ LB wr g (setsO t 0 i) (setsO t 1 i) ∧ Below g w2 wr) (fun ix _ => 512 - (intOf ix).toNat)
  case atStart => exact ⟨0, by omega, rfl, HL1.out, HB1.out⟩
  case round =>
    obtain ⟨i, hi, rfl, hL, hb⟩ := hrel
    have HL := Lib.hid hL
    have HB := Lib.hid hb
    clear hL hb HL1 HB1
    generalize wr = wo at *
    have hbT : Below w2.heap.size w2 wo := by rw [HG.out]; exact HB.out
    have T9 := T8.up hbT
    clear T8
    clear hbT
    by_cases hi5 : i < 512
    · skip
      have i0 : (0 : Int) ≤ (i : Int) := by omega
      have i1 : (i : Int) < 512 := by omega
      obtain ⟨x, ex, lx⟩ := tab_bit HT.out hi5
      obtain ⟨ab2, ao2, hab0, _, hcell⟩ := (T9.out.1.1.2).addr (by omega)
      cases hab0
      have z1 := hcell i hi5
      rw [ex] at z1
      obtain ⟨d, hd⟩ : ∃ d, aboutN i = d := ⟨_, rfl⟩
      have hd8 : d ≤ 8 := by rw [← hd]; exact about_le i
      have hs0 : setsO t 0 (i + 1) = if i / 16 % 2 = 0 then setsO t 0 i ||| (x * 2 ^ d) else setsO t 0 i := by
        show (if i / 16 % 2 = 0 then setsO t 0 i ||| ((t.getD i 0).toNat * 2 ^ aboutN i) else setsO t 0 i) = _
        rw [ex, hd, Int.toNat_natCast]
      have hs1 : setsO t 1 (i + 1) = if i / 16 % 2 = 1 then setsO t 1 i ||| (x * 2 ^ d) else setsO t 1 i := by
        show (if i / 16 % 2 = 1 then setsO t 1 i ||| ((t.getD i 0).toNat * 2 ^ aboutN i) else setsO t 1 i) = _
        rw [ex, hd, Int.toNat_natCast]
      have HS := Lib.hid (And.intro hs0 hs1)
      have HD := Lib.hid hd
      clear hcell ex hs0 hs1 hd
      by_cases hx : x = 1
      · skip
        subst hx
        by_cases hm : i / 16 % 2 = 1
        · skip
          have HL2 : Hid (LB (wo.setCell ⟨g, 9 + d, none⟩ (.bool true)) g (setsO t 0 (i + 1)) (setsO t 1 (i + 1))) := by
            show LB _ _ _ _
            rw [HS.out.1, HS.out.2, if_neg (show ¬ i / 16 % 2 = 0 by omega), if_pos hm, Nat.one_mul]
            exact HL.out.or1 (by omega)
          have HB2 := Lib.hid (HB.out.setCell (p := ⟨g, 9 + d, none⟩) (Nat.le_refl g) (.bool true))
          have hfz := (HL.out.at1 (show d < 9 by omega)).2
          have hcl := (HL.out.at1 (show d < 9 by omega)).1
          have HM := Lib.hid hm
          have k0 : (0 : Int) ≤ (d : Int) := by omega
          have k1 : (d : Int) < 9 := by omega
          clear hm
          go_wp2_with fail
          refine (parts_any i d 1 hi5 HD.out HM.out wo).mono ?_; rintro e w5 ⟨rfl, rfl⟩
          go_wp2
          go_roundw
          case rel => exact ⟨i + 1, by omega, by go_num, HL2.out, HB2.out⟩
          case measure => simp [intOf]; omega
        · skip
          have hm0 : i / 16 % 2 = 0 := by omega
          have HL2 : Hid (LB (wo.setCell ⟨g, d, none⟩ (.bool true)) g (setsO t 0 (i + 1)) (setsO t 1 (i + 1))) := by
            show LB _ _ _ _
            rw [HS.out.1, HS.out.2, if_pos hm0, if_neg hm, Nat.one_mul]
            exact HL.out.or0 (by omega)
          have HB2 := Lib.hid (HB.out.setCell (p := ⟨g, d, none⟩) (Nat.le_refl g) (.bool true))
          have hfz := (HL.out.at0 (show d < 9 by omega)).2
          have hcl := (HL.out.at0 (show d < 9 by omega)).1
          have HM := Lib.hid hm0
          have k0 : (0 : Int) ≤ (d : Int) := by omega
          have k1 : (d : Int) < 9 := by omega
          clear hm hm0
          go_wp2_with fail
          refine (parts_any i d 0 hi5 HD.out HM.out wo).mono ?_; rintro e w5 ⟨rfl, rfl⟩
          go_wp2
          go_roundw
          case rel => exact ⟨i + 1, by omega, by go_num, HL2.out, HB2.out⟩
          case measure => simp [intOf]; omega
      obtain rfl : x = 0 := by omega
      have HL2 : Hid (LB wo g (setsO t 0 (i + 1)) (setsO t 1 (i + 1))) := by
        show LB _ _ _ _
        rw [HS.out.1, HS.out.2, Nat.zero_mul, Nat.or_zero, Nat.or_zero, ite_self, ite_self]
        exact HL.out
      obtain ⟨m, hm⟩ : ∃ m, i / 16 % 2 = m := ⟨_, rfl⟩
      have HM := Lib.hid hm
      clear hm hx
      go_wp2_with fail
      refine (parts_any i d m hi5 HD.out HM.out wo).mono ?_; rintro e w5 ⟨rfl, rfl⟩
      go_wp2
      go_roundw
      case rel => exact ⟨i + 1, by omega, by go_num, HL2.out, HB.out⟩
      case measure => simp [intOf]; omega
    obtain rfl : i = 512 := by omega
    have hb0 := setsO_lt HT.out 0 512 (Nat.le_refl _)
    have hb1 := setsO_lt HT.out 1 512 (Nat.le_refl _)
    obtain ⟨s0, hs0⟩ : ∃ s0, setB t = s0 := ⟨_, rfl⟩
    obtain ⟨s1, hs1⟩ : ∃ s1, setS t = s1 := ⟨_, rfl⟩
    have hLs : LB wo g (setB t) (setS t) := HL.out
    rw [hs0, hs1] at hLs
    have HL9 := Lib.hid hLs
    have HS01 := Lib.hid (And.intro hs0 hs1)
    clear HL hLs hs0 hs1 hi5 hb0 hb1
    have c0 := (HL9.out.at0 (show 0 < 9 by omega)).1
    have c1 := (HL9.out.at0 (show 1 < 9 by omega)).1
    have c2 := (HL9.out.at0 (show 2 < 9 by omega)).1
    have c3 := (HL9.out.at0 (show 3 < 9 by omega)).1
    have c4 := (HL9.out.at0 (show 4 < 9 by omega)).1
    have c5 := (HL9.out.at0 (show 5 < 9 by omega)).1
    have c6 := (HL9.out.at0 (show 6 < 9 by omega)).1
    have c7 := (HL9.out.at0 (show 7 < 9 by omega)).1
    have c8 := (HL9.out.at0 (show 8 < 9 by omega)).1
    have d0 : wo.cell? ⟨g, 9, none⟩ = some (.bool (bB s1 0)) := (HL9.out.at1 (show 0 < 9 by omega)).1
    have d1 : wo.cell? ⟨g, 10, none⟩ = some (.bool (bB s1 1)) := (HL9.out.at1 (show 1 < 9 by omega)).1
    have d2 : wo.cell? ⟨g, 11, none⟩ = some (.bool (bB s1 2)) := (HL9.out.at1 (show 2 < 9 by omega)).1
    have d3 : wo.cell? ⟨g, 12, none⟩ = some (.bool (bB s1 3)) := (HL9.out.at1 (show 3 < 9 by omega)).1
    have d4 : wo.cell? ⟨g, 13, none⟩ = some (.bool (bB s1 4)) := (HL9.out.at1 (show 4 < 9 by omega)).1
    have d5 : wo.cell? ⟨g, 14, none⟩ = some (.bool (bB s1 5)) := (HL9.out.at1 (show 5 < 9 by omega)).1
    have d6 : wo.cell? ⟨g, 15, none⟩ = some (.bool (bB s1 6)) := (HL9.out.at1 (show 6 < 9 by omega)).1
    have d7 : wo.cell? ⟨g, 16, none⟩ = some (.bool (bB s1 7)) := (HL9.out.at1 (show 7 < 9 by omega)).1
    have d8 : wo.cell? ⟨g, 17, none⟩ = some (.bool (bB s1 8)) := (HL9.out.at1 (show 8 < 9 by omega)).1
    go_wp2_with fail
    refine (refcounted s0 s1 wo).mono ?_; rintro e w5 ⟨g5, cc5, rfl, ho5, hbw5⟩
    have T10 := T9.up hbw5
    clear T9
    clear c0 d0 c1 d1 c2 d2 c3 d3 c4 d4 c5 d5 c6 d6 c7 d7 c8 d8
    have HO5 := Lib.hid ho5.rk
    have HB5 := Lib.hid hbw5
    clear ho5
    go_wp2_with fail
    refine (ints_any (some ⟨g5, 0, none⟩) (some ⟨ab, ao, none⟩) 512 512 cc5 c (tabOf s0 s1) t w5 HO5.out T10.out.1.1.2 (by unfold maxLen; omega) hm).mono ?_; rintro e w6 ⟨rfl, m6, rfl⟩
    obtain ⟨wd, hwd⟩ : ∃ wd, w5.drewN m6 = wd := ⟨_, rfl⟩
    have hbd : Below w5.heap.size w5 wd := by rw [← hwd]; exact bdrewN (bnil w5) m6
    rw [hwd]
    clear hwd
    have T11 := T10.up hbd
    clear T10
    have HLd : Hid (LB wd g s0 s1) := (HL9.out.up HB5.out (heap_ltT HL9.out)).up hbd (Nat.lt_of_lt_of_le (heap_ltT HL9.out) HB5.out.size)
    have HBd : Hid (Below g w2 wd) := HB.out.trans ((HB5.out.trans (hbd.mono HB5.out.size)).mono (Nat.le_of_lt (heap_ltT HL9.out)))
    clear hbd HL9 HB5 HO5 HB
    by_cases heq : tabOf s0 s1 = t
    · skip
      have hcnt : counts t = true := by unfold counts; rw [HS01.out.1, HS01.out.2]; exact decide_eq_true heq
      have h1 : plTextS t = ⟨(66 :: digsN s0 ++ [47, 83] ++ digsN s1).toArray⟩ := by unfold plTextS; rw [if_pos ⟨HTD.out, hcnt⟩, tbS_eq, HS01.out.1, HS01.out.2]
      have h2 : plTextB t = true := by unfold plTextB; rw [decide_eq_true HTD.out, hcnt]; rfl
      have HOD := Lib.hid (And.intro h1 h2)
      have heqb : decide (tabOf s0 s1 = t) = true := decide_eq_true heq
      rw [heqb]
      obtain ⟨wl, hwl⟩ : ∃ wl, wd.alloc (.cells #[.int .u8 66] 5 (1, 2)) = wl := ⟨_, rfl⟩
      obtain ⟨gl, hgl⟩ : ∃ gl, wd.heap.size = gl := ⟨_, rfl⟩
      have hgd : g < wd.heap.size := heap_ltT HLd.out
      have HOl : Hid (OutS wl (g + 1) (.slice (some ⟨gl, 0, none⟩) 1 1) ([66] ++ digsTo s0 0)) := by
        refine .inl ⟨gl, rfl, ?_, rfl⟩
        rw [← hwl, ← hgl]
        have h := heap_alloc_new wd (.cells #[.int .u8 66] 5 (1, 2))
        unfold World.cell?
        rw [h]
        rfl
      have hbl : Below wd.heap.size wd wl := by rw [← hwl]; exact balloc (bnil wd) _
      have HLl : Hid (LB wl g s0 s1) := HLd.out.up hbl hgd
      have HBl : Hid (Below g w2 wl) := HBd.out.trans (hbl.mono (Nat.le_of_lt hgd))
      have HWL := Lib.hid (And.intro hwl hgl)
      have kc := fun (w : World) (C : Array Value) (n c : Nat) => Lib.run_convert_bytes_const (P := Tryd.prog) w 67 5 C n c Tryd.underlying67 Tryd.underlying5
      clear h1 h2 hcnt heq heqb hwl hgl hgd hbl HLd HBd
      go_wp2_with fail
      clear kc
      rw [HWL.out.1, HWL.out.2]
      go_loopw [10, 11] (fun ox nx wr => ∃ n : Nat, n ≤ 9 ∧ nx = .int .i64 (n : Nat) ∧ OutS wr (g + 1) ox ([66] ++ digsTo s0 n) ∧ LB wr g s0 s1 ∧ Below g w2 wr) (fun _ nx _ => 9 - (intOf nx).toNat)
      case atStart => exact ⟨0, by omega, rfl, HOl.out, HLl.out, HBl.out⟩
      case round =>
        obtain ⟨n, hn, rfl, ho, hL, hb⟩ := hrel
        have HO := Lib.hid ho
        have HLx := Lib.hid hL
        have HBx := Lib.hid hb
        clear ho hL hb HOl HLl HBl
        by_cases hn9 : n < 9
        · skip
          have n0 : (0 : Int) ≤ (n : Int) := by omega
          have n1 : (n : Int) < 9 := by omega
          have hcl : wr.cell? ⟨g, n, none⟩ = some (.bool (bB s0 n)) := (HLx.out.at0 hn9).1
          cases hbb : bB s0 n with
          | true =>
            rw [hbb] at hcl
            have hsn : [66] ++ digsTo s0 (n + 1) = ([66] ++ digsTo s0 n) ++ [UInt8.ofNat (48 + n)] := by rw [digs_snoc hbb]; simp only [List.append_assoc]
            have hU : ((48 + n : Nat) : Int) = ((UInt8.ofNat (48 + n)).toNat : Int) := by rw [digit_nat ⟨n, hn9⟩]
            have HSN := Lib.hid (And.intro hsn hU)
            have w1' : IntKind.u8.wrap (48 + (n : Int)) = 48 + (n : Int) := u8_dig ⟨n, hn9⟩
            have w2' : IntKind.i64.wrap (48 + (n : Int)) = 48 + (n : Int) := IntWalk.i64_in _ (by omega)
            have hgs : g + 1 ≤ wr.heap.size := heap_ltT HLx.out
            clear hsn hU hbb
            rcases HO.out with ⟨gl2, rfl, hc66, hLe⟩ | ⟨aa, q, cc, rfl, hou⟩
            · skip
              have hc67 := fun o : Obj => al000 (o := o) hc66
              have HLE := Lib.hid hLe
              have hgw : g < wr.heap.size := heap_ltT HLx.out
              clear hLe HO
              go_wp2_with (first
                | (at_builtin; refine appg rfl _ _ _ rfl et_u8 gl2 (.int .u8 66) rfl (hc67 _) _ 1 1 _ rfl (by omega) lit_rd (by unfold maxLen; omega) (by omega) ?_; intro g6 c6 w6 hg6 ho6 hb6; clear hg6))
              have hbq : Below wr.heap.size wr w6 := bstep (balloc (bnil wr) _) hb6
              have HO6 : Hid (OwU w6 (g + 1) (some ⟨g6, 0, none⟩) 2 c6 ([66] ++ digsTo s0 (n + 1))) := by
                rw [HSN.out.1, HLE.out]
                refine OwU.app (base := g + 1) _ (by rw [← HSN.out.2]; rfl) (owns_base ho6 (by simp; omega))
              have HL6 : Hid (LB w6 g s0 s1) := HLx.out.up hbq hgw
              have HB6 := Lib.hid (HBx.out.trans (hbq.mono (Nat.le_of_lt hgw)))
              clear ho6 hb6 hbq
              go_wp2
              go_roundw
              case rel => exact ⟨n + 1, by omega, by go_num, .inr ⟨_, _, _, rfl, HO6.out⟩, HL6.out, HB6.out⟩
              case measure => simp [intOf]; omega
            · skip
              have hq30 : q ≤ 30 := by
                have h1 := hou.len
                have h3 := digsTo_len s0 n
                simp only [List.length_append, List.length_cons, List.length_nil] at h1
                omega
              have HO := Lib.hid hou
              clear hou
              go_wp2_with (first
                | (at_builtin; refine app_lit rfl _ _ _ rfl (g + 1) et_u8 _ q _ HO.out.own (by rfl) 1 _ _ (by rfl) (by rfl) (by simp) (by rfl) (by unfold maxLen; omega) (by omega) hgs ?_; intro a5 c5 w5 ho5 hg5 hb5 hs5))
              have HO6 : Hid (OwU w5 (g + 1) a5 (q + 1) c5 ([66] ++ digsTo s0 (n + 1))) := by rw [HSN.out.1]; exact OwU.app _ (by rw [← HSN.out.2]; omega) ho5
              have HL6 : Hid (LB w5 g s0 s1) := HLx.out.up hb5 (Nat.lt_succ_self g)
              have HB6 := Lib.hid (HBx.out.trans (hb5.mono (Nat.le_succ g)))
              clear ho5 hg5 hb5 hs5
              go_wp2
              go_roundw
              case rel => exact ⟨n + 1, by omega, by go_num, .inr ⟨_, _, _, rfl, HO6.out⟩, HL6.out, HB6.out⟩
              case measure => simp [intOf]; omega
          | false =>
            rw [hbb] at hcl
            have HSN := Lib.hid (digs_same hbb)
            clear hbb
            go_wp2
            go_roundw
            case rel => exact ⟨n + 1, by omega, by go_num, by rw [HSN.out]; exact HO.out, HLx.out, HBx.out⟩
            case measure => simp [intOf]; omega
        obtain rfl : n = 9 := by omega
        clear hn9
        rcases HO.out with ⟨gl2, rfl, hc66, hLe⟩ | ⟨aa, q, cc, rfl, hou⟩
        · skip
          have hc67 := fun o : Obj => al000 (o := o) hc66
          have hgw : g < wr.heap.size := heap_ltT HLx.out
          have HLE := Lib.hid hLe
          clear hLe HO
          go_wp2_with (first
            | (at_builtin; refine appg rfl _ _ _ rfl et_u8 gl2 (.int .u8 66) rfl (hc67 _) _ 2 2 _ rfl (by omega) lit_rd (by unfold maxLen; omega) (by omega) ?_; intro g6 c6 w6 hg6 ho6 hb6; clear hg6))
          have hbq : Below wr.heap.size wr w6 := bstep (balloc (bnil wr) _) hb6
          have HO7 : Hid (OwU w6 (g + 1) (some ⟨g6, 0, none⟩) 3 c6 (([66] ++ digsN s0 ++ [47, 83]) ++ digsTo s1 0)) := by
            have hd : digsN s0 = [] := by
              have h := HLE.out
              simpa [digsN] using h
            rw [hd]
            exact ⟨owns_base ho6 (by simp; omega)⟩
          have HL7 : Hid (LB w6 g s0 s1) := HLx.out.up hbq hgw
          have HB7 := Lib.hid (HBx.out.trans (hbq.mono (Nat.le_of_lt hgw)))
          clear ho6 hb6 hbq HLx HBx hc66 hc67
          go_wp2_with fail
          go_loopw [10, 12] (fun ox nx wr => ∃ (n q : Nat) (aa : Option Addr) (cc : Nat), n ≤ 9 ∧ nx = .int .i64 (n : Nat) ∧ ox = .slice aa q cc ∧ OwU wr (g + 1) aa q cc (([66] ++ digsN s0 ++ [47, 83]) ++ digsTo s1 n) ∧ LB wr g s0 s1 ∧ Below g w2 wr) (fun _ nx _ => 9 - (intOf nx).toNat)
          case atStart => exact ⟨0, 3, (some ⟨g6, 0, none⟩), c6, by omega, rfl, rfl, HO7.out, HL7.out, HB7.out⟩
          case round =>
            obtain ⟨n, q, aa, cc, hn, rfl, rfl, ho, hL, hb⟩ := hrel
            have HO := Lib.hid ho
            have HLx := Lib.hid hL
            have HBx := Lib.hid hb
            have hq30 : q ≤ 30 := by
              have h1 := ho.len
              have h2 := digsTo_len s0 9
              have h3 := digsTo_len s1 n
              simp only [List.length_append, List.length_cons, List.length_nil, digsN] at h1
              omega
            clear ho hL hb HO7 HL7 HB7
            by_cases hn9 : n < 9
            · skip
              have n0 : (0 : Int) ≤ (n : Int) := by omega
              have n1 : (n : Int) < 9 := by omega
              have hcl : wr.cell? ⟨g, 9 + n, none⟩ = some (.bool (bB s1 n)) := (HLx.out.at1 hn9).1
              cases hbb : bB s1 n with
              | true =>
                rw [hbb] at hcl
                have hsn : ([66] ++ digsN s0 ++ [47, 83]) ++ digsTo s1 (n + 1) = (([66] ++ digsN s0 ++ [47, 83]) ++ digsTo s1 n) ++ [UInt8.ofNat (48 + n)] := by rw [digs_snoc hbb]; simp only [List.append_assoc]
                have hU : ((48 + n : Nat) : Int) = ((UInt8.ofNat (48 + n)).toNat : Int) := by rw [digit_nat ⟨n, hn9⟩]
                have HSN := Lib.hid (And.intro hsn hU)
                have w1' : IntKind.u8.wrap (48 + (n : Int)) = 48 + (n : Int) := u8_dig ⟨n, hn9⟩
                have w2' : IntKind.i64.wrap (48 + (n : Int)) = 48 + (n : Int) := IntWalk.i64_in _ (by omega)
                have hgs : g + 1 ≤ wr.heap.size := heap_ltT HLx.out
                clear hsn hU hbb
                go_wp2_with (first
                  | (at_builtin; refine app_lit rfl _ _ _ rfl (g + 1) et_u8 _ q _ HO.out.own (by rfl) 1 _ _ (by rfl) (by rfl) (by simp) (by rfl) (by unfold maxLen; omega) (by omega) hgs ?_; intro a5 c5 w5 ho5 hg5 hb5 hs5))
                have HO6 : Hid (OwU w5 (g + 1) a5 (q + 1) c5 (([66] ++ digsN s0 ++ [47, 83]) ++ digsTo s1 (n + 1))) := by rw [HSN.out.1]; exact OwU.app _ (by rw [← HSN.out.2]; omega) ho5
                have HL6 : Hid (LB w5 g s0 s1) := HLx.out.up hb5 (Nat.lt_succ_self g)
                have HB6 := Lib.hid (HBx.out.trans (hb5.mono (Nat.le_succ g)))
                clear ho5 hg5 hb5 hs5
                go_wp2
                go_roundw
                case rel => exact ⟨n + 1, q + 1, a5, c5, by omega, by go_num, rfl, HO6.out, HL6.out, HB6.out⟩
                case measure => simp [intOf]; omega
              | false =>
                rw [hbb] at hcl
                have HSN := Lib.hid (digs_same hbb)
                clear hbb
                go_wp2
                go_roundw
                case rel => exact ⟨n + 1, q, aa, cc, by omega, by go_num, rfl, by rw [HSN.out]; exact HO.out, HLx.out, HBx.out⟩
                case measure => simp [intOf]; omega
            obtain rfl : n = 9 := by omega
            have ho9 := HO.out
            have cv := conv_own ho9
            have hfin : ([66] ++ digsN s0 ++ [47, 83]) ++ digsTo s1 9 = 66 :: digsN s0 ++ [47, 83] ++ digsN s1 := rfl
            rw [hfin] at cv
            have hbT : Below w2.heap.size w2 wr := by rw [HG.out]; exact HBx.out
            clear ho9 hfin
            have hzz : wr.heap[W.heap.size]? = some (.cells #[.int .i64 0, .slice none 0 0, .slice none 0 0] 48) := (hbT.block _ HZL.out).trans HZW.out
            have hbW : Below W.heap.size W wr := HBW.out.trans (hbT.mono (Nat.le_of_lt HZL.out))
            obtain ⟨⟨q3, q4, q5⟩, f3, f4, f5⟩ := p_cells hzz
            obtain ⟨w9, e9, ⟨r0, r1, r2⟩, hk9, hs9, hw9, hb9⟩ := er_set (Nat.le_refl W.heap.size) hzz hbW fr_none fr_none (wc_none wr)
            have HRET := Lib.hid (And.intro hw9 hb9)
            clear hk9 hs9 hw9 hb9 hzz hbW hbT
            have HE9 := Lib.hid e9
            have HR9 := Lib.hid (And.intro r0 (And.intro r1 r2))
            clear e9 r0 r1 r2
            go_wp2_with fail
            first | rw [HE9.out] | (go_region; all_goals go_wp2; rw [HE9.out])
            have r0 := HR9.out.1
            have r1 := HR9.out.2.1
            have r2 := HR9.out.2.2
            refine bodyPost_ret (v := .tuple #[.string ⟨(66 :: digsN s0 ++ [47, 83] ++ digsN s1).toArray⟩, .bool true, .agg #[.int .i64 0, .slice none 0 0, .slice none 0 0]]) (by simp [results, Tryd.results31, go_sem, r0, r1, r2]) rfl ?_
            rw [HOD.out.1, HOD.out.2, HTD.out]
            exact ⟨0, none, 0, 0, none, 0, 0, rfl, HRET.out.1, rfl, HRET.out.2⟩
        · skip
          have hq30 : q ≤ 30 := by
            have h1 := hou.len
            have h3 := digsTo_len s0 9
            simp only [List.length_append, List.length_cons, List.length_nil] at h1
            omega
          have HO2 := Lib.hid hou
          clear hou HO
          have hgs : g + 1 ≤ wr.heap.size := heap_ltT HLx.out
          go_wp2_with (first
            | (at_builtin; refine app_lit rfl _ _ _ rfl (g + 1) et_u8 _ q _ HO2.out.own (by rfl) 2 _ _ (by rfl) (by rfl) (by simp) (by rfl) (by unfold maxLen; omega) (by omega) hgs ?_; intro a6 c6 w6 ho6 hg6 hb6 hs6))
          have HO7 : Hid (OwU w6 (g + 1) a6 (q + 2) c6 (([66] ++ digsN s0 ++ [47, 83]) ++ digsTo s1 0)) := by
            refine ⟨?_⟩
            have e1 : Lib.byteCells (([66] ++ digsN s0 ++ [47, 83]) ++ digsTo s1 0) = Lib.byteCells ([66] ++ digsTo s0 9) ++ (#[Value.int .u8 47, Value.int .u8 83] : Array Value).toList := by simp [Lib.byteCells, digsTo, digsN]
            rw [e1]
            exact ho6
          have HL7 : Hid (LB w6 g s0 s1) := HLx.out.up hb6 (Nat.lt_succ_self g)
          have HB7 := Lib.hid (HBx.out.trans (hb6.mono (Nat.le_succ g)))
          clear ho6 hg6 hb6 hs6 HLx HBx hgs
          go_wp2_with fail
          go_loopw [10, 12] (fun ox nx wr => ∃ (n q : Nat) (aa : Option Addr) (cc : Nat), n ≤ 9 ∧ nx = .int .i64 (n : Nat) ∧ ox = .slice aa q cc ∧ OwU wr (g + 1) aa q cc (([66] ++ digsN s0 ++ [47, 83]) ++ digsTo s1 n) ∧ LB wr g s0 s1 ∧ Below g w2 wr) (fun _ nx _ => 9 - (intOf nx).toNat)
          case atStart => exact ⟨0, (q + 2), a6, c6, by omega, rfl, rfl, HO7.out, HL7.out, HB7.out⟩
          case round =>
            obtain ⟨n, q, aa, cc, hn, rfl, rfl, ho, hL, hb⟩ := hrel
            have HO := Lib.hid ho
            have HLx := Lib.hid hL
            have HBx := Lib.hid hb
            have hq30 : q ≤ 30 := by
              have h1 := ho.len
              have h2 := digsTo_len s0 9
              have h3 := digsTo_len s1 n
              simp only [List.length_append, List.length_cons, List.length_nil, digsN] at h1
              omega
            clear ho hL hb HO7 HL7 HB7
            by_cases hn9 : n < 9
            · skip
              have n0 : (0 : Int) ≤ (n : Int) := by omega
              have n1 : (n : Int) < 9 := by omega
              have hcl : wr.cell? ⟨g, 9 + n, none⟩ = some (.bool (bB s1 n)) := (HLx.out.at1 hn9).1
              cases hbb : bB s1 n with
              | true =>
                rw [hbb] at hcl
                have hsn : ([66] ++ digsN s0 ++ [47, 83]) ++ digsTo s1 (n + 1) = (([66] ++ digsN s0 ++ [47, 83]) ++ digsTo s1 n) ++ [UInt8.ofNat (48 + n)] := by rw [digs_snoc hbb]; simp only [List.append_assoc]
                have hU : ((48 + n : Nat) : Int) = ((UInt8.ofNat (48 + n)).toNat : Int) := by rw [digit_nat ⟨n, hn9⟩]
                have HSN := Lib.hid (And.intro hsn hU)
                have w1' : IntKind.u8.wrap (48 + (n : Int)) = 48 + (n : Int) := u8_dig ⟨n, hn9⟩
                have w2' : IntKind.i64.wrap (48 + (n : Int)) = 48 + (n : Int) := IntWalk.i64_in _ (by omega)
                have hgs : g + 1 ≤ wr.heap.size := heap_ltT HLx.out
                clear hsn hU hbb
                go_wp2_with (first
                  | (at_builtin; refine app_lit rfl _ _ _ rfl (g + 1) et_u8 _ q _ HO.out.own (by rfl) 1 _ _ (by rfl) (by rfl) (by simp) (by rfl) (by unfold maxLen; omega) (by omega) hgs ?_; intro a5 c5 w5 ho5 hg5 hb5 hs5))
                have HO6 : Hid (OwU w5 (g + 1) a5 (q + 1) c5 (([66] ++ digsN s0 ++ [47, 83]) ++ digsTo s1 (n + 1))) := by rw [HSN.out.1]; exact OwU.app _ (by rw [← HSN.out.2]; omega) ho5
                have HL6 : Hid (LB w5 g s0 s1) := HLx.out.up hb5 (Nat.lt_succ_self g)
                have HB6 := Lib.hid (HBx.out.trans (hb5.mono (Nat.le_succ g)))
                clear ho5 hg5 hb5 hs5
                go_wp2
                go_roundw
                case rel => exact ⟨n + 1, q + 1, a5, c5, by omega, by go_num, rfl, HO6.out, HL6.out, HB6.out⟩
                case measure => simp [intOf]; omega
              | false =>
                rw [hbb] at hcl
                have HSN := Lib.hid (digs_same hbb)
                clear hbb
                go_wp2
                go_roundw
                case rel => exact ⟨n + 1, q, aa, cc, by omega, by go_num, rfl, by rw [HSN.out]; exact HO.out, HLx.out, HBx.out⟩
                case measure => simp [intOf]; omega
            obtain rfl : n = 9 := by omega
            have ho9 := HO.out
            have cv := conv_own ho9
            have hfin : ([66] ++ digsN s0 ++ [47, 83]) ++ digsTo s1 9 = 66 :: digsN s0 ++ [47, 83] ++ digsN s1 := rfl
            rw [hfin] at cv
            have hbT : Below w2.heap.size w2 wr := by rw [HG.out]; exact HBx.out
            clear ho9 hfin
            have hzz : wr.heap[W.heap.size]? = some (.cells #[.int .i64 0, .slice none 0 0, .slice none 0 0] 48) := (hbT.block _ HZL.out).trans HZW.out
            have hbW : Below W.heap.size W wr := HBW.out.trans (hbT.mono (Nat.le_of_lt HZL.out))
            obtain ⟨⟨q3, q4, q5⟩, f3, f4, f5⟩ := p_cells hzz
            obtain ⟨w9, e9, ⟨r0, r1, r2⟩, hk9, hs9, hw9, hb9⟩ := er_set (Nat.le_refl W.heap.size) hzz hbW fr_none fr_none (wc_none wr)
            have HRET := Lib.hid (And.intro hw9 hb9)
            clear hk9 hs9 hw9 hb9 hzz hbW hbT
            have HE9 := Lib.hid e9
            have HR9 := Lib.hid (And.intro r0 (And.intro r1 r2))
            clear e9 r0 r1 r2
            go_wp2_with fail
            first | rw [HE9.out] | (go_region; all_goals go_wp2; rw [HE9.out])
            have r0 := HR9.out.1
            have r1 := HR9.out.2.1
            have r2 := HR9.out.2.2
            refine bodyPost_ret (v := .tuple #[.string ⟨(66 :: digsN s0 ++ [47, 83] ++ digsN s1).toArray⟩, .bool true, .agg #[.int .i64 0, .slice none 0 0, .slice none 0 0]]) (by simp [results, Tryd.results31, go_sem, r0, r1, r2]) rfl ?_
            rw [HOD.out.1, HOD.out.2, HTD.out]
            exact ⟨0, none, 0, 0, none, 0, 0, rfl, HRET.out.1, rfl, HRET.out.2⟩
    have hcnt : counts t = false := by unfold counts; rw [HS01.out.1, HS01.out.2]; exact decide_eq_false heq
    have h1 : plTextS t = ⟨#[]⟩ := by unfold plTextS; rw [if_neg (fun h => by rw [hcnt] at h; exact absurd h.2 (by decide))]
    have h2 : plTextB t = false := by unfold plTextB; rw [hcnt, Bool.and_false]
    have HOD := Lib.hid (And.intro h1 h2)
    have heqb : decide (tabOf s0 s1 = t) = false := decide_eq_false heq
    rw [heqb]
    clear h1 h2 hcnt heq heqb
    obtain ⟨⟨q3, q4, q5⟩, f3, f4, f5⟩ := p_cells (T11.out.1.2)
    obtain ⟨w9, e9, ⟨r0, r1, r2⟩, hk9, hs9, hw9, hb9⟩ := er_set (Nat.le_refl W.heap.size) (T11.out.1.2) (T11.out.1.1.1.2) fr_none fr_none (wc_none wd)
    have HRET := Lib.hid (And.intro hw9 hb9)
    clear hk9 hs9 hw9 hb9
    have HE9 := Lib.hid e9
    have HR9 := Lib.hid (And.intro r0 (And.intro r1 r2))
    clear e9 r0 r1 r2
    go_wp2_with fail
    first | rw [HE9.out] | (go_region; all_goals go_wp2; rw [HE9.out])
    have r0 := HR9.out.1
    have r1 := HR9.out.2.1
    have r2 := HR9.out.2.2
    refine bodyPost_ret (v := .tuple #[.string ⟨#[]⟩, .bool false, .agg #[.int .i64 0, .slice none 0 0, .slice none 0 0]]) (by simp [results, Tryd.results31, go_sem, r0, r1, r2]) rfl ?_
    rw [HOD.out.1, HOD.out.2, HTD.out]
    exact ⟨0, none, 0, 0, none, 0, 0, rfl, HRET.out.1, rfl, HRET.out.2⟩
end Go.Proofs.YtocfkmdoalhjmaaDoor
namespace Go.Proofs.YtocfkmdoalhjmaaDoor
open Go.RowKit
set_option linter.unusedVariables false
set_option maxRecDepth 100000

set_option maxHeartbeats 16000000 in
theorem plane_tables (aT : Option Addr) (nT cT : Nat) (t : List Int) (W : World) (R : Nat → Addr) (hE : Env W R) (hT : RK .i64 W aT nT t) (h8T : nT * 8 ≤ 140737488351232) :
    Calls Tryd.prog 7 #[.slice aT nT cT] W (TrueBelow W) := by
  have hmT : nT ≤ maxLen := by unfold maxLen; omega
  have hmT2 : nT + 2 ≤ maxLen := by unfold maxLen; omega
  obtain ⟨s1, hs1⟩ : ∃ s, plTextS t = s := ⟨_, rfl⟩
  obtain ⟨b1, hb1⟩ : ∃ b, plTextB t = b := ⟨_, rfl⟩
  obtain ⟨s2, hs2⟩ : ∃ s, hexO t = s := ⟨_, rfl⟩
  obtain ⟨b2, hb2⟩ : ∃ b, evenO t = b := ⟨_, rfl⟩
  obtain ⟨D, hD⟩ : ∃ D, tabD t = D := ⟨_, rfl⟩
  have c_tx := fun W a n c S hS (hR : RK .i64 W a n t) hm => pltext_any a n c t W S hS hR hm
  have c_rt := fun W a n c (hR : RK .i64 W a n t) hm => reftext_any a n c t W hR hm
  have c_hx := fun W a n c S hS (hR : SlI W a n c t) => hex_any a n c t W S hS hR
  have c_rh := fun W a n c (hR : RK .i64 W a n t) hm => refhex_any a n c t W hR hm
  have c_ev := fun W a n c S hS (hR : RK .i64 W a n t) hm => even_any a n c t W S hS hR hm
  have c_re := fun W a n c (hR : RK .i64 W a n t) hm => refeven_any a n c t W hR hm
  have c_ck := fun W a n c S hS (hR : RK .i64 W a n t) hm => plcheck_any a n c t W S hS hR hm
  have c_rc := fun W a n c (hR : RK .i64 W a n t) hm => refplcheck_any a n c t W hR hm
  simp only [hs1, hb1, hs2, hb2, hD] at c_tx c_rt c_hx c_rh c_ev c_re c_ck c_rc
  have HC1 := Lib.hid (And.intro c_tx c_rt)
  have HC2 := Lib.hid (And.intro c_hx c_rh)
  have HC3 := Lib.hid (And.intro c_ev c_re)
  have HC4 := Lib.hid (And.intro c_ck c_rc)
  clear c_tx c_rt c_hx c_rh c_ev c_re c_ck c_rc hs1 hb1 hs2 hb2 hD
  have T0 := Tk.nil W
  have T1 := T0.add (fun wv => Below W.heap.size W wv) (bnil W)
  clear T0
  have T2 := T1.add (fun wv => Env wv R) (hE)
  clear T1
  have T3 := T2.add (fun wv => RK .i64 wv aT nT t) (hT)
  clear T2
  clear hE hT
  go_enter Tryd.func7, Tryd.ntmps7
  go_wp2_with fail
  refine (awake22 W R (T3.out.1.2).sent).mono ?_; rintro e w1 ⟨rfl, hbw1⟩
  have T4 := T3.up hbw1
  clear T3
  go_wp2_with fail
  refine (lent_ex aT nT cT t w1 T4.out.2 h8T).mono ?_; rintro e w2 ⟨gt, ct, rfl, rfl, hot, hbw2⟩
  have T5 := T4.up hbw2
  clear T4
  have T6 := T5.add (fun wv => LentM wv gt nT t) (hot.rk)
  clear T5
  clear hot
  go_wp2_with fail
  refine (HC1.out.1 w2 (some ⟨gt, 0, none⟩) nT (nT + 2) R (T6.out.1.1.2).sent ((T6.out.2).sl h8T).rk (by unfold maxLen; omega)).mono ?_; rintro e w4 ⟨ev4, rfl, he4, hbw4⟩
  have T7 := T6.up hbw4
  clear T6
  have T8 := T7.add (fun wv => EC R wv ev4 D) (he4)
  clear T7
  clear he4
  go_wp2_with fail
  refine (HC1.out.2 w4 aT nT cT T8.out.1.1.2 hmT).mono ?_; rintro e w5 ⟨N5, a51, n51, c51, a52, n52, c52, rfl, hw5, hn5, hbw5⟩
  have T9 := T8.up hbw5
  clear T8
  have T10 := T9.add (fun wv => WC wv (.agg #[.int .i64 N5, .slice a51 n51 c51, .slice a52 n52 c52]) D) (hw5)
  clear T9
  clear hw5 hn5
  obtain ⟨u5, hu5⟩ : ∃ u5, w5.alloc (.cells #[.int .i64 N5, .slice a51 n51 c51, .slice a52 n52 c52] 48) = u5 := ⟨_, rfl⟩
  have hbu5 : Below w5.heap.size w5 u5 := by rw [← hu5]; exact balloc (bnil w5) _
  have T11 := T10.up hbu5
  clear T10
  have T12 := T11.add (fun wv => wv.cell? ⟨w5.heap.size, 0, none⟩ = some (.int .i64 N5) ∧ wv.cell? ⟨w5.heap.size, 1, none⟩ = some (.slice a51 n51 c51) ∧ wv.cell? ⟨w5.heap.size, 2, none⟩ = some (.slice a52 n52 c52)) (by rw [← hu5]; exact ⟨cnw (by simp) rfl, cnw (by simp) rfl, cnw (by simp) rfl⟩)
  clear T11
  have Hu5 := Lib.hid hu5
  clear hu5 hbu5
  go_wp2_with fail
  rw [Hu5.out]
  refine (HC2.out.1 u5 (some ⟨gt, 0, none⟩) nT (nT + 2) R (T12.out.1.1.1.1.1.2).sent ((T12.out.1.1.1.2).sl h8T)).mono ?_; rintro e w6 ⟨ev6, rfl, he6, hbw6⟩
  have T13 := T12.up hbw6
  clear T12
  have T14 := T13.add (fun wv => EC R wv ev6 D) (he6)
  clear T13
  clear he6
  go_wp2_with fail
  refine (HC2.out.2 w6 aT nT cT T14.out.1.1.1.1.1.2 hmT).mono ?_; rintro e w7 ⟨N7, a71, n71, c71, a72, n72, c72, rfl, hw7, hn7, hbw7⟩
  have T15 := T14.up hbw7
  clear T14
  have T16 := T15.add (fun wv => WC wv (.agg #[.int .i64 N7, .slice a71 n71 c71, .slice a72 n72 c72]) D) (hw7)
  clear T15
  clear hw7 hn7
  obtain ⟨u7, hu7⟩ : ∃ u7, w7.alloc (.cells #[.int .i64 N7, .slice a71 n71 c71, .slice a72 n72 c72] 48) = u7 := ⟨_, rfl⟩
  have hbu7 : Below w7.heap.size w7 u7 := by rw [← hu7]; exact balloc (bnil w7) _
  have T17 := T16.up hbu7
  clear T16
  have T18 := T17.add (fun wv => wv.cell? ⟨w7.heap.size, 0, none⟩ = some (.int .i64 N7) ∧ wv.cell? ⟨w7.heap.size, 1, none⟩ = some (.slice a71 n71 c71) ∧ wv.cell? ⟨w7.heap.size, 2, none⟩ = some (.slice a72 n72 c72)) (by rw [← hu7]; exact ⟨cnw (by simp) rfl, cnw (by simp) rfl, cnw (by simp) rfl⟩)
  clear T17
  have Hu7 := Lib.hid hu7
  clear hu7 hbu7
  go_wp2_with fail
  rw [Hu7.out]
  refine (HC3.out.1 u7 (some ⟨gt, 0, none⟩) nT (nT + 2) R (T18.out.1.1.1.1.1.1.1.1.2).sent ((T18.out.1.1.1.1.1.1.2).sl h8T).rk (by unfold maxLen; omega)).mono ?_; rintro e w8 ⟨ev8, rfl, he8, hbw8⟩
  have T19 := T18.up hbw8
  clear T18
  have T20 := T19.add (fun wv => EC R wv ev8 D) (he8)
  clear T19
  clear he8
  go_wp2_with fail
  refine (HC3.out.2 w8 aT nT cT T20.out.1.1.1.1.1.1.1.1.2 hmT).mono ?_; rintro e w9 ⟨N9, a91, n91, c91, a92, n92, c92, rfl, hw9, hn9, hbw9⟩
  have T21 := T20.up hbw9
  clear T20
  have T22 := T21.add (fun wv => WC wv (.agg #[.int .i64 N9, .slice a91 n91 c91, .slice a92 n92 c92]) D) (hw9)
  clear T21
  clear hw9 hn9
  obtain ⟨u9, hu9⟩ : ∃ u9, w9.alloc (.cells #[.int .i64 N9, .slice a91 n91 c91, .slice a92 n92 c92] 48) = u9 := ⟨_, rfl⟩
  have hbu9 : Below w9.heap.size w9 u9 := by rw [← hu9]; exact balloc (bnil w9) _
  have T23 := T22.up hbu9
  clear T22
  have T24 := T23.add (fun wv => wv.cell? ⟨w9.heap.size, 0, none⟩ = some (.int .i64 N9) ∧ wv.cell? ⟨w9.heap.size, 1, none⟩ = some (.slice a91 n91 c91) ∧ wv.cell? ⟨w9.heap.size, 2, none⟩ = some (.slice a92 n92 c92)) (by rw [← hu9]; exact ⟨cnw (by simp) rfl, cnw (by simp) rfl, cnw (by simp) rfl⟩)
  clear T23
  have Hu9 := Lib.hid hu9
  clear hu9 hbu9
  have v_f5_0 : (w9.alloc (.cells #[.int .i64 N9, .slice a91 n91 c91, .slice a92 n92 c92] 48)).cell? ⟨w5.heap.size, 0, none⟩ = some (.int .i64 N5) := by rw [Hu9.out]; exact T24.out.1.1.1.1.1.1.2.1
  have v_f5_1 : (w9.alloc (.cells #[.int .i64 N9, .slice a91 n91 c91, .slice a92 n92 c92] 48)).cell? ⟨w5.heap.size, 1, none⟩ = some (.slice a51 n51 c51) := by rw [Hu9.out]; exact T24.out.1.1.1.1.1.1.2.2.1
  have v_f5_2 : (w9.alloc (.cells #[.int .i64 N9, .slice a91 n91 c91, .slice a92 n92 c92] 48)).cell? ⟨w5.heap.size, 2, none⟩ = some (.slice a52 n52 c52) := by rw [Hu9.out]; exact T24.out.1.1.1.1.1.1.2.2.2
  go_wp2_with fail
  rw [Hu9.out]
  refine (rawIs_ch ev4 (.agg #[.int .i64 N5, .slice a51 n51 c51, .slice a52 n52 c52]) D u9 R T24.out.1.1.1.1.1.1.1.1.1.1.1.2 T24.out.1.1.1.1.1.1.1.1.2 T24.out.1.1.1.1.1.1.1.2).mono ?_; rintro e x5 ⟨rfl, hbx5⟩
  clear v_f5_0 v_f5_1 v_f5_2
  have T25 := T24.up hbx5
  clear T24
  have v_f7_0 : x5.cell? ⟨w7.heap.size, 0, none⟩ = some (.int .i64 N7) := T25.out.1.1.1.2.1
  have v_f7_1 : x5.cell? ⟨w7.heap.size, 1, none⟩ = some (.slice a71 n71 c71) := T25.out.1.1.1.2.2.1
  have v_f7_2 : x5.cell? ⟨w7.heap.size, 2, none⟩ = some (.slice a72 n72 c72) := T25.out.1.1.1.2.2.2
  go_wp2_with fail
  refine (rawIs_ch ev6 (.agg #[.int .i64 N7, .slice a71 n71 c71, .slice a72 n72 c72]) D x5 R T25.out.1.1.1.1.1.1.1.1.1.1.1.2 T25.out.1.1.1.1.1.2 T25.out.1.1.1.1.2).mono ?_; rintro e x7 ⟨rfl, hbx7⟩
  clear v_f7_0 v_f7_1 v_f7_2
  have T26 := T25.up hbx7
  clear T25
  have v_f9_0 : x7.cell? ⟨w9.heap.size, 0, none⟩ = some (.int .i64 N9) := T26.out.2.1
  have v_f9_1 : x7.cell? ⟨w9.heap.size, 1, none⟩ = some (.slice a91 n91 c91) := T26.out.2.2.1
  have v_f9_2 : x7.cell? ⟨w9.heap.size, 2, none⟩ = some (.slice a92 n92 c92) := T26.out.2.2.2
  go_wp2_with fail
  refine (rawIs_ch ev8 (.agg #[.int .i64 N9, .slice a91 n91 c91, .slice a92 n92 c92]) D x7 R T26.out.1.1.1.1.1.1.1.1.1.1.1.2 T26.out.1.1.2 T26.out.1.2).mono ?_; rintro e x9 ⟨rfl, hbx9⟩
  clear v_f9_0 v_f9_1 v_f9_2
  have T27 := T26.up hbx9
  clear T26
  go_wp2_with fail
  refine (HC4.out.1 x9 (some ⟨gt, 0, none⟩) nT (nT + 2) R (T27.out.1.1.1.1.1.1.1.1.1.1.1.2).sent ((T27.out.1.1.1.1.1.1.1.1.1.2).sl h8T).rk (by unfold maxLen; omega)).mono ?_; rintro e y1 ⟨ev1, rfl, he1, _, hby1⟩
  have T28 := T27.up hby1
  clear T27
  have T29 := T28.add (fun wv => EC R wv ev1 D) (he1)
  clear T28
  clear he1
  go_wp2_with fail
  refine (HC4.out.2 y1 aT nT cT T29.out.1.1.1.1.1.1.1.1.1.1.1.2 hmT).mono ?_; rintro e y2 ⟨N2, a21, n21, c21, a22, n22, c22, rfl, hw2, f1, f2, hn2, _, hby2⟩
  have T30 := T29.up hby2
  clear T29
  have T31 := T30.add (fun wv => WC wv (.agg #[.int .i64 N2, .slice a21 n21 c21, .slice a22 n22 c22]) D) (hw2)
  clear T30
  clear hw2 hn2 f1 f2
  go_wp2_with fail
  refine (rawIs_ch ev1 (.agg #[.int .i64 N2, .slice a21 n21 c21, .slice a22 n22 c22]) D y2 R T31.out.1.1.1.1.1.1.1.1.1.1.1.1.1.2 T31.out.1.2 T31.out.2).mono ?_; rintro e y3 ⟨rfl, hby3⟩
  have T32 := T31.up hby3
  clear T31
  go_wp2_with fail
  refine (kept_any gt nT (nT + 2) cT aT t y3 T32.out.1.1.1.1.1.1.1.1.1.1.1.2 (Nat.le_refl _) hmT2 T32.out.1.1.1.1.1.1.1.1.1.1.1.1.2 h8T).mono ?_; rintro e y4 ⟨rfl, hby4⟩
  have T33 := T32.up hby4
  clear T32
  go_wp2
  go_ret
  exact ⟨rfl, T33.out.1.1.1.1.1.1.1.1.1.1.1.1.1.1.2⟩
theorem plane_tables_row (aT : Option Addr) (cT : Nat) (t : List Int) (W : World) (R : Nat → Addr) (hE : Env W R) (hR0 : Rd W aT t.length 1 (t.map (Value.int .i64))) (hl0 : t.length ≤ cT) (hz0 : cT * 8 ≤ 140737488351232) (hn0 : aT = none → cT = 0) (hx0 : ∀ x ∈ t, -9223372036854775808 ≤ x ∧ x ≤ 9223372036854775807) :
    Calls Tryd.prog 7 #[.slice aT t.length cT] W (TrueBelow W) :=
  plane_tables aT t.length cT t W R hE ⟨rfl, hR0⟩ (by omega)
end Go.Proofs.YtocfkmdoalhjmaaDoor
namespace Go.Proofs.YtocfkmdoalhjmaaDoor
open Go.ChangeShapes Go.WideShapes Go.ChangeAt Go.RowKit
set_option linter.unusedVariables false

theorem door_met (os : Os) (args : Array Value) : laidMetH Tryd.prog Rows.planeTablesRow.laid ((World.doorLaid Tryd.prog 4000 os).forCall (fun _ _ => 0) ⟨#[], args, []⟩).memory :=
  laidMetH_of_parts (laidMet_of_run' 8 (by kernel_rfl) (by kernel_rfl)) (by kernel_rfl)

set_option maxRecDepth 100000 in
theorem lifted (os : Os) (started : os.Started) (H : Type) (enc : TypeId × Value → H) :
    ReturnsInHanded {} Tryd.checked os 7 .any (fun w args => (Rows.planeTablesSpec.pre enc Tryd.prog Tryd.f7 Rows.planeTablesRow.domain false w args ∧ laidMetH Tryd.prog Rows.planeTablesRow.laid w) ∧ sizedMet enc Tryd.prog Tryd.f7 (OpenSpec.ofChange Rows.planeTablesSpec) false w args)
      (Rows.planeTablesSpec.post enc Tryd.prog Tryd.f7 false true false false) := by
  refine returnsInHanded_of_change_and (C := Tryd.checked) (X := fun w _ => laidMetH Tryd.prog Rows.planeTablesRow.laid w) (fun _ _ _ hh h => h.of_heap hh) own started (by kernel_rfl) Tryd.func7
    (ChangeSpec.witness_shaped (enc := enc) (C := Tryd.checked) (os := os) (X := fun w _ => laidMetH Tryd.prog Rows.planeTablesRow.laid w) false (World.doorLaid Tryd.prog 4000 os) #[.slice none 0 0] 8 rfl (World.shaped_of_RefB (by kernel_rfl) (by kernel_rfl)) (by kernel_rfl) (by kernel_rfl) (by kernel_rfl) (door_met os _)) ?_
  intro W base args ds gs before hval0 hW hcnd hzz hL hSH
  have hval : ∀ (j : Nat) t v, Tryd.f7.params[j]? = some t → args[j]? = some v → Value.okWide Tryd.prog W .any base t v := hval0
  have hW' := hW
  obtain ⟨p, q, hA0, hV, rfl, hfz, hnd⟩ := hW
  have hA : DataW.TrodAll enc Tryd.prog W 0 (fun _ => true) true Tryd.f7.params.toList args.toList ds p := hA0
  rw [Tryd.params7] at hA hval hzz
  obtain ⟨v0, vs0, d0, ds0, p0, q0, hargs, rfl, rfl, h0, r0⟩ := trodAll_cons hA
  obtain ⟨rfl, rfl, rfl⟩ := trodAll_nil r0
  obtain rfl : args = #[v0] := by cases args; simp_all
  obtain ⟨rfl, rfl⟩ := trodVars_none hV
  obtain ⟨s0, len0, cap0, rfl⟩ := okWide_slice Tryd.underlying22 (hval 0 22 v0 rfl rfl)
  have k0 := h0
  have lt0 : ∀ x ∈ p0, x.block < W.heap.size := by obtain ⟨m, hm⟩ := k0; exact DataW.trod_lt m _ _ _ hm
  obtain ⟨hz0, hn0⟩ : cap0 * 8 ≤ 140737488351232 ∧ (s0 = none → cap0 = 0) := by
    obtain ⟨fuel, hf⟩ := h0
    have := cap_sized (j := 0) (t := 22) (e := 3) Tryd.underlying22 hf hzz rfl rfl
    rwa [show Tryd.prog.bytesOf 3 = 8 from by kernel_rfl] at this
  obtain ⟨l0, rfl, hc0, hl0, hR0, hx0⟩ : ∃ l0 : List Int, l0.length = len0 ∧ cap0 ≤ maxLen ∧ len0 ≤ cap0 ∧ Rd W s0 len0 1 (l0.map (Value.int .i64)) ∧ (∀ x ∈ l0, -9223372036854775808 ≤ x ∧ x ≤ 9223372036854775807) := by
    obtain ⟨fuel, hf⟩ := h0
    obtain ⟨l, e1, e2, e3, e4, e5⟩ := open_intsl hf
    exact ⟨l, e1, e2, e3, e4, e5⟩
  obtain ⟨R, hS⟩ := env_of_laid hL
  clear hA0 hval0
  refine (plane_tables_row s0 cap0 l0 W R hS hR0 hl0 hz0 hn0 hx0).mono fun e W' ⟨he, bel⟩ => ?_
  subst he
  exact ⟨_, rfl, _, _, _, [], _, [], hW', trodAll_mk1 (shut_bool Tryd.underlying4 _), (trodAll_cons_mk (Below.trod laidOut (by kernel_rfl) (of_decide_eq_true (by kernel_rfl)) k0 bel lt0) trodAll_mk0), rfl, bel.frame _, fun h => by cases h⟩

theorem row_holds : Rows.PlaneTablesSaid :=
  OpenClaim.holds_of_wide 7 Tryd.f7 rfl rfl rfl rfl rfl rfl rfl ⟨rfl, rfl, rfl, rfl, rfl⟩ rfl rfl rfl rfl rfl (by kernel_rfl) Tryd.func7 (by kernel_rfl)
    (of_decide_eq_true (by kernel_rfl)) (by unfold Func.isWrapper; first | (rw [if_pos (by decide +kernel)]; kernel_rfl) | (rw [if_neg (by decide +kernel)]; exact ⟨rfl, rfl⟩))
    (fun os started H enc _ => lifted os started H enc)

theorem card_holds : Rows.PlaneTablesCardSaid :=
  Claim7.holds_tied_plain_at .later [] Rows.planeTablesCard.laidKinds true Rows.planeTablesCard.stood.harness true
    row_holds (fun _ h => by cases h) (by kernel_rfl) (fun _ h => by cases h) planeTables_row_tie rfl ⟨rfl, rfl⟩ (by kernel_rfl) rfl
    (fun f fn hf hfn => by
      obtain rfl : f = 7 := Option.some.inj ((show Tryd.prog.funcNamed "eden/edenlaw22.PlaneTables" = some 7 by kernel_rfl).symm.trans hf) |>.symm
      obtain rfl : fn = Tryd.f7 := (Option.some.inj (Tryd.func7.symm.trans hfn)).symm
      exact ⟨by kernel_rfl, fun j t ht => by
        rw [Tryd.params7] at ht
        have hm : t ∈ [22] := by simpa using Array.mem_of_getElem? ht
        have hall : ([22].all fun u => !Tryd.prog.wantsStandIn u) = true := by kernel_rfl
        exact (show Tryd.prog.wantsStandIn t = false by simpa using List.all_eq_true.1 hall t hm)⟩)
    (by kernel_rfl)
#print axioms card_holds
end Go.Proofs.YtocfkmdoalhjmaaDoor
