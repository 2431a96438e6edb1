/- plane.moved, plane.Even for any numbers. edenref22.parts, edenref22.Counted. The contract of edenref22.Life, for any text. The contract of edenref22.From, for any text. edenlaw22.PlaneTexts returns true. PlaneTexts: the row's statement and its tied card: for every input the law's call returns true, and the arguments read as before. No condition beside the row's own (the listed package-level variables read as the program's text lays them). -/
import Derived.Test.YtocfkmdoalhjmaaDoorLifM
import Derived.Test.YtocfkmdoalhjmaaDoorPlaA
import Derived.Test.YtocfkmdoalhjmaaDoorBitI
import Derived.Test.YtocfkmdoalhjmaaDoorTrkP
import Derived.Test.YtocfkmdoalhjmaaDoorPlaB
import Derived.Test.YtocfkmdoalhjmaaDoorPlaD
import Derived.Test.YtocfkmdoalhjmaaDoorRefPD
import Derived.Deep.QuietTactic
import Derived.BigQuiet
import Derived.Test.YtocfkmdoalhjmaaDoorHexM
import Derived.Test.YtocfkmdoalhjmaaDoorEnvLaid
import Derived.Test.YtocfkmdoalhjmaaDoorCards
import Derived.Test.YtocfkmdoalhjmaaDoorTie
import Derived.ProofKit
import Derived.OpenShut
import Derived.ChangeOld
import Derived.ChangeVars
import Derived.LaidMore
import Derived.LaidHandle
import Derived.MakeChecks
import Derived.Stop.Joined
import Derived.SevenTiedAt
namespace Go.Proofs.YtocfkmdoalhjmaaDoor
open Go.RowKit
set_option linter.unusedVariables false
set_option maxRecDepth 100000

theorem idx9 (k : Nat) (hk : k < 9) (f0 f1 f2 f3 f4 f5 f6 f7 f8 : Nat) (w : World) :
    (Instr.index 111 (.agg #[.int .i64 (f0 : Nat), .int .i64 (f1 : Nat), .int .i64 (f2 : Nat), .int .i64 (f3 : Nat), .int .i64 (f4 : Nat), .int .i64 (f5 : Nat), .int .i64 (f6 : Nat), .int .i64 (f7 : Nat), .int .i64 (f8 : Nat)]) (.int .i64 (k : Int))).run Tryd.prog w = .ok (.int .i64 ((([f0, f1, f2, f3, f4, f5, f6, f7, f8] : List Nat).getD k 0 : Nat) : Int)) w := by
  have h : Tryd.prog.underlying 111 = some (.array 9 3) := by kernel_rfl
  have hj : k = 0 ∨ k = 1 ∨ k = 2 ∨ k = 3 ∨ k = 4 ∨ k = 5 ∨ k = 6 ∨ k = 7 ∨ k = 8 := by omega
  rcases hj with rfl | rfl | rfl | rfl | rfl | rfl | rfl | rfl | rfl
  all_goals simp [Instr.index, run_underlying h, asIntOf, go_sem]
theorem get9 {f0 f1 f2 f3 f4 f5 f6 f7 f8 : Nat} (h0 : f0 ≤ 8) (h1 : f1 ≤ 8) (h2 : f2 ≤ 8) (h3 : f3 ≤ 8) (h4 : f4 ≤ 8) (h5 : f5 ≤ 8) (h6 : f6 ≤ 8) (h7 : f7 ≤ 8) (h8 : f8 ≤ 8) {k : Nat} (hk : k < 9) : ([f0, f1, f2, f3, f4, f5, f6, f7, f8] : List Nat).getD k 0 ≤ 8 := by
  have hj : k = 0 ∨ k = 1 ∨ k = 2 ∨ k = 3 ∨ k = 4 ∨ k = 5 ∨ k = 6 ∨ k = 7 ∨ k = 8 := by omega
  rcases hj with rfl | rfl | rfl | rfl | rfl | rfl | rfl | rfl | rfl <;> assumption
set_option maxHeartbeats 4000000 in
theorem moved_any (win : Nat) (hw : win < 512) (f0 f1 f2 f3 f4 f5 f6 f7 f8 : Nat) (h0 : f0 ≤ 8) (h1 : f1 ≤ 8) (h2 : f2 ≤ 8) (h3 : f3 ≤ 8) (h4 : f4 ≤ 8) (h5 : f5 ≤ 8) (h6 : f6 ≤ 8) (h7 : f7 ≤ 8) (h8 : f8 ≤ 8) (W : World) :
    Calls Tryd.prog 63 #[.int .i64 (win : Nat), .agg #[.int .i64 (f0 : Nat), .int .i64 (f1 : Nat), .int .i64 (f2 : Nat), .int .i64 (f3 : Nat), .int .i64 (f4 : Nat), .int .i64 (f5 : Nat), .int .i64 (f6 : Nat), .int .i64 (f7 : Nat), .int .i64 (f8 : Nat)]] W fun e w' => e = .returned (.int .i64 (mvT (fun k => ([f0, f1, f2, f3, f4, f5, f6, f7, f8] : List Nat).getD k 0) win 9 : Nat)) ∧ Below W.heap.size W w' := by
  have HG : Hid (∀ k : Nat, k < 9 → ([f0, f1, f2, f3, f4, f5, f6, f7, f8] : List Nat).getD k 0 ≤ 8) := fun k hk => get9 h0 h1 h2 h3 h4 h5 h6 h7 h8 hk
  clear h0 h1 h2 h3 h4 h5 h6 h7 h8
  go_enter Tryd.func63, Tryd.ntmps63
  go_wp2
  obtain ⟨Wb, hWb⟩ : ∃ Wb, W.alloc (.cells #[.int .i64 (f0 : Nat), .int .i64 (f1 : Nat), .int .i64 (f2 : Nat), .int .i64 (f3 : Nat), .int .i64 (f4 : Nat), .int .i64 (f5 : Nat), .int .i64 (f6 : Nat), .int .i64 (f7 : Nat), .int .i64 (f8 : Nat)] 111) = Wb := ⟨_, rfl⟩
  have HB : Hid (Below W.heap.size W Wb) := by rw [← hWb]; exact balloc (bnil W) _
  rw [hWb]
  clear hWb
  go_loop [5, 9] (fun nx ix => ∃ k : Nat, k ≤ 9 ∧ ix = .int .i64 (k : Nat) ∧ nx = .int .i64 (mvT (fun k => ([f0, f1, f2, f3, f4, f5, f6, f7, f8] : List Nat).getD k 0) win k : Nat)) (fun _ ix => 9 - (intOf ix).toNat)
  case atStart => exact ⟨0, by omega, rfl, rfl⟩
  case round =>
    obtain ⟨k, hk, rfl, rfl⟩ := hrel
    by_cases hlt : k < 9
    · have eix := idx9 k hlt f0 f1 f2 f3 f4 f5 f6 f7 f8 Wb
      have hf := HG.out k hlt
      have HM : Hid (mvT (fun k => ([f0, f1, f2, f3, f4, f5, f6, f7, f8] : List Nat).getD k 0) win (k + 1) = 2 * mvT (fun k => ([f0, f1, f2, f3, f4, f5, f6, f7, f8] : List Nat).getD k 0) win k + win / 2 ^ (8 - ([f0, f1, f2, f3, f4, f5, f6, f7, f8] : List Nat).getD k 0) % 2) := rfl
      have hb := mvT_lt (fun k => ([f0, f1, f2, f3, f4, f5, f6, f7, f8] : List Nat).getD k 0) win k
      have hp : 2 ^ k ≤ 256 := by
        have := Nat.pow_le_pow_right (n := 2) (by omega) (show k ≤ 8 by omega)
        have h9 : (2 : Nat) ^ 8 = 256 := by decide
        omega
      have hb2 : mvT (fun k => ([f0, f1, f2, f3, f4, f5, f6, f7, f8] : List Nat).getD k 0) win k ≤ 256 := by omega
      generalize ([f0, f1, f2, f3, f4, f5, f6, f7, f8] : List Nat).getD k 0 = P at *
      generalize mvT (fun k => ([f0, f1, f2, f3, f4, f5, f6, f7, f8] : List Nat).getD k 0) win k = N at *
      obtain ⟨E, hE⟩ : ∃ E, 8 - P = E := ⟨_, rfl⟩
      rw [hE] at HM
      have hEI : (8 : Int) - (P : Int) = (E : Int) := by omega
      have hEw : IntKind.i64.wrap (E : Int) = (E : Int) := IntWalk.i64_in _ (by omega)
      have e0 : (0 : Int) ≤ (E : Int) := by omega
      have e1 : (E : Int) ≤ 64 := by omega
      obtain ⟨v, hv⟩ : ∃ v, win / 2 ^ E = v := ⟨_, rfl⟩
      have hvI : (win : Int) / 2 ^ E = (v : Int) := by rw [← hv, Int.natCast_ediv, Int.natCast_pow]; rfl
      have hv2 : v < 512 := by rw [← hv]; exact Nat.lt_of_le_of_lt (Nat.div_le_self _ _) hw
      rw [hv] at HM
      have ha := and1_i64 (a := v) (by omega)
      have hz : v % 2 ≤ 1 := by omega
      generalize v % 2 = z at *
      clear hv hE hb hp hf
      go_wp2
      go_round
      case rel => exact ⟨k + 1, by omega, by go_num, by rw [HM.out]; go_num⟩
      case measure => simp [intOf]; omega
    · obtain rfl : k = 9 := by omega
      go_wp2
      go_ret
      exact ⟨rfl, HB.out⟩
theorem moved_q (win : Nat) (hw : win < 512) (W : World) : Calls Tryd.prog 63 #[.int .i64 (win : Nat), .agg #[.int .i64 6, .int .i64 3, .int .i64 0, .int .i64 7, .int .i64 4, .int .i64 1, .int .i64 8, .int .i64 5, .int .i64 2]] W fun e w' => e = .returned (.int .i64 (mvT qF win 9 : Nat)) ∧ Below W.heap.size W w' :=
  moved_any win hw 6 3 0 7 4 1 8 5 2 (by omega) (by omega) (by omega) (by omega) (by omega) (by omega) (by omega) (by omega) (by omega) W
theorem moved_m (win : Nat) (hw : win < 512) (W : World) : Calls Tryd.prog 63 #[.int .i64 (win : Nat), .agg #[.int .i64 2, .int .i64 1, .int .i64 0, .int .i64 5, .int .i64 4, .int .i64 3, .int .i64 8, .int .i64 7, .int .i64 6]] W fun e w' => e = .returned (.int .i64 (mvT mF win 9 : Nat)) ∧ Below W.heap.size W w' :=
  moved_any win hw 2 1 0 5 4 3 8 7 6 (by omega) (by omega) (by omega) (by omega) (by omega) (by omega) (by omega) (by omega) (by omega) W
def evenO (t : List Int) : Bool := decide (tabD t = none) && evB t
def EvRet (R : Nat → Addr) (W : World) (b : Bool) (x : ErrD) (e : Ending) (w' : World) : Prop := ∃ ev, e = .returned (.tuple #[.bool b, ev]) ∧ EC R w' ev x ∧ Below W.heap.size W w'
theorem evenO_er {t : List Int} (h : tabD t ≠ none) : evenO t = false := by unfold evenO; rw [decide_eq_false h]; rfl
theorem evenO_ok {t : List Int} (h : tabD t = none) : evenO t = evB t := by unfold evenO; rw [decide_eq_true h]; rfl
set_option maxHeartbeats 16000000 in
theorem even_any (a : Option Addr) (n c : Nat) (t : List Int) (W : World) (R : Nat → Addr) (hS : Sent W R) (hT : RK .i64 W a n t) (hm : n ≤ maxLen) :
    Calls Tryd.prog 24 #[.slice a n c] W (EvRet R W (evenO t) (tabD t)) := by
  have T0 := Tk.nil W
  have T1 := T0.add (fun wv => Below W.heap.size W wv) (bnil W)
  clear T0
  have T2 := T1.add (fun wv => Sent wv R) (hS)
  clear T1
  have T3 := T2.add (fun wv => RK .i64 wv a n t) (hT)
  clear T2
  clear hS hT
  by_cases htd : tabD t ≠ none
  · skip
    have HO := Lib.hid (evenO_er htd)
    have HTD := Lib.hid htd
    clear htd
    go_enter Tryd.func24, Tryd.ntmps24
    go_wp2_with fail
    refine (plcheck_er a n c t W R T3.out.1.2 T3.out.2 hm HTD.out).mono ?_; rintro e w1 ⟨g, rfl, he, hbw1⟩
    have T4 := T3.up hbw1
    clear T3
    have HEC := Lib.hid he
    clear he
    go_wp2
    go_ret2
    rw [HO.out]
    exact ⟨_, rfl, HEC.out, T4.out.1.1.2⟩
  have ht0 : tabD t = none := Decidable.byContradiction htd
  have HO := Lib.hid (evenO_ok ht0)
  have HT := Lib.hid (tabD_none ht0)
  have HT0 := Lib.hid ht0
  clear htd ht0
  obtain rfl : n = 512 := (T3.out.2).len.trans HT.out.len
  go_enter Tryd.func24, Tryd.ntmps24
  go_wp2_with fail
  refine (plcheck_ok a 512 c t W R T3.out.1.2 T3.out.2 hm HT.out).mono ?_; rintro e w1 ⟨rfl, hbw1⟩
  have T4 := T3.up hbw1
  clear T3
  go_wp2_with fail
  go_loopw [14] (fun ix wr => ∃ i : Nat, i ≤ 512 ∧ ix = .int .i64 (i : Nat) ∧ (∀ j, j < i → evOk t j) ∧ Below w1.heap.size w1 wr) (fun ix _ => 512 - (intOf ix).toNat)
  case atStart => exact ⟨0, by omega, rfl, (fun j hj => absurd hj (by omega)), bnil w1⟩
  case round =>
    obtain ⟨i, hi, rfl, hall, hbx⟩ := hrel
    have HALL := Lib.hid hall
    have HBX := Lib.hid hbx
    clear hall
    have T5 := T4.up hbx
    clear T4
    generalize wr = wx at *
    clear hbx
    by_cases hlt : i < 512
    · skip
      obtain ⟨ab, ao, hab, _, hcell⟩ := (T5.out.2).addr (by omega)
      subst hab
      have z0 := hcell i hlt
      obtain ⟨Q, hQ⟩ : ∃ Q, mvT qF i 9 = Q := ⟨_, rfl⟩
      obtain ⟨M, hM⟩ : ∃ M, mvT mF i 9 = M := ⟨_, rfl⟩
      have hQ5 : Q < 512 := by rw [← hQ]; exact mvT_lt qF i 9
      have hM5 : M < 512 := by rw [← hM]; exact mvT_lt mF i 9
      have HZ : Hid (wx.cell? ⟨ab, ao + Q, none⟩ = some (.int .i64 (t.getD Q 0)) ∧ wx.cell? ⟨ab, ao + M, none⟩ = some (.int .i64 (t.getD M 0))) := ⟨hcell Q hQ5, hcell M hM5⟩
      have HQM := Lib.hid (And.intro hQ hM)
      obtain ⟨x, hx⟩ : ∃ x, t.getD i 0 = x := ⟨_, rfl⟩
      obtain ⟨y, hy⟩ : ∃ y, t.getD Q 0 = y := ⟨_, rfl⟩
      obtain ⟨u, hu⟩ : ∃ u, t.getD M 0 = u := ⟨_, rfl⟩
      rw [hx] at z0
      rw [hy, hu] at HZ
      have HV : Hid (t.getD i 0 = x ∧ t.getD (mvT qF i 9) 0 = y ∧ t.getD (mvT mF i 9) 0 = u) := by rw [hQ, hM]; exact ⟨hx, hy, hu⟩
      have i0 : (0 : Int) ≤ (i : Int) := by omega
      have i1 : (i : Int) < ((512 : Nat) : Int) := by omega
      have i2 : (i : Int) < 512 := by omega
      have q0 : (0 : Int) ≤ (Q : Int) := by omega
      have q1 : (Q : Int) < ((512 : Nat) : Int) := by omega
      have q2 : (Q : Int) < 512 := by omega
      have m0 : (0 : Int) ≤ (M : Int) := by omega
      have m1 : (M : Int) < ((512 : Nat) : Int) := by omega
      have m2 : (M : Int) < 512 := by omega
      clear hcell hQ hM hx hy hu
      go_wp2_with fail
      refine (moved_q i hlt wx).mono ?_; rintro e w3 ⟨rfl, hbw3⟩
      rw [HQM.out.1]
      have c1 : w3.cell? ⟨ab, ao + Q, none⟩ = some (.int .i64 y) := cpa hbw3 HZ.out.1
      have HB3 := Lib.hid (bstep HBX.out hbw3)
      have HZ3 := Lib.hid (cpa hbw3 HZ.out.2)
      have T6 := T5.up hbw3
      clear T5
      clear hbw3 z0
      by_cases hyx : y = x
      · skip
        subst hyx
        go_wp2_with fail
        refine (moved_m i hlt w3).mono ?_; rintro e w4 ⟨rfl, hbw4⟩
        rw [HQM.out.2]
        have c2 : w4.cell? ⟨ab, ao + M, none⟩ = some (.int .i64 u) := cpa hbw4 HZ3.out
        have HB4 := Lib.hid (bstep HB3.out hbw4)
        have T7 := T6.up hbw4
        clear T6
        clear hbw4 c1
        by_cases huy : u = y
        · skip
          subst huy
          have HA2 : Hid (∀ j, j < i + 1 → evOk t j) := by
            intro j hj
            rcases Nat.lt_or_ge j i with h | h
            · exact HALL.out j h
            · obtain rfl : j = i := by omega
              exact ⟨HV.out.2.1.trans HV.out.1.symm, HV.out.2.2.trans HV.out.1.symm⟩
          go_wp2
          go_roundw
          case rel => exact ⟨i + 1, by omega, by go_num, HA2.out, HB4.out⟩
          case measure => simp [intOf]; omega
        · skip
          have hne : (u != y) = true := by simpa using huy
          have HF : Hid (evB t = false) := evB_false hlt (fun h => huy (HV.out.2.2.symm.trans (h.2.trans HV.out.1)))
          go_wp2
          go_ret2
          rw [HO.out, HF.out, HT0.out]
          exact ⟨_, rfl, rfl, T7.out.1.1.2⟩
      · skip
        have hne : (y != x) = true := by simpa using hyx
        have HF : Hid (evB t = false) := evB_false hlt (fun h => hyx (HV.out.2.1.symm.trans (h.1.trans HV.out.1)))
        go_wp2
        go_ret2
        rw [HO.out, HF.out, HT0.out]
        exact ⟨_, rfl, rfl, T6.out.1.1.2⟩
    obtain rfl : i = 512 := by omega
    have HF := Lib.hid (evB_true HALL.out)
    go_wp2
    go_ret2
    rw [HO.out, HF.out, HT0.out]
    exact ⟨_, rfl, rfl, T5.out.1.1.2⟩
end Go.Proofs.YtocfkmdoalhjmaaDoor
namespace Go.Proofs.YtocfkmdoalhjmaaDoor
open Go.RowKit
set_option linter.unusedVariables false
set_option maxRecDepth 100000

/-- a window's neighbours, by its first bits -/
def abT (i : Nat) : Nat → Nat
  | 0 => 0
  | b + 1 => abT i b + (if b = 4 then 0 else i / 2 ^ b % 2)
theorem abT_le (i : Nat) : ∀ b, abT i b ≤ b
  | 0 => Nat.le_refl _
  | b + 1 => by
    have := abT_le i b
    unfold abT
    split <;> omega
theorem abT_key : ∀ i : Fin 512, abT i.val 9 = aboutN i.val := by decide +kernel
theorem abT_all {i : Nat} (hi : i < 512) : abT i 9 = aboutN i := abT_key ⟨i, hi⟩
set_option maxHeartbeats 4000000 in
theorem parts_any (i N z : Nat) (hi : i < 512) (hN : aboutN i = N) (hz : i / 16 % 2 = z) (W : World) : Calls Tryd.prog 75 #[.int .i64 (i : Nat)] W fun e w' => e = .returned (.tuple #[.int .i64 (N : Nat), .int .i64 (z : Nat)]) ∧ W = w' := by
  have HNZ := Lib.hid (And.intro hN hz)
  clear hN hz
  go_enter Tryd.func75, Tryd.ntmps75
  go_wp2
  go_loop [4, 5] (fun nx bx => ∃ b : Nat, b ≤ 9 ∧ bx = .int .i64 (b : Nat) ∧ nx = .int .i64 (abT i b : Nat)) (fun _ bx => 9 - (intOf bx).toNat)
  case atStart => exact ⟨0, by omega, rfl, rfl⟩
  case round =>
    obtain ⟨b, hb, rfl, rfl⟩ := hrel
    by_cases hlt : b < 9
    · have HM : Hid (abT i (b + 1) = abT i b + (if b = 4 then 0 else i / 2 ^ b % 2)) := rfl
      have hn := abT_le i b
      generalize abT i b = M at *
      obtain ⟨v, hv⟩ : ∃ v, i / 2 ^ b = v := ⟨_, rfl⟩
      have hvI : (i : Int) / 2 ^ b = (v : Int) := by rw [← hv, Int.natCast_ediv, Int.natCast_pow]; rfl
      have hv2 : v < 512 := by rw [← hv]; exact Nat.lt_of_le_of_lt (Nat.div_le_self _ _) hi
      rw [hv] at HM
      have ha := and1_i64 (a := v) (by omega)
      have hz : v % 2 ≤ 1 := by omega
      generalize v % 2 = y at *
      have b0 : (0 : Int) ≤ (b : Int) := by omega
      have b1 : (b : Int) ≤ 64 := by omega
      clear hv
      by_cases h4 : b = 4
      · subst h4
        rw [if_pos rfl] at HM
        go_wp2
        go_round
        case rel => exact ⟨5, by omega, by go_num, by rw [HM.out]; go_num⟩
        case measure => simp [intOf]
      · rw [if_neg h4] at HM
        have h4I : ¬ (b : Int) = 4 := by omega
        have h4b : ((b : Int) == 4) = false := by rw [beq_eq_false_iff_ne]; exact h4I
        go_wp2
        go_round
        case rel => exact ⟨b + 1, by omega, by go_num, by rw [HM.out]; go_num⟩
        case measure => simp [intOf]; omega
    · obtain rfl : b = 9 := by omega
      rw [abT_all hi, HNZ.out.1]
      have h8 := (andNot16 ⟨i, hi⟩).2.2.2
      simp only at h8
      rw [HNZ.out.1] at h8
      obtain ⟨v, hv⟩ : ∃ v, i / 16 = v := ⟨_, rfl⟩
      have hvI : (i : Int) / 16 = (v : Int) := by omega
      have hvJ : (i : Int) / 2 ^ 4 = (v : Int) := hvI
      have ha := and1_i64 (a := v) (by omega)
      rw [show v % 2 = z by rw [← hv]; exact HNZ.out.2] at ha
      clear hv
      go_wp2
      go_ret2
      exact ⟨rfl, rfl⟩
/-- a set's numbers as an array of nine -/
def bB (z k : Nat) : Bool := decide (z / 2 ^ k % 2 = 1)
abbrev bAgg (z : Nat) : Value := .agg #[.bool (bB z 0), .bool (bB z 1), .bool (bB z 2), .bool (bB z 3), .bool (bB z 4), .bool (bB z 5), .bool (bB z 6), .bool (bB z 7), .bool (bB z 8)]
abbrev bBox (z : Nat) : Obj := .cells #[.bool (bB z 0), .bool (bB z 1), .bool (bB z 2), .bool (bB z 3), .bool (bB z 4), .bool (bB z 5), .bool (bB z 6), .bool (bB z 7), .bool (bB z 8)] 123
def BB (w : World) (g z : Nat) : Prop := ∀ k, k < 9 → w.cell? ⟨g, k, none⟩ = some (.bool (bB z k))
theorem BB.new {w : World} {g z : Nat} (h : w.heap[g]? = some (bBox z)) : BB w g z := by
  intro k hk
  have h9 : k = 0 ∨ k = 1 ∨ k = 2 ∨ k = 3 ∨ k = 4 ∨ k = 5 ∨ k = 6 ∨ k = 7 ∨ k = 8 := by omega
  rcases h9 with rfl | rfl | rfl | rfl | rfl | rfl | rfl | rfl | rfl <;> simp [World.cell?, h]
theorem BB.lt {w : World} {g z : Nat} (h : BB w g z) : g < w.heap.size := World.block_lt_of_cell? _ _ (h 0 (by omega))
theorem BB.up {w w' : World} {n g z : Nat} (h : BB w g z) (hb : Below n w w') (hg : g < n) : BB w' g z := fun k hk => (hb.cell (p := ⟨g, k, none⟩) hg).trans (h k hk)
theorem take_zero {L : List Int} {n i : Nat} (hL : L.length = n) (hi : i < n) (hu : L.getD i 0 = 0) : L.take i ++ List.replicate (n - i) 0 = L.take (i + 1) ++ List.replicate (n - (i + 1)) 0 := by
  rw [← take_set hL hi hu]
  have h1 : (L.take i).length = i := by simp; omega
  rw [List.set_append_right _ _ (by omega), h1, Nat.sub_self, show n - i = (n - (i + 1)) + 1 by omega, List.replicate_succ, List.set_cons_zero]
set_option maxHeartbeats 8000000 in
theorem refcounted (b s : Nat) (W : World) : Calls Tryd.prog 76 #[bAgg b, bAgg s] W fun e w' => ∃ g c', e = .returned (.slice (some ⟨g, 0, none⟩) 512 c') ∧ OwI w' W.heap.size (some ⟨g, 0, none⟩) 512 c' (tabOf b s) ∧ Below W.heap.size W w' := by
  obtain ⟨L, hL⟩ : ∃ L, tabOf b s = L := ⟨_, rfl⟩
  have hLl : L.length = 512 := by rw [← hL]; exact tabOf_len b s
  have HL := Lib.hid hL
  have HLL := Lib.hid hLl
  rw [hL]
  clear hL hLl
  obtain ⟨g1, hg1⟩ : ∃ g1, W.heap.size = g1 := ⟨_, rfl⟩
  obtain ⟨Wb, hWb⟩ : ∃ Wb, (W.alloc (bBox b)).alloc (bBox s) = Wb := ⟨_, rfl⟩
  have HBB : Hid (Below g1 W Wb) := by show Below _ _ _; rw [← hWb, ← hg1]; exact balloc (balloc (bnil W) _) _
  have HZ1 : Hid (BB Wb g1 b) := by
    refine BB.new ?_
    rw [← hWb, (balloc (bnil _) (bBox s)).block _ (by rw [← hg1]; simp), ← hg1]
    exact heap_alloc_new W _
  have HZ2 : Hid (BB Wb (g1 + 1) s) := by
    refine BB.new ?_
    rw [← hWb]
    have := heap_alloc_new (W.alloc (bBox b)) (bBox s)
    rw [← hg1]
    simpa using this
  have HSZ : Hid (Wb.heap.size = g1 + 1 + 1) := by show _ = _; rw [← hWb, ← hg1]; simp
  have HWB := Lib.hid hWb
  have HG1 := Lib.hid hg1
  clear hWb
  go_enter Tryd.func76, Tryd.ntmps76
  go_wp2_with (first
    | (at_make; rw [HWB.out]; refine mk_full rfl _ _ _ rfl Wb.heap.size et_int .i64 .i64 _ _ 512 rfl rfl rfl rfl (by omega) (by unfold maxLen; omega) (Nat.le_refl _) ?_; intro w2 hown hb2 hsz2; rw [made_i64p] at hown))
  obtain ⟨g, hg⟩ : ∃ g, Wb.heap.size = g := ⟨_, rfl⟩
  rw [hg] at hown hb2
  rw [hg]
  have hgg : g = g1 + 1 + 1 := by rw [← hg]; exact HSZ.out
  have HO2 : Hid (w2.ownsRow g 3 1 (.slice (some ⟨g, 0, none⟩) 512 512) 512 ((L.take 0 ++ List.replicate (512 - 0) 0).map (Value.int .i64))) := by show World.ownsRow _ _ _ _ _ _ _; simpa using hown
  have HGG := Lib.hid hgg
  have HB2 := Lib.hid hb2
  clear hown hg hb2 hsz2 hgg hg1
  go_loopw [6] (fun ix wr => ∃ i : Nat, i ≤ 512 ∧ ix = .int .i64 i ∧ wr.ownsRow g 3 1 (.slice (some ⟨g, 0, none⟩) 512 512) 512 ((L.take i ++ List.replicate (512 - i) 0).map (Value.int .i64)) ∧ Below g Wb wr) (fun ix _ => 512 - (intOf ix).toNat)
  case atStart => exact ⟨0, by omega, rfl, HO2.out, HB2.out⟩
  case round =>
    obtain ⟨i, hi, rfl, ho, hbr⟩ := hrel
    have HO := Lib.hid ho
    have HBR := Lib.hid hbr
    have HY1 : Hid (BB wr g1 b) := HZ1.out.up hbr (by have := HGG.out; omega)
    have HY2 : Hid (BB wr (g1 + 1) s) := HZ2.out.up hbr (by have := HGG.out; omega)
    clear ho hbr
    by_cases hin : i < 512
    · have h8 := (andNot16 ⟨i, hin⟩).2.2.2
      simp only at h8
      obtain ⟨k, hk⟩ : ∃ k, aboutN i = k := ⟨_, rfl⟩
      have hget : L.getD i 0 = ((tabF b s i : Nat) : Int) := by rw [← HL.out]; exact tabOf_get hin
      have i0 : (0 : Int) ≤ (i : Int) := by omega
      have i1 : (i : Int) < 512 := by omega
      rw [hk] at h8
      have k0 : (0 : Int) ≤ (k : Int) := by omega
      have k1 : (k : Int) < 9 := by omega
      have z1 := HY1.out k (by omega)
      have z2 := HY2.out k (by omega)
      have hm2 : i / 16 % 2 < 2 := by omega
      have hu : tabF b s i = if bB (if i / 16 % 2 = 1 then s else b) k = true then 1 else 0 := by
        unfold tabF bB
        rw [hk]
        generalize (if i / 16 % 2 = 1 then s else b) / 2 ^ k = q
        by_cases hq : q % 2 = 1
        · rw [decide_eq_true hq, if_pos rfl, hq]
        · rw [decide_eq_false hq, if_neg (by decide)]; omega
      rw [hu] at hget
      clear hu
      have HK := Lib.hid hk
      have hc0 : wr.cell? ⟨g, i, none⟩ = some (.int .i64 0) := by
        rw [HO.out.cellAt i (by omega), List.getElem?_map, app_at HLL.out hin]
        rfl
      have f0 := HO.out.frozenAt i
      clear hk
      by_cases hm : i / 16 % 2 = 1
      · rw [if_pos hm] at hget
        have HM : Hid (i / 16 % 2 = 1) := hm
        cases hq : bB s k with
        | true =>
          rw [hq] at z2
          rw [hq, if_pos rfl] at hget
          have hset := take_set HLL.out hin hget
          have ho6 := own_set HO.out i (.int .i64 ((1 : Nat) : Int))
          rw [map_set_j, hset] at ho6
          have HO6 := Lib.hid ho6
          have HB6 := Lib.hid (HBR.out.setCell (p := ⟨g, i, none⟩) (Nat.le_refl _) (.int .i64 1))
          clear hget hset ho6 hq hm hm2
          go_wp2_with fail
          refine (parts_any i k 1 hin HK.out HM.out wr).mono ?_; rintro e w3 ⟨rfl, rfl⟩
          go_wp2
          go_roundw
          case rel => exact ⟨i + 1, by omega, by go_num, HO6.out, HB6.out⟩
          case measure => simp [intOf]; omega
        | false =>
          rw [hq] at z2
          rw [hq, if_neg (by decide)] at hget
          have ho6 := HO.out
          rw [take_zero HLL.out hin hget] at ho6
          have HO6 := Lib.hid ho6
          clear hget ho6 hq hm hm2 hc0 f0
          go_wp2_with fail
          refine (parts_any i k 1 hin HK.out HM.out wr).mono ?_; rintro e w3 ⟨rfl, rfl⟩
          go_wp2
          go_roundw
          case rel => exact ⟨i + 1, by omega, by go_num, HO6.out, HBR.out⟩
          case measure => simp [intOf]; omega
      · have hm0 : i / 16 % 2 = 0 := by omega
        rw [if_neg hm] at hget
        have HM : Hid (i / 16 % 2 = 0) := hm0
        cases hq : bB b k with
        | true =>
          rw [hq] at z1
          rw [hq, if_pos rfl] at hget
          have hset := take_set HLL.out hin hget
          have ho6 := own_set HO.out i (.int .i64 ((1 : Nat) : Int))
          rw [map_set_j, hset] at ho6
          have HO6 := Lib.hid ho6
          have HB6 := Lib.hid (HBR.out.setCell (p := ⟨g, i, none⟩) (Nat.le_refl _) (.int .i64 1))
          clear hget hset ho6 hq hm hm0 hm2
          go_wp2_with fail
          refine (parts_any i k 0 hin HK.out HM.out wr).mono ?_; rintro e w3 ⟨rfl, rfl⟩
          go_wp2
          go_roundw
          case rel => exact ⟨i + 1, by omega, by go_num, HO6.out, HB6.out⟩
          case measure => simp [intOf]; omega
        | false =>
          rw [hq] at z1
          rw [hq, if_neg (by decide)] at hget
          have ho6 := HO.out
          rw [take_zero HLL.out hin hget] at ho6
          have HO6 := Lib.hid ho6
          clear hget ho6 hq hm hm0 hm2 hc0 f0
          go_wp2_with fail
          refine (parts_any i k 0 hin HK.out HM.out wr).mono ?_; rintro e w3 ⟨rfl, rfl⟩
          go_wp2
          go_roundw
          case rel => exact ⟨i + 1, by omega, by go_num, HO6.out, HBR.out⟩
          case measure => simp [intOf]; omega
    · obtain rfl : i = 512 := by omega
      have ho := HO.out
      rw [Nat.sub_self, List.replicate_zero, List.append_nil, List.take_of_length_le (by have := HLL.out; omega)] at ho
      have HO3 := Lib.hid ho
      clear ho HO
      go_wp2
      go_ret
      exact ⟨g, 512, rfl, OwI.base ⟨HO3.out⟩ (by have := HGG.out; have := HG1.out; omega), (HBB.out.trans (HBR.out.mono (by have := HGG.out; omega))).mono (by have := HG1.out; omega)⟩
end Go.Proofs.YtocfkmdoalhjmaaDoor
namespace Go.Proofs.YtocfkmdoalhjmaaDoor
open Go.RowKit
set_option linter.unusedVariables false
set_option maxRecDepth 100000

theorem bit_grow2 {s d n : Nat} (hs : s < 2 ^ d) : bB (s + 2 ^ d) n = if n = d then true else bB s n := by
  unfold bB
  by_cases h : n = d
  · subst h
    rw [if_pos rfl, Nat.add_div_right _ (Nat.two_pow_pos n), Nat.div_eq_of_lt hs]
    rfl
  · rw [if_neg h]
    rcases Nat.lt_or_ge n d with h1 | h1
    · have e2 : 2 ^ d = 2 ^ n * (2 * 2 ^ (d - n - 1)) := by
        rw [← Nat.mul_assoc, ← Nat.pow_succ, ← Nat.pow_add]; congr 1; omega
      rw [e2, Nat.add_mul_div_left _ _ (Nat.two_pow_pos n)]
      have : (s / 2 ^ n + 2 * 2 ^ (d - n - 1)) % 2 = s / 2 ^ n % 2 := by omega
      rw [this]
    · have h2 : d + 1 ≤ n := by omega
      have e1 : 2 ^ (d + 1) ≤ 2 ^ n := Nat.pow_le_pow_right (by omega) h2
      have e3 : 2 ^ (d + 1) = 2 ^ d * 2 := Nat.pow_succ ..
      rw [Nat.div_eq_of_lt (show s + 2 ^ d < 2 ^ n by omega), Nat.div_eq_of_lt (show s < 2 ^ n by omega)]
def isDg (last : Int) (c : UInt8) : Prop := 48 ≤ c.toNat ∧ c.toNat ≤ 56 ∧ last < (c.toNat : Int) - 48
instance (last : Int) (c : UInt8) : Decidable (isDg last c) := by unfold isDg; exact inferInstance
theorem tk1_dig {last : Int} {s0 s1 d : Nat} {c : UInt8} (h : isDg last c) (hd : c.toNat = 48 + d) : takeF 1 last s0 s1 c = some (1, (d : Int), s0 + 2 ^ d, s1) := by
  obtain ⟨h1, h2, h3⟩ := h
  have hc : c ≠ 47 := fun e => by subst e; exact absurd h1 (by decide)
  unfold takeF
  rw [if_neg (by omega), if_neg (by omega), if_neg (fun h => hc h.2), if_neg (by omega), if_pos rfl, hd]
  simp only [Nat.add_sub_cancel_left]
  rw [show ((48 + d : Nat) : Int) - 48 = (d : Int) by omega]
theorem tk3_dig {last : Int} {s0 s1 d : Nat} {c : UInt8} (h : isDg last c) (hd : c.toNat = 48 + d) : takeF 3 last s0 s1 c = some (3, (d : Int), s0, s1 + 2 ^ d) := by
  obtain ⟨h1, h2, h3⟩ := h
  unfold takeF
  rw [if_neg (by omega), if_neg (by omega), if_neg (fun h => absurd h.1 (by omega)), if_neg (by omega), if_neg (by omega), hd]
  simp only [Nat.add_sub_cancel_left]
  rw [show ((48 + d : Nat) : Int) - 48 = (d : Int) by omega]
theorem tk1_no {last : Int} {s0 s1 : Nat} {c : UInt8} (hl : -1 ≤ last) (h : ¬ isDg last c) (hc : c ≠ 47) : takeF 1 last s0 s1 c = none := by
  unfold isDg at h
  unfold takeF
  rw [if_neg (by omega), if_neg (by omega), if_neg (fun h => hc h.2), if_pos (by omega)]
theorem tk3_no {last : Int} {s0 s1 : Nat} {c : UInt8} (hl : -1 ≤ last) (h : ¬ isDg last c) : takeF 3 last s0 s1 c = none := by
  unfold isDg at h
  unfold takeF
  rw [if_neg (by omega), if_neg (by omega), if_neg (fun h => absurd h.1 (by omega)), if_pos (by omega)]
/-- the two arrays in one block -/
abbrev LBo (s0 s1 : Nat) : Obj := .cells #[.bool (bB s0 0), .bool (bB s0 1), .bool (bB s0 2), .bool (bB s0 3), .bool (bB s0 4), .bool (bB s0 5), .bool (bB s0 6), .bool (bB s0 7), .bool (bB s0 8), .bool (bB s1 0), .bool (bB s1 1), .bool (bB s1 2), .bool (bB s1 3), .bool (bB s1 4), .bool (bB s1 5), .bool (bB s1 6), .bool (bB s1 7), .bool (bB s1 8)] 124
abbrev LB (w : World) (g s0 s1 : Nat) : Prop := w.heap[g]? = some (LBo s0 s1)
theorem LB.set0 {w : World} {g s0 s1 d : Nat} (h : LB w g s0 s1) (hd : d < 9) (hs : s0 < 2 ^ d) : LB (w.setCell ⟨g, d, none⟩ (.bool true)) g (s0 + 2 ^ d) s1 := by
  have h2 : w.heap[g]? = _ := h
  show (w.setCell ⟨g, d, none⟩ (.bool true)).heap[g]? = _
  unfold LBo
  simp only [bit_grow2 hs]
  have hj : d = 0 ∨ d = 1 ∨ d = 2 ∨ d = 3 ∨ d = 4 ∨ d = 5 ∨ d = 6 ∨ d = 7 ∨ d = 8 := by omega
  rcases hj with rfl | rfl | rfl | rfl | rfl | rfl | rfl | rfl | rfl <;> simp [World.setCell, Array.getElem?_modify, h2]
theorem LB.set1 {w : World} {g s0 s1 d : Nat} (h : LB w g s0 s1) (hd : d < 9) (hs : s1 < 2 ^ d) : LB (w.setCell ⟨g, 9 + d, none⟩ (.bool true)) g s0 (s1 + 2 ^ d) := by
  have h2 : w.heap[g]? = _ := h
  show (w.setCell ⟨g, 9 + d, none⟩ (.bool true)).heap[g]? = _
  unfold LBo
  simp only [bit_grow2 hs]
  have hj : d = 0 ∨ d = 1 ∨ d = 2 ∨ d = 3 ∨ d = 4 ∨ d = 5 ∨ d = 6 ∨ d = 7 ∨ d = 8 := by omega
  rcases hj with rfl | rfl | rfl | rfl | rfl | rfl | rfl | rfl | rfl <;> simp [World.setCell, Array.getElem?_modify, h2]
theorem LB.at0 {w : World} {g s0 s1 d : Nat} (h : LB w g s0 s1) (hd : d < 9) : w.cell? ⟨g, d, none⟩ = some (.bool (bB s0 d)) ∧ w.frozen? ⟨g, d, none⟩ = false := by
  have h2 : w.heap[g]? = _ := h
  have hj : d = 0 ∨ d = 1 ∨ d = 2 ∨ d = 3 ∨ d = 4 ∨ d = 5 ∨ d = 6 ∨ d = 7 ∨ d = 8 := by omega
  rcases hj with rfl | rfl | rfl | rfl | rfl | rfl | rfl | rfl | rfl <;> simp [World.cell?, World.frozen?, h2]
theorem LB.at1 {w : World} {g s0 s1 d : Nat} (h : LB w g s0 s1) (hd : d < 9) : w.cell? ⟨g, 9 + d, none⟩ = some (.bool (bB s1 d)) ∧ w.frozen? ⟨g, 9 + d, none⟩ = false := by
  have h2 : w.heap[g]? = _ := h
  have hj : d = 0 ∨ d = 1 ∨ d = 2 ∨ d = 3 ∨ d = 4 ∨ d = 5 ∨ d = 6 ∨ d = 7 ∨ d = 8 := by omega
  rcases hj with rfl | rfl | rfl | rfl | rfl | rfl | rfl | rfl | rfl <;> simp [World.cell?, World.frozen?, h2]
/-- what the outer loop holds: k rounds done -/
structure OSt (RR : Except Nat (Nat × Nat)) (l : List UInt8) (k at_ : Nat) (last : Int) (s0 s1 : Nat) : Prop where
  k2 : k ≤ 2
  le : at_ ≤ l.length
  z : k = 0 → LfS RR l at_ 0 0 0 0 ∧ s0 = 0 ∧ s1 = 0
  o : k = 1 → LfS RR l at_ 1 last s0 0 ∧ s1 = 0 ∧ ∀ h : at_ < l.length, ¬ isDg last l[at_]
  t : k = 2 → LfS RR l at_ 3 last s0 s1 ∧ ∀ h : at_ < l.length, ¬ isDg last l[at_]
theorem lf_end {RR : Except Nat (Nat × Nat)} {l : List UInt8} {A st s0 s1 : Nat} {last : Int} (h : LfS RR l A st last s0 s1) (ha : A = l.length) (hs : st ≠ 3) : RR = .error A := by
  subst ha
  have := h.fin
  rwa [if_neg hs] at this
theorem lf_go0 {RR : Except Nat (Nat × Nat)} {l : List UInt8} {A : Nat} {c : UInt8} (h : LfS RR l A 0 0 0 0) (ha : A < l.length) (hc : l[A] = c) : (c = 66 → LfS RR l (A + 1) 1 (-1) 0 0) ∧ (c ≠ 66 → RR = .error A) :=
  ⟨fun e => h.next ha hc (r := (1, -1, 0, 0)) (by unfold takeF; rw [if_pos rfl, if_pos e]), fun e => h.bad ha hc (by unfold takeF; rw [if_pos rfl, if_neg e])⟩
theorem lf_go1 {RR : Except Nat (Nat × Nat)} {l : List UInt8} {A s0 s1 : Nat} {last : Int} {c : UInt8} (h : LfS RR l A 1 last s0 s1) (ha : A < l.length) (hc : l[A] = c) (hn : ¬ isDg last c) : (c = 47 → LfS RR l (A + 1) 2 last s0 s1) ∧ (c ≠ 47 → RR = .error A) :=
  ⟨fun e => h.next ha hc (r := (2, last, s0, s1)) (by unfold takeF; rw [if_neg (by omega), if_neg (by omega), if_pos ⟨rfl, e⟩]), fun e => h.bad ha hc (tk1_no h.rd.lo hn e)⟩
theorem lf_go2 {RR : Except Nat (Nat × Nat)} {l : List UInt8} {A s0 s1 : Nat} {last : Int} {c : UInt8} (h : LfS RR l A 2 last s0 s1) (ha : A < l.length) (hc : l[A] = c) : (c = 83 → LfS RR l (A + 1) 3 (-1) s0 s1) ∧ (c ≠ 83 → RR = .error A) :=
  ⟨fun e => h.next ha hc (r := (3, -1, s0, s1)) (by unfold takeF; rw [if_neg (by omega), if_pos rfl, if_pos e]), fun e => h.bad ha hc (by unfold takeF; rw [if_neg (by omega), if_pos rfl, if_neg e])⟩
theorem lf_bad {s : ByteArray} {i : Nat} {RR : Except Nat (Nat × Nat)} (hb : ¬ 32 < s.size) (h : lifeR s = RR) (hr : RR = .error i) : lifeO s = [] ∧ lifeD s = some ([(opPlane, (i : Int))], 6) := by
  obtain ⟨h1, h2⟩ := lifeD_er hb (h.trans hr)
  exact ⟨h2, h1⟩
theorem u8_ne {c : UInt8} {n : Nat} (hn : n < 256) (h : c.toNat ≠ n) : c ≠ UInt8.ofNat n := fun e => h (by rw [e]; simp; omega)
set_option maxHeartbeats 16000000 in
theorem reflife_any (s : ByteArray) (W : World) :
    Calls Tryd.prog 36 #[.string s] W (IntsRef W (lifeO s) (lifeD s)) := by
  have T0 := Tk.nil W
  have T1 := T0.add (fun wv => Below W.heap.size W wv) (bnil W)
  clear T0
  obtain ⟨Wb, hWb⟩ : ∃ Wb, W.alloc (.cells #[.int .i64 0, .slice none 0 0, .slice none 0 0] 48) = Wb := ⟨_, rfl⟩
  have hbWb : Below W.heap.size W Wb := by rw [← hWb]; exact balloc (bnil W) _
  have T2 := T1.up hbWb
  clear T1
  have HWb := Lib.hid hWb
  clear hWb hbWb
  have hz2 : Wb.heap[W.heap.size]? = some (.cells #[.int .i64 0, .slice none 0 0, .slice none 0 0] 48) := by
    rw [← HWb.out]
    exact heap_alloc_new W _
  have hsz1 : W.heap.size + 1 = Wb.heap.size := by rw [← HWb.out]; simp
  have T3 := T2.add (fun wv => wv.heap[W.heap.size]? = some (.cells #[.int .i64 0, .slice none 0 0, .slice none 0 0] 48)) (hz2)
  clear T2
  obtain ⟨g, hg⟩ : ∃ g, Wb.heap.size = g := ⟨_, rfl⟩
  rw [hg] at hsz1
  have HSZ := Lib.hid hsz1
  have HG := Lib.hid hg
  clear hz2 hsz1 hg
  by_cases hbig : 32 < s.size
  · skip
    have hd : lifeD s = some ([(opPlane, 0)], 4) := by unfold lifeD; rw [if_pos hbig]
    have ho : lifeO s = [] := by unfold lifeO; rw [if_neg (by rw [hd]; exact nofun)]
    have hOD := And.intro ho hd
    have hbI : (32 : Int) < (s.size : Int) := by omega
    clear hd ho
    go_enter Tryd.func36, Tryd.ntmps36
    have HOD := Lib.hid (hOD)
    have sb0 : W.heap.size < Wb.heap.size := heap_ltT (T3.out.2)
    go_wp2_with fail
    rw [HWb.out]
    refine (rawNew_fresh _ _ _ _ rfl).mono ?_; rintro e w8 ⟨b1, b2, rfl, lb1, lb2, hw8, hbw8⟩
    have T4 := T3.up hbw8
    clear T3
    obtain ⟨⟨q3, q4, q5⟩, f3, f4, f5⟩ := p_cells (T4.out.2)
    obtain ⟨w9, e9, ⟨r0, r1, r2⟩, hk9, hs9, hw9, hb9⟩ := er_set (Nat.le_refl W.heap.size) (T4.out.2) (T4.out.1.2) (fr_some (by omega)) (fr_some (by omega)) (wc_want hw8)
    have HRET := Lib.hid (And.intro hw9 hb9)
    clear hk9 hs9 hw9 hb9 hw8 lb1 lb2 sb0
    have HE9 := Lib.hid e9
    have HR9 := Lib.hid (And.intro r0 (And.intro r1 r2))
    clear e9 r0 r1 r2
    go_wp2
    rw [HE9.out]
    have r0 := HR9.out.1
    have r1 := HR9.out.2.1
    have r2 := HR9.out.2.2
    refine bodyPost_ret (v := .tuple #[.slice none 0 0, .agg #[.int .i64 4, .slice (some ⟨b1, 0, none⟩) 1 1, .slice (some ⟨b2, 0, none⟩) 1 1]]) (by simp [results, Tryd.results36, go_sem, r0, r1, r2]) rfl ?_
    rw [HOD.out.1, HOD.out.2]
    exact ⟨none, 0, 0, 4, _, 1, 1, _, 1, 1, rfl, RK.nil, HRET.out.1, rfl, HRET.out.2⟩
  have HBG := Lib.hid hbig
  obtain ⟨RR, hRR⟩ : ∃ RR, lifeR s = RR := ⟨_, rfl⟩
  have HRR := Lib.hid hRR
  have hst : LfS RR s.data.toList 0 0 0 0 0 := ⟨by rw [← hRR]; rfl, RdSt.start0⟩
  have HST := Lib.hid hst
  have hsm : s.size ≤ 32 := by omega
  have hll : s.data.toList.length = s.size := by simp
  have HLL := Lib.hid hll
  clear hbig hRR hst hll
  go_enter Tryd.func36, Tryd.ntmps36
  go_wp2_with fail
  rw [HWb.out, HSZ.out]
  obtain ⟨w1, hw1⟩ : ∃ w1, Wb.alloc (LBo 0 0) = w1 := ⟨_, rfl⟩
  have HL1 : Hid (LB w1 g 0 0) := by show LB _ _ _ _; rw [← hw1, ← HG.out]; exact heap_alloc_new Wb _
  have HB1 : Hid (Below g Wb w1) := by rw [← hw1, ← HG.out]; exact balloc (bnil Wb) _
  have e00 : LBo 0 0 = .cells #[.bool false, .bool false, .bool false, .bool false, .bool false, .bool false, .bool false, .bool false, .bool false, .bool false, .bool false, .bool false, .bool false, .bool false, .bool false, .bool false, .bool false, .bool false] 124 := rfl
  rw [e00] at hw1
  rw [hw1]
  clear hw1 e00
  go_loopw [5, 7] (fun ax kx wr => ∃ (kk at_ : Nat) (last : Int) (s0 s1 : Nat), kx = .int .i64 (kk : Nat) ∧ ax = .int .i64 (at_ : Nat) ∧ OSt RR s.data.toList kk at_ last s0 s1 ∧ LB wr g s0 s1 ∧ Below g Wb wr) (fun _ kx _ => 2 - (intOf kx).toNat)
  case atStart => exact ⟨0, 0, 0, 0, 0, rfl, rfl, ⟨by omega, by omega, fun _ => ⟨HST.out, rfl, rfl⟩, (fun h => by cases h), (fun h => by cases h)⟩, HL1.out, HB1.out⟩
  case round =>
    obtain ⟨kk, at_, last, s0, s1, rfl, rfl, hO, hL, hb⟩ := hrel
    have HO := Lib.hid hO
    have HL := Lib.hid hL
    have HB := Lib.hid hb
    have hk2 := hO.k2
    have hle := hO.le
    rw [HLL.out] at hle
    clear hO hL hb HL1 HB1
    generalize wr = wo at *
    by_cases hk0 : kk = 0
    · skip
      subst hk0
      rw [show ((0 : Nat) : Int) = 0 from rfl]
      obtain ⟨hlf, rfl, rfl⟩ := HO.out.z rfl
      have HLF := Lib.hid hlf
      clear hlf HO
      go_wp2_with fail
      have hx0 : (⟨#[66, 47, 83]⟩ : ByteArray).extract 0 1 = ⟨#[66]⟩ := by decide +kernel
      rw [hx0]
      clear hx0
      go_loopw [5, 9] (fun ax ix wr => ∃ i A : Nat, i ≤ 1 ∧ A ≤ s.size ∧ ix = .int .i64 (i : Nat) ∧ ax = .int .i64 (A : Nat) ∧ (i = 0 → LfS RR s.data.toList A 0 0 0 0) ∧ (i = 1 → LfS RR s.data.toList A 1 (-1) 0 0) ∧ LB wr g 0 0 ∧ Below g Wb wr) (fun _ ix _ => 1 - (intOf ix).toNat)
      case atStart => exact ⟨0, at_, by omega, hle, rfl, rfl, fun _ => HLF.out, (fun h => by cases h), HL.out, HB.out⟩
      case round =>
        obtain ⟨i, A, hi, hA, rfl, rfl, h0, h1, hL, hb⟩ := hrel
        have H01 := Lib.hid (And.intro h0 h1)
        have HL3 := Lib.hid hL
        have HB3 := Lib.hid hb
        clear h0 h1 hL hb HL HB HLF
        by_cases hi0 : i = 0
        · skip
          subst hi0
          have HLF3 := Lib.hid (H01.out.1 rfl)
          clear H01
          by_cases hA2 : A < s.size
          · skip
            obtain ⟨c, hc⟩ : ∃ c, s[A] = c := ⟨_, rfl⟩
            have hcl : s.data.toList[A]'(by rw [HLL.out]; exact hA2) = c := hc
            have hgo := lf_go0 HLF3.out (by rw [HLL.out]; exact hA2) hcl
            have a0 : (0 : Int) ≤ (A : Int) := by omega
            have a1 : (A : Int) < (s.size : Int) := by omega
            have a2 : ¬ (s.size : Int) ≤ (A : Int) := by omega
            have a3 : decide ((s.size : Int) ≤ (A : Int)) = false := decide_eq_false a2
            have a4 : ¬ s.size ≤ A := by omega
            have a5 : decide (s.size ≤ A) = false := decide_eq_false a4
            have w0 : ∀ h, ((⟨#[66]⟩ : ByteArray)[0]'h).toNat = 66 := fun _ => rfl
            have HGO := Lib.hid hgo
            clear hgo hcl
            by_cases hce : c.toNat = 66
            · skip
              have hcc : c = UInt8.ofNat 66 := UInt8.toNat_inj.1 (by rw [hce]; rfl)
              have HGN := Lib.hid (HGO.out.1 hcc)
              have hC : s[A].toNat = 66 := by rw [hc]; exact hce
              have hC2 : ((s[A].toNat : Nat) : Int) = 66 := by rw [hC]; rfl
              clear HGO hcc hce hc
              go_wp2_with fail
              go_quiet (fail)
              obtain ⟨wqq, hwq⟩ : ∃ x, wr.drewN nq = x := ⟨_, rfl⟩
              have hbq : Below wr.heap.size wr wqq := by rw [← hwq]; exact bdrewN (bnil wr) nq
              rw [hwq]
              have HLq : Hid (LB wqq g 0 0) := (hbq.block g (heap_ltT HL3.out)).trans HL3.out
              have HBq : Hid (Below g Wb wqq) := HB3.out.trans (hbq.mono (Nat.le_of_lt (heap_ltT HL3.out)))
              clear hwq hbq
              go_wp2
              go_roundw
              case rel => exact ⟨1, A + 1, by omega, by omega, by go_num, by go_num, (fun h => by cases h), fun _ => HGN.out, HLq.out, HBq.out⟩
              case measure => simp [intOf]
            have HGN := Lib.hid (HGO.out.2 (u8_ne (n := 66) (by decide) hce))
            obtain ⟨C, hC⟩ : ∃ C : Nat, s[A].toNat = C := ⟨_, rfl⟩
            have hCn : C ≠ 66 := by rw [← hC, hc]; exact hce
            have hCi : ¬ (C : Int) = 66 := by omega
            have hCb : ((C : Int) != 66) = true := by rw [bne_iff_ne]; exact hCi
            clear HGO hce hc
            go_wp2_with fail
            go_quiet (fail)
            obtain ⟨wqq, hwq⟩ : ∃ x, wr.drewN nq = x := ⟨_, rfl⟩
            have hbq : Below wr.heap.size wr wqq := by rw [← hwq]; exact bdrewN (bnil wr) nq
            rw [hwq]
            have HLq : Hid (LB wqq g 0 0) := (hbq.block g (heap_ltT HL3.out)).trans HL3.out
            have HBq : Hid (Below g Wb wqq) := HB3.out.trans (hbq.mono (Nat.le_of_lt (heap_ltT HL3.out)))
            clear hwq hbq
            have hbT : Below Wb.heap.size Wb wqq := by rw [HG.out]; exact HBq.out
            have T4 := T3.up hbT
            clear T3
            clear hbT
            have HOD := Lib.hid (lf_bad HBG.out HRR.out HGN.out)
            have sb0 : W.heap.size < wqq.heap.size := heap_ltT (T4.out.2)
            go_wp2_with fail
            refine (rawNew_fresh _ _ _ _ rfl).mono ?_; rintro e w8 ⟨b1, b2, rfl, lb1, lb2, hw8, hbw8⟩
            have T5 := T4.up hbw8
            clear T4
            obtain ⟨⟨q3, q4, q5⟩, f3, f4, f5⟩ := p_cells (T5.out.2)
            obtain ⟨w9, e9, ⟨r0, r1, r2⟩, hk9, hs9, hw9, hb9⟩ := er_set (Nat.le_refl W.heap.size) (T5.out.2) (T5.out.1.2) (fr_some (by omega)) (fr_some (by omega)) (wc_want hw8)
            have HRET := Lib.hid (And.intro hw9 hb9)
            clear hk9 hs9 hw9 hb9 hw8 lb1 lb2 sb0
            have HE9 := Lib.hid e9
            have HR9 := Lib.hid (And.intro r0 (And.intro r1 r2))
            clear e9 r0 r1 r2
            go_wp2
            rw [HE9.out]
            have r0 := HR9.out.1
            have r1 := HR9.out.2.1
            have r2 := HR9.out.2.2
            refine bodyPost_ret (v := .tuple #[.slice none 0 0, .agg #[.int .i64 6, .slice (some ⟨b1, 0, none⟩) 1 1, .slice (some ⟨b2, 0, none⟩) 1 1]]) (by simp [results, Tryd.results36, go_sem, r0, r1, r2]) rfl ?_
            rw [HOD.out.1, HOD.out.2]
            exact ⟨none, 0, 0, 6, _, 1, 1, _, 1, 1, rfl, RK.nil, HRET.out.1, rfl, HRET.out.2⟩
          · skip
            obtain rfl : A = s.size := by omega
            have HGN := Lib.hid (lf_end HLF3.out HLL.out.symm (by decide))
            have a1 : (s.size : Int) ≤ (s.size : Int) := by omega
            have a3 : decide ((s.size : Int) ≤ (s.size : Int)) = true := decide_eq_true a1
            have a4 : s.size ≤ s.size := Nat.le_refl _
            have a5 : decide (s.size ≤ s.size) = true := decide_eq_true a4
            go_wp2_with fail
            go_quiet (fail)
            obtain ⟨wqq, hwq⟩ : ∃ x, wr.drewN nq = x := ⟨_, rfl⟩
            have hbq : Below wr.heap.size wr wqq := by rw [← hwq]; exact bdrewN (bnil wr) nq
            rw [hwq]
            have HLq : Hid (LB wqq g 0 0) := (hbq.block g (heap_ltT HL3.out)).trans HL3.out
            have HBq : Hid (Below g Wb wqq) := HB3.out.trans (hbq.mono (Nat.le_of_lt (heap_ltT HL3.out)))
            clear hwq hbq
            have hbT : Below Wb.heap.size Wb wqq := by rw [HG.out]; exact HBq.out
            have T4 := T3.up hbT
            clear T3
            clear hbT
            have HOD := Lib.hid (lf_bad HBG.out HRR.out HGN.out)
            have sb0 : W.heap.size < wqq.heap.size := heap_ltT (T4.out.2)
            go_wp2_with fail
            refine (rawNew_fresh _ _ _ _ rfl).mono ?_; rintro e w8 ⟨b1, b2, rfl, lb1, lb2, hw8, hbw8⟩
            have T5 := T4.up hbw8
            clear T4
            obtain ⟨⟨q3, q4, q5⟩, f3, f4, f5⟩ := p_cells (T5.out.2)
            obtain ⟨w9, e9, ⟨r0, r1, r2⟩, hk9, hs9, hw9, hb9⟩ := er_set (Nat.le_refl W.heap.size) (T5.out.2) (T5.out.1.2) (fr_some (by omega)) (fr_some (by omega)) (wc_want hw8)
            have HRET := Lib.hid (And.intro hw9 hb9)
            clear hk9 hs9 hw9 hb9 hw8 lb1 lb2 sb0
            have HE9 := Lib.hid e9
            have HR9 := Lib.hid (And.intro r0 (And.intro r1 r2))
            clear e9 r0 r1 r2
            go_wp2
            rw [HE9.out]
            have r0 := HR9.out.1
            have r1 := HR9.out.2.1
            have r2 := HR9.out.2.2
            refine bodyPost_ret (v := .tuple #[.slice none 0 0, .agg #[.int .i64 6, .slice (some ⟨b1, 0, none⟩) 1 1, .slice (some ⟨b2, 0, none⟩) 1 1]]) (by simp [results, Tryd.results36, go_sem, r0, r1, r2]) rfl ?_
            rw [HOD.out.1, HOD.out.2]
            exact ⟨none, 0, 0, 6, _, 1, 1, _, 1, 1, rfl, RK.nil, HRET.out.1, rfl, HRET.out.2⟩
        obtain rfl : i = 1 := by omega
        have HLF3 := Lib.hid (H01.out.2 rfl)
        clear H01 hi0
        go_wp2_with fail
        go_loopw [5, 10] (fun ax lx wr => ∃ (A : Nat) (la : Int) (z : Nat), A ≤ s.size ∧ ax = .int .i64 (A : Nat) ∧ lx = .int .i64 la ∧ LfS RR s.data.toList A 1 la z 0 ∧ LB wr g z 0 ∧ Below g Wb wr) (fun ax _ _ => s.size - (intOf ax).toNat)
        case atStart => exact ⟨A, -1, 0, by omega, rfl, rfl, HLF3.out, HL3.out, HB3.out⟩
        case round =>
          obtain ⟨A, la, z, hA, rfl, rfl, hlf, hL, hb⟩ := hrel
          have hlo := hlf.rd.lo
          have hhi := hlf.rd.hi
          have HLF4 := Lib.hid hlf
          have HL4 := Lib.hid hL
          have HB4 := Lib.hid hb
          clear hlf hL hb
          have a0 : (0 : Int) ≤ (A : Int) := by omega
          have HST4 : Hid ((∃ (h : A < s.size), isDg la s[A]) ∨ ∀ h : A < s.data.toList.length, ¬ isDg la s.data.toList[A]) := by
            by_cases h : A < s.size
            · by_cases hd : isDg la s[A]
              · exact .inl ⟨h, hd⟩
              · exact .inr fun _ => hd
            · exact .inr fun h2 => absurd (by rw [← HLL.out]; exact h2) h
          by_cases hdg : ∃ (h : A < s.size), isDg la s[A]
          · skip
            obtain ⟨hA2, hd1, hd2, hd3⟩ := hdg
            obtain ⟨d, hd⟩ : ∃ d : Nat, s[A].toNat = 48 + d := ⟨s[A].toNat - 48, by omega⟩
            have hgo := HLF4.out.next (by rw [HLL.out]; exact hA2) rfl (tk1_dig (c := s[A]) ⟨hd1, hd2, hd3⟩ hd)
            have HGO : Hid (LfS RR s.data.toList (A + 1) 1 (d : Int) (z + 2 ^ d) 0) := hgo
            have hd8 : d ≤ 8 := by omega
            have hzd : z < 2 ^ d := Nat.lt_of_lt_of_le (HLF4.out.rd.g0 rfl) (Nat.pow_le_pow_right (by omega) (by omega))
            have HLn := Lib.hid (HL4.out.set0 (show d < 9 by omega) hzd)
            have hfz := (HL4.out.at0 (show d < 9 by omega)).2
            have hcl := (HL4.out.at0 (show d < 9 by omega)).1
            have HBn := Lib.hid (HB4.out.setCell (p := ⟨g, d, none⟩) (Nat.le_refl g) (.bool true))
            have a1 : (A : Int) < (s.size : Int) := by omega
            have hdI : (((48 + d : Nat) : Int)) = 48 + (d : Int) := by omega
            have b1 : (48 : Int) ≤ 48 + (d : Int) := by omega
            have b2 : 48 + (d : Int) ≤ 56 := by omega
            have b3 : 48 + (d : Int) - 48 = (d : Int) := by omega
            have b4 : la < (d : Int) := by omega
            have b5 : IntKind.i64.wrap (d : Int) = (d : Int) := IntWalk.i64_in _ (by omega)
            have b6 : (0 : Int) ≤ (d : Int) := by omega
            have b7 : (d : Int) < 9 := by omega
            have b8 : IntKind.i64.wrap (48 + (d : Int)) = 48 + (d : Int) := IntWalk.i64_in _ (by omega)
            clear hgo hd1 hd2 hd3 hzd HST4
            go_wp2
            go_roundw
            case rel => exact ⟨A + 1, d, z + 2 ^ d, by omega, by go_num, rfl, HGO.out, HLn.out, HBn.out⟩
            case measure => simp [intOf]; omega
          have HNO : Hid (∀ h : A < s.data.toList.length, ¬ isDg la s.data.toList[A]) := HST4.out.resolve_left hdg
          clear HST4
          by_cases hA2 : A < s.size
          · skip
            have a1 : (A : Int) < (s.size : Int) := by omega
            obtain ⟨C, hC⟩ : ∃ C : Nat, s[A].toNat = C := ⟨_, rfl⟩
            have hnd : ¬ (48 ≤ C ∧ C ≤ 56 ∧ la < (C : Int) - 48) := fun h => hdg ⟨hA2, by unfold isDg; rw [hC]; exact h⟩
            have hC2 : C < 256 := by rw [← hC]; exact UInt8.toNat_lt _
            clear hdg
            by_cases q0 : C < 48
            · skip
              have b1 : ¬ (48 : Int) ≤ (C : Int) := by omega
              clear hnd q0
              go_wp2
              go_roundw
              case rel => exact ⟨1, A, la, z, 0, by go_num, rfl, ⟨by omega, by rw [HLL.out]; exact hA, (fun h => by cases h), fun _ => ⟨HLF4.out, rfl, HNO.out⟩, (fun h => by cases h)⟩, HL4.out, HB4.out⟩
              case measure => simp [intOf]
            by_cases q1 : 56 < C
            · skip
              have b1 : (48 : Int) ≤ (C : Int) := by omega
              have b2 : ¬ (C : Int) ≤ 56 := by omega
              clear hnd q0 q1
              go_wp2
              go_roundw
              case rel => exact ⟨1, A, la, z, 0, by go_num, rfl, ⟨by omega, by rw [HLL.out]; exact hA, (fun h => by cases h), fun _ => ⟨HLF4.out, rfl, HNO.out⟩, (fun h => by cases h)⟩, HL4.out, HB4.out⟩
              case measure => simp [intOf]
            have b1 : (48 : Int) ≤ (C : Int) := by omega
            have b2 : (C : Int) ≤ 56 := by omega
            have b3 : ¬ la < (C : Int) - 48 := by omega
            have b4 : IntKind.i64.wrap ((C : Int) - 48) = (C : Int) - 48 := IntWalk.i64_in _ (by omega)
            clear hnd q0 q1
            go_wp2
            go_roundw
            case rel => exact ⟨1, A, la, z, 0, by go_num, rfl, ⟨by omega, by rw [HLL.out]; exact hA, (fun h => by cases h), fun _ => ⟨HLF4.out, rfl, HNO.out⟩, (fun h => by cases h)⟩, HL4.out, HB4.out⟩
            case measure => simp [intOf]
          · skip
            have a1 : ¬ (A : Int) < (s.size : Int) := by omega
            clear hdg
            go_wp2
            go_roundw
            case rel => exact ⟨1, A, la, z, 0, by go_num, rfl, ⟨by omega, by rw [HLL.out]; exact hA, (fun h => by cases h), fun _ => ⟨HLF4.out, rfl, HNO.out⟩, (fun h => by cases h)⟩, HL4.out, HB4.out⟩
            case measure => simp [intOf]
    by_cases hk1 : kk = 1
    · skip
      subst hk1
      rw [show ((1 : Nat) : Int) = 1 from rfl]
      obtain ⟨hlf, rfl, hno⟩ := HO.out.o rfl
      have HLF := Lib.hid (And.intro hlf hno)
      clear hlf hno HO hk0
      go_wp2_with fail
      have hx0 : (⟨#[66, 47, 83]⟩ : ByteArray).extract 1 3 = ⟨#[47, 83]⟩ := by decide +kernel
      rw [hx0]
      clear hx0
      go_loopw [5, 9] (fun ax ix wr => ∃ i A : Nat, i ≤ 2 ∧ A ≤ s.size ∧ ix = .int .i64 (i : Nat) ∧ ax = .int .i64 (A : Nat) ∧ (i = 0 → LfS RR s.data.toList A 1 last s0 0 ∧ ∀ h : A < s.data.toList.length, ¬ isDg last s.data.toList[A]) ∧ (i = 1 → LfS RR s.data.toList A 2 last s0 0) ∧ (i = 2 → LfS RR s.data.toList A 3 (-1) s0 0) ∧ LB wr g s0 0 ∧ Below g Wb wr) (fun _ ix _ => 2 - (intOf ix).toNat)
      case atStart => exact ⟨0, at_, by omega, hle, rfl, rfl, fun _ => HLF.out, (fun h => by cases h), (fun h => by cases h), HL.out, HB.out⟩
      case round =>
        obtain ⟨i, A, hi, hA, rfl, rfl, h0, h1, h2, hL, hb⟩ := hrel
        have H01 := Lib.hid (And.intro h0 (And.intro h1 h2))
        have HL3 := Lib.hid hL
        have HB3 := Lib.hid hb
        clear h0 h1 h2 hL hb HL HB HLF
        by_cases hi0 : i = 0
        · skip
          subst hi0
          have HLF3 := Lib.hid (H01.out.1 rfl).1
          have HNO3 := Lib.hid (H01.out.1 rfl).2
          clear H01
          by_cases hA2 : A < s.size
          · skip
            obtain ⟨c, hc⟩ : ∃ c, s[A] = c := ⟨_, rfl⟩
            have hcl : s.data.toList[A]'(by rw [HLL.out]; exact hA2) = c := hc
            have hgo := lf_go1 HLF3.out (by rw [HLL.out]; exact hA2) hcl (by rw [← hcl]; exact HNO3.out _)
            have a0 : (0 : Int) ≤ (A : Int) := by omega
            have a1 : (A : Int) < (s.size : Int) := by omega
            have a2 : ¬ (s.size : Int) ≤ (A : Int) := by omega
            have a3 : decide ((s.size : Int) ≤ (A : Int)) = false := decide_eq_false a2
            have a4 : ¬ s.size ≤ A := by omega
            have a5 : decide (s.size ≤ A) = false := decide_eq_false a4
            have w0 : ∀ h, ((⟨#[47, 83]⟩ : ByteArray)[0]'h).toNat = 47 := fun _ => rfl
            have HGO := Lib.hid hgo
            clear hgo hcl
            by_cases hce : c.toNat = 47
            · skip
              have hcc : c = UInt8.ofNat 47 := UInt8.toNat_inj.1 (by rw [hce]; rfl)
              have HGN := Lib.hid (HGO.out.1 hcc)
              have hC : s[A].toNat = 47 := by rw [hc]; exact hce
              have hC2 : ((s[A].toNat : Nat) : Int) = 47 := by rw [hC]; rfl
              clear HGO hcc hce hc
              go_wp2_with fail
              go_quiet (fail)
              obtain ⟨wqq, hwq⟩ : ∃ x, wr.drewN nq = x := ⟨_, rfl⟩
              have hbq : Below wr.heap.size wr wqq := by rw [← hwq]; exact bdrewN (bnil wr) nq
              rw [hwq]
              have HLq : Hid (LB wqq g s0 0) := (hbq.block g (heap_ltT HL3.out)).trans HL3.out
              have HBq : Hid (Below g Wb wqq) := HB3.out.trans (hbq.mono (Nat.le_of_lt (heap_ltT HL3.out)))
              clear hwq hbq
              go_wp2
              go_roundw
              case rel => exact ⟨1, A + 1, by omega, by omega, by go_num, by go_num, (fun h => by cases h), fun _ => HGN.out, (fun h => by cases h), HLq.out, HBq.out⟩
              case measure => simp [intOf]
            have HGN := Lib.hid (HGO.out.2 (u8_ne (n := 47) (by decide) hce))
            obtain ⟨C, hC⟩ : ∃ C : Nat, s[A].toNat = C := ⟨_, rfl⟩
            have hCn : C ≠ 47 := by rw [← hC, hc]; exact hce
            have hCi : ¬ (C : Int) = 47 := by omega
            have hCb : ((C : Int) != 47) = true := by rw [bne_iff_ne]; exact hCi
            clear HGO hce hc
            go_wp2_with fail
            go_quiet (fail)
            obtain ⟨wqq, hwq⟩ : ∃ x, wr.drewN nq = x := ⟨_, rfl⟩
            have hbq : Below wr.heap.size wr wqq := by rw [← hwq]; exact bdrewN (bnil wr) nq
            rw [hwq]
            have HLq : Hid (LB wqq g s0 0) := (hbq.block g (heap_ltT HL3.out)).trans HL3.out
            have HBq : Hid (Below g Wb wqq) := HB3.out.trans (hbq.mono (Nat.le_of_lt (heap_ltT HL3.out)))
            clear hwq hbq
            have hbT : Below Wb.heap.size Wb wqq := by rw [HG.out]; exact HBq.out
            have T4 := T3.up hbT
            clear T3
            clear hbT
            have HOD := Lib.hid (lf_bad HBG.out HRR.out HGN.out)
            have sb0 : W.heap.size < wqq.heap.size := heap_ltT (T4.out.2)
            go_wp2_with fail
            refine (rawNew_fresh _ _ _ _ rfl).mono ?_; rintro e w8 ⟨b1, b2, rfl, lb1, lb2, hw8, hbw8⟩
            have T5 := T4.up hbw8
            clear T4
            obtain ⟨⟨q3, q4, q5⟩, f3, f4, f5⟩ := p_cells (T5.out.2)
            obtain ⟨w9, e9, ⟨r0, r1, r2⟩, hk9, hs9, hw9, hb9⟩ := er_set (Nat.le_refl W.heap.size) (T5.out.2) (T5.out.1.2) (fr_some (by omega)) (fr_some (by omega)) (wc_want hw8)
            have HRET := Lib.hid (And.intro hw9 hb9)
            clear hk9 hs9 hw9 hb9 hw8 lb1 lb2 sb0
            have HE9 := Lib.hid e9
            have HR9 := Lib.hid (And.intro r0 (And.intro r1 r2))
            clear e9 r0 r1 r2
            go_wp2
            rw [HE9.out]
            have r0 := HR9.out.1
            have r1 := HR9.out.2.1
            have r2 := HR9.out.2.2
            refine bodyPost_ret (v := .tuple #[.slice none 0 0, .agg #[.int .i64 6, .slice (some ⟨b1, 0, none⟩) 1 1, .slice (some ⟨b2, 0, none⟩) 1 1]]) (by simp [results, Tryd.results36, go_sem, r0, r1, r2]) rfl ?_
            rw [HOD.out.1, HOD.out.2]
            exact ⟨none, 0, 0, 6, _, 1, 1, _, 1, 1, rfl, RK.nil, HRET.out.1, rfl, HRET.out.2⟩
          · skip
            obtain rfl : A = s.size := by omega
            have HGN := Lib.hid (lf_end HLF3.out HLL.out.symm (by decide))
            have a1 : (s.size : Int) ≤ (s.size : Int) := by omega
            have a3 : decide ((s.size : Int) ≤ (s.size : Int)) = true := decide_eq_true a1
            have a4 : s.size ≤ s.size := Nat.le_refl _
            have a5 : decide (s.size ≤ s.size) = true := decide_eq_true a4
            go_wp2_with fail
            go_quiet (fail)
            obtain ⟨wqq, hwq⟩ : ∃ x, wr.drewN nq = x := ⟨_, rfl⟩
            have hbq : Below wr.heap.size wr wqq := by rw [← hwq]; exact bdrewN (bnil wr) nq
            rw [hwq]
            have HLq : Hid (LB wqq g s0 0) := (hbq.block g (heap_ltT HL3.out)).trans HL3.out
            have HBq : Hid (Below g Wb wqq) := HB3.out.trans (hbq.mono (Nat.le_of_lt (heap_ltT HL3.out)))
            clear hwq hbq
            have hbT : Below Wb.heap.size Wb wqq := by rw [HG.out]; exact HBq.out
            have T4 := T3.up hbT
            clear T3
            clear hbT
            have HOD := Lib.hid (lf_bad HBG.out HRR.out HGN.out)
            have sb0 : W.heap.size < wqq.heap.size := heap_ltT (T4.out.2)
            go_wp2_with fail
            refine (rawNew_fresh _ _ _ _ rfl).mono ?_; rintro e w8 ⟨b1, b2, rfl, lb1, lb2, hw8, hbw8⟩
            have T5 := T4.up hbw8
            clear T4
            obtain ⟨⟨q3, q4, q5⟩, f3, f4, f5⟩ := p_cells (T5.out.2)
            obtain ⟨w9, e9, ⟨r0, r1, r2⟩, hk9, hs9, hw9, hb9⟩ := er_set (Nat.le_refl W.heap.size) (T5.out.2) (T5.out.1.2) (fr_some (by omega)) (fr_some (by omega)) (wc_want hw8)
            have HRET := Lib.hid (And.intro hw9 hb9)
            clear hk9 hs9 hw9 hb9 hw8 lb1 lb2 sb0
            have HE9 := Lib.hid e9
            have HR9 := Lib.hid (And.intro r0 (And.intro r1 r2))
            clear e9 r0 r1 r2
            go_wp2
            rw [HE9.out]
            have r0 := HR9.out.1
            have r1 := HR9.out.2.1
            have r2 := HR9.out.2.2
            refine bodyPost_ret (v := .tuple #[.slice none 0 0, .agg #[.int .i64 6, .slice (some ⟨b1, 0, none⟩) 1 1, .slice (some ⟨b2, 0, none⟩) 1 1]]) (by simp [results, Tryd.results36, go_sem, r0, r1, r2]) rfl ?_
            rw [HOD.out.1, HOD.out.2]
            exact ⟨none, 0, 0, 6, _, 1, 1, _, 1, 1, rfl, RK.nil, HRET.out.1, rfl, HRET.out.2⟩
        by_cases hi1 : i = 1
        · skip
          subst hi1
          have HLF3 := Lib.hid (H01.out.2.1 rfl)
          clear H01 hi0
          by_cases hA2 : A < s.size
          · skip
            obtain ⟨c, hc⟩ : ∃ c, s[A] = c := ⟨_, rfl⟩
            have hcl : s.data.toList[A]'(by rw [HLL.out]; exact hA2) = c := hc
            have hgo := lf_go2 HLF3.out (by rw [HLL.out]; exact hA2) hcl
            have a0 : (0 : Int) ≤ (A : Int) := by omega
            have a1 : (A : Int) < (s.size : Int) := by omega
            have a2 : ¬ (s.size : Int) ≤ (A : Int) := by omega
            have a3 : decide ((s.size : Int) ≤ (A : Int)) = false := decide_eq_false a2
            have a4 : ¬ s.size ≤ A := by omega
            have a5 : decide (s.size ≤ A) = false := decide_eq_false a4
            have w0 : ∀ h, ((⟨#[47, 83]⟩ : ByteArray)[1]'h).toNat = 83 := fun _ => rfl
            have HGO := Lib.hid hgo
            clear hgo hcl
            by_cases hce : c.toNat = 83
            · skip
              have hcc : c = UInt8.ofNat 83 := UInt8.toNat_inj.1 (by rw [hce]; rfl)
              have HGN := Lib.hid (HGO.out.1 hcc)
              have hC : s[A].toNat = 83 := by rw [hc]; exact hce
              have hC2 : ((s[A].toNat : Nat) : Int) = 83 := by rw [hC]; rfl
              clear HGO hcc hce hc
              go_wp2_with fail
              go_quiet (fail)
              obtain ⟨wqq, hwq⟩ : ∃ x, wr.drewN nq = x := ⟨_, rfl⟩
              have hbq : Below wr.heap.size wr wqq := by rw [← hwq]; exact bdrewN (bnil wr) nq
              rw [hwq]
              have HLq : Hid (LB wqq g s0 0) := (hbq.block g (heap_ltT HL3.out)).trans HL3.out
              have HBq : Hid (Below g Wb wqq) := HB3.out.trans (hbq.mono (Nat.le_of_lt (heap_ltT HL3.out)))
              clear hwq hbq
              go_wp2
              go_roundw
              case rel => exact ⟨2, A + 1, by omega, by omega, by go_num, by go_num, (fun h => by cases h), (fun h => by cases h), fun _ => HGN.out, HLq.out, HBq.out⟩
              case measure => simp [intOf]
            have HGN := Lib.hid (HGO.out.2 (u8_ne (n := 83) (by decide) hce))
            obtain ⟨C, hC⟩ : ∃ C : Nat, s[A].toNat = C := ⟨_, rfl⟩
            have hCn : C ≠ 83 := by rw [← hC, hc]; exact hce
            have hCi : ¬ (C : Int) = 83 := by omega
            have hCb : ((C : Int) != 83) = true := by rw [bne_iff_ne]; exact hCi
            clear HGO hce hc
            go_wp2_with fail
            go_quiet (fail)
            obtain ⟨wqq, hwq⟩ : ∃ x, wr.drewN nq = x := ⟨_, rfl⟩
            have hbq : Below wr.heap.size wr wqq := by rw [← hwq]; exact bdrewN (bnil wr) nq
            rw [hwq]
            have HLq : Hid (LB wqq g s0 0) := (hbq.block g (heap_ltT HL3.out)).trans HL3.out
            have HBq : Hid (Below g Wb wqq) := HB3.out.trans (hbq.mono (Nat.le_of_lt (heap_ltT HL3.out)))
            clear hwq hbq
            have hbT : Below Wb.heap.size Wb wqq := by rw [HG.out]; exact HBq.out
            have T4 := T3.up hbT
            clear T3
            clear hbT
            have HOD := Lib.hid (lf_bad HBG.out HRR.out HGN.out)
            have sb0 : W.heap.size < wqq.heap.size := heap_ltT (T4.out.2)
            go_wp2_with fail
            refine (rawNew_fresh _ _ _ _ rfl).mono ?_; rintro e w8 ⟨b1, b2, rfl, lb1, lb2, hw8, hbw8⟩
            have T5 := T4.up hbw8
            clear T4
            obtain ⟨⟨q3, q4, q5⟩, f3, f4, f5⟩ := p_cells (T5.out.2)
            obtain ⟨w9, e9, ⟨r0, r1, r2⟩, hk9, hs9, hw9, hb9⟩ := er_set (Nat.le_refl W.heap.size) (T5.out.2) (T5.out.1.2) (fr_some (by omega)) (fr_some (by omega)) (wc_want hw8)
            have HRET := Lib.hid (And.intro hw9 hb9)
            clear hk9 hs9 hw9 hb9 hw8 lb1 lb2 sb0
            have HE9 := Lib.hid e9
            have HR9 := Lib.hid (And.intro r0 (And.intro r1 r2))
            clear e9 r0 r1 r2
            go_wp2
            rw [HE9.out]
            have r0 := HR9.out.1
            have r1 := HR9.out.2.1
            have r2 := HR9.out.2.2
            refine bodyPost_ret (v := .tuple #[.slice none 0 0, .agg #[.int .i64 6, .slice (some ⟨b1, 0, none⟩) 1 1, .slice (some ⟨b2, 0, none⟩) 1 1]]) (by simp [results, Tryd.results36, go_sem, r0, r1, r2]) rfl ?_
            rw [HOD.out.1, HOD.out.2]
            exact ⟨none, 0, 0, 6, _, 1, 1, _, 1, 1, rfl, RK.nil, HRET.out.1, rfl, HRET.out.2⟩
          · skip
            obtain rfl : A = s.size := by omega
            have HGN := Lib.hid (lf_end HLF3.out HLL.out.symm (by decide))
            have a1 : (s.size : Int) ≤ (s.size : Int) := by omega
            have a3 : decide ((s.size : Int) ≤ (s.size : Int)) = true := decide_eq_true a1
            have a4 : s.size ≤ s.size := Nat.le_refl _
            have a5 : decide (s.size ≤ s.size) = true := decide_eq_true a4
            go_wp2_with fail
            go_quiet (fail)
            obtain ⟨wqq, hwq⟩ : ∃ x, wr.drewN nq = x := ⟨_, rfl⟩
            have hbq : Below wr.heap.size wr wqq := by rw [← hwq]; exact bdrewN (bnil wr) nq
            rw [hwq]
            have HLq : Hid (LB wqq g s0 0) := (hbq.block g (heap_ltT HL3.out)).trans HL3.out
            have HBq : Hid (Below g Wb wqq) := HB3.out.trans (hbq.mono (Nat.le_of_lt (heap_ltT HL3.out)))
            clear hwq hbq
            have hbT : Below Wb.heap.size Wb wqq := by rw [HG.out]; exact HBq.out
            have T4 := T3.up hbT
            clear T3
            clear hbT
            have HOD := Lib.hid (lf_bad HBG.out HRR.out HGN.out)
            have sb0 : W.heap.size < wqq.heap.size := heap_ltT (T4.out.2)
            go_wp2_with fail
            refine (rawNew_fresh _ _ _ _ rfl).mono ?_; rintro e w8 ⟨b1, b2, rfl, lb1, lb2, hw8, hbw8⟩
            have T5 := T4.up hbw8
            clear T4
            obtain ⟨⟨q3, q4, q5⟩, f3, f4, f5⟩ := p_cells (T5.out.2)
            obtain ⟨w9, e9, ⟨r0, r1, r2⟩, hk9, hs9, hw9, hb9⟩ := er_set (Nat.le_refl W.heap.size) (T5.out.2) (T5.out.1.2) (fr_some (by omega)) (fr_some (by omega)) (wc_want hw8)
            have HRET := Lib.hid (And.intro hw9 hb9)
            clear hk9 hs9 hw9 hb9 hw8 lb1 lb2 sb0
            have HE9 := Lib.hid e9
            have HR9 := Lib.hid (And.intro r0 (And.intro r1 r2))
            clear e9 r0 r1 r2
            go_wp2
            rw [HE9.out]
            have r0 := HR9.out.1
            have r1 := HR9.out.2.1
            have r2 := HR9.out.2.2
            refine bodyPost_ret (v := .tuple #[.slice none 0 0, .agg #[.int .i64 6, .slice (some ⟨b1, 0, none⟩) 1 1, .slice (some ⟨b2, 0, none⟩) 1 1]]) (by simp [results, Tryd.results36, go_sem, r0, r1, r2]) rfl ?_
            rw [HOD.out.1, HOD.out.2]
            exact ⟨none, 0, 0, 6, _, 1, 1, _, 1, 1, rfl, RK.nil, HRET.out.1, rfl, HRET.out.2⟩
        obtain rfl : i = 2 := by omega
        have HLF3 := Lib.hid (H01.out.2.2 rfl)
        clear H01 hi0 hi1
        go_wp2_with fail
        go_loopw [5, 10] (fun ax lx wr => ∃ (A : Nat) (la : Int) (z : Nat), A ≤ s.size ∧ ax = .int .i64 (A : Nat) ∧ lx = .int .i64 la ∧ LfS RR s.data.toList A 3 la s0 z ∧ LB wr g s0 z ∧ Below g Wb wr) (fun ax _ _ => s.size - (intOf ax).toNat)
        case atStart => exact ⟨A, -1, 0, by omega, rfl, rfl, HLF3.out, HL3.out, HB3.out⟩
        case round =>
          obtain ⟨A, la, z, hA, rfl, rfl, hlf, hL, hb⟩ := hrel
          have hlo := hlf.rd.lo
          have hhi := hlf.rd.hi
          have HLF4 := Lib.hid hlf
          have HL4 := Lib.hid hL
          have HB4 := Lib.hid hb
          clear hlf hL hb
          have a0 : (0 : Int) ≤ (A : Int) := by omega
          have HST4 : Hid ((∃ (h : A < s.size), isDg la s[A]) ∨ ∀ h : A < s.data.toList.length, ¬ isDg la s.data.toList[A]) := by
            by_cases h : A < s.size
            · by_cases hd : isDg la s[A]
              · exact .inl ⟨h, hd⟩
              · exact .inr fun _ => hd
            · exact .inr fun h2 => absurd (by rw [← HLL.out]; exact h2) h
          by_cases hdg : ∃ (h : A < s.size), isDg la s[A]
          · skip
            obtain ⟨hA2, hd1, hd2, hd3⟩ := hdg
            obtain ⟨d, hd⟩ : ∃ d : Nat, s[A].toNat = 48 + d := ⟨s[A].toNat - 48, by omega⟩
            have hgo := HLF4.out.next (by rw [HLL.out]; exact hA2) rfl (tk3_dig (c := s[A]) ⟨hd1, hd2, hd3⟩ hd)
            have HGO : Hid (LfS RR s.data.toList (A + 1) 3 (d : Int) s0 (z + 2 ^ d)) := hgo
            have hd8 : d ≤ 8 := by omega
            have hzd : z < 2 ^ d := Nat.lt_of_lt_of_le (HLF4.out.rd.g1 rfl) (Nat.pow_le_pow_right (by omega) (by omega))
            have HLn := Lib.hid (HL4.out.set1 (show d < 9 by omega) hzd)
            have hfz := (HL4.out.at1 (show d < 9 by omega)).2
            have hcl := (HL4.out.at1 (show d < 9 by omega)).1
            have HBn := Lib.hid (HB4.out.setCell (p := ⟨g, 9 + d, none⟩) (Nat.le_refl g) (.bool true))
            have a1 : (A : Int) < (s.size : Int) := by omega
            have hdI : (((48 + d : Nat) : Int)) = 48 + (d : Int) := by omega
            have b1 : (48 : Int) ≤ 48 + (d : Int) := by omega
            have b2 : 48 + (d : Int) ≤ 56 := by omega
            have b3 : 48 + (d : Int) - 48 = (d : Int) := by omega
            have b4 : la < (d : Int) := by omega
            have b5 : IntKind.i64.wrap (d : Int) = (d : Int) := IntWalk.i64_in _ (by omega)
            have b6 : (0 : Int) ≤ (d : Int) := by omega
            have b7 : (d : Int) < 9 := by omega
            have b8 : IntKind.i64.wrap (48 + (d : Int)) = 48 + (d : Int) := IntWalk.i64_in _ (by omega)
            clear hgo hd1 hd2 hd3 hzd HST4
            go_wp2
            go_roundw
            case rel => exact ⟨A + 1, d, z + 2 ^ d, by omega, by go_num, rfl, HGO.out, HLn.out, HBn.out⟩
            case measure => simp [intOf]; omega
          have HNO : Hid (∀ h : A < s.data.toList.length, ¬ isDg la s.data.toList[A]) := HST4.out.resolve_left hdg
          clear HST4
          by_cases hA2 : A < s.size
          · skip
            have a1 : (A : Int) < (s.size : Int) := by omega
            obtain ⟨C, hC⟩ : ∃ C : Nat, s[A].toNat = C := ⟨_, rfl⟩
            have hnd : ¬ (48 ≤ C ∧ C ≤ 56 ∧ la < (C : Int) - 48) := fun h => hdg ⟨hA2, by unfold isDg; rw [hC]; exact h⟩
            have hC2 : C < 256 := by rw [← hC]; exact UInt8.toNat_lt _
            clear hdg
            by_cases q0 : C < 48
            · skip
              have b1 : ¬ (48 : Int) ≤ (C : Int) := by omega
              clear hnd q0
              go_wp2
              go_roundw
              case rel => exact ⟨2, A, la, s0, z, by go_num, rfl, ⟨by omega, by rw [HLL.out]; exact hA, (fun h => by cases h), (fun h => by cases h), fun _ => ⟨HLF4.out, HNO.out⟩⟩, HL4.out, HB4.out⟩
              case measure => simp [intOf]
            by_cases q1 : 56 < C
            · skip
              have b1 : (48 : Int) ≤ (C : Int) := by omega
              have b2 : ¬ (C : Int) ≤ 56 := by omega
              clear hnd q0 q1
              go_wp2
              go_roundw
              case rel => exact ⟨2, A, la, s0, z, by go_num, rfl, ⟨by omega, by rw [HLL.out]; exact hA, (fun h => by cases h), (fun h => by cases h), fun _ => ⟨HLF4.out, HNO.out⟩⟩, HL4.out, HB4.out⟩
              case measure => simp [intOf]
            have b1 : (48 : Int) ≤ (C : Int) := by omega
            have b2 : (C : Int) ≤ 56 := by omega
            have b3 : ¬ la < (C : Int) - 48 := by omega
            have b4 : IntKind.i64.wrap ((C : Int) - 48) = (C : Int) - 48 := IntWalk.i64_in _ (by omega)
            clear hnd q0 q1
            go_wp2
            go_roundw
            case rel => exact ⟨2, A, la, s0, z, by go_num, rfl, ⟨by omega, by rw [HLL.out]; exact hA, (fun h => by cases h), (fun h => by cases h), fun _ => ⟨HLF4.out, HNO.out⟩⟩, HL4.out, HB4.out⟩
            case measure => simp [intOf]
          · skip
            have a1 : ¬ (A : Int) < (s.size : Int) := by omega
            clear hdg
            go_wp2
            go_roundw
            case rel => exact ⟨2, A, la, s0, z, by go_num, rfl, ⟨by omega, by rw [HLL.out]; exact hA, (fun h => by cases h), (fun h => by cases h), fun _ => ⟨HLF4.out, HNO.out⟩⟩, HL4.out, HB4.out⟩
            case measure => simp [intOf]
    obtain rfl : kk = 2 := by omega
    rw [show ((2 : Nat) : Int) = 2 from rfl]
    obtain ⟨hlf, hno⟩ := HO.out.t rfl
    have HLF := Lib.hid (And.intro hlf hno)
    clear hlf hno HO hk0 hk1
    by_cases hA2 : at_ < s.size
    · skip
      have HGN := Lib.hid (HLF.out.1.bad (by rw [HLL.out]; exact hA2) rfl (tk3_no HLF.out.1.rd.lo (HLF.out.2 (by rw [HLL.out]; exact hA2))))
      have a1 : (at_ : Int) < (s.size : Int) := by omega
      have hbT : Below Wb.heap.size Wb wo := by rw [HG.out]; exact HB.out
      have T4 := T3.up hbT
      clear T3
      clear hbT
      have HOD := Lib.hid (lf_bad HBG.out HRR.out HGN.out)
      have sb0 : W.heap.size < wo.heap.size := heap_ltT (T4.out.2)
      go_wp2_with fail
      refine (rawNew_fresh _ _ _ _ rfl).mono ?_; rintro e w8 ⟨b1, b2, rfl, lb1, lb2, hw8, hbw8⟩
      have T5 := T4.up hbw8
      clear T4
      obtain ⟨⟨q3, q4, q5⟩, f3, f4, f5⟩ := p_cells (T5.out.2)
      obtain ⟨w9, e9, ⟨r0, r1, r2⟩, hk9, hs9, hw9, hb9⟩ := er_set (Nat.le_refl W.heap.size) (T5.out.2) (T5.out.1.2) (fr_some (by omega)) (fr_some (by omega)) (wc_want hw8)
      have HRET := Lib.hid (And.intro hw9 hb9)
      clear hk9 hs9 hw9 hb9 hw8 lb1 lb2 sb0
      have HE9 := Lib.hid e9
      have HR9 := Lib.hid (And.intro r0 (And.intro r1 r2))
      clear e9 r0 r1 r2
      go_wp2
      rw [HE9.out]
      have r0 := HR9.out.1
      have r1 := HR9.out.2.1
      have r2 := HR9.out.2.2
      refine bodyPost_ret (v := .tuple #[.slice none 0 0, .agg #[.int .i64 6, .slice (some ⟨b1, 0, none⟩) 1 1, .slice (some ⟨b2, 0, none⟩) 1 1]]) (by simp [results, Tryd.results36, go_sem, r0, r1, r2]) rfl ?_
      rw [HOD.out.1, HOD.out.2]
      exact ⟨none, 0, 0, 6, _, 1, 1, _, 1, 1, rfl, RK.nil, HRET.out.1, rfl, HRET.out.2⟩
    have a1 : ¬ (at_ : Int) < (s.size : Int) := by omega
    have hfin := HLF.out.1
    rw [show at_ = s.data.toList.length by rw [HLL.out]; omega] at hfin
    have hok : RR = .ok (s0, s1) := by have h := hfin.fin; rwa [if_pos rfl] at h
    obtain ⟨hd, ho⟩ := lifeD_ok HBG.out (HRR.out.trans hok)
    have HOD := Lib.hid (And.intro ho hd)
    clear hfin hok hd ho
    have c0 := (HL.out.at0 (show 0 < 9 by omega)).1
    have c1 := (HL.out.at0 (show 1 < 9 by omega)).1
    have c2 := (HL.out.at0 (show 2 < 9 by omega)).1
    have c3 := (HL.out.at0 (show 3 < 9 by omega)).1
    have c4 := (HL.out.at0 (show 4 < 9 by omega)).1
    have c5 := (HL.out.at0 (show 5 < 9 by omega)).1
    have c6 := (HL.out.at0 (show 6 < 9 by omega)).1
    have c7 := (HL.out.at0 (show 7 < 9 by omega)).1
    have c8 := (HL.out.at0 (show 8 < 9 by omega)).1
    have d0 : wo.cell? ⟨g, 9, none⟩ = some (.bool (bB s1 0)) := (HL.out.at1 (show 0 < 9 by omega)).1
    have d1 : wo.cell? ⟨g, 10, none⟩ = some (.bool (bB s1 1)) := (HL.out.at1 (show 1 < 9 by omega)).1
    have d2 : wo.cell? ⟨g, 11, none⟩ = some (.bool (bB s1 2)) := (HL.out.at1 (show 2 < 9 by omega)).1
    have d3 : wo.cell? ⟨g, 12, none⟩ = some (.bool (bB s1 3)) := (HL.out.at1 (show 3 < 9 by omega)).1
    have d4 : wo.cell? ⟨g, 13, none⟩ = some (.bool (bB s1 4)) := (HL.out.at1 (show 4 < 9 by omega)).1
    have d5 : wo.cell? ⟨g, 14, none⟩ = some (.bool (bB s1 5)) := (HL.out.at1 (show 5 < 9 by omega)).1
    have d6 : wo.cell? ⟨g, 15, none⟩ = some (.bool (bB s1 6)) := (HL.out.at1 (show 6 < 9 by omega)).1
    have d7 : wo.cell? ⟨g, 16, none⟩ = some (.bool (bB s1 7)) := (HL.out.at1 (show 7 < 9 by omega)).1
    have d8 : wo.cell? ⟨g, 17, none⟩ = some (.bool (bB s1 8)) := (HL.out.at1 (show 8 < 9 by omega)).1
    have hbT : Below Wb.heap.size Wb wo := by rw [HG.out]; exact HB.out
    have T4 := T3.up hbT
    clear T3
    clear hbT
    have sb0 : W.heap.size < wo.heap.size := heap_ltT (T4.out.2)
    go_wp2_with fail
    refine (refcounted s0 s1 wo).mono ?_; rintro e w5 ⟨g5, cc5, rfl, ho5, hbw5⟩
    have T5 := T4.up hbw5
    clear T4
    clear c0 d0 c1 d1 c2 d2 c3 d3 c4 d4 c5 d5 c6 d6 c7 d7 c8 d8
    obtain ⟨⟨q3, q4, q5⟩, f3, f4, f5⟩ := p_cells (T5.out.2)
    obtain ⟨w9, e9, ⟨r0, r1, r2⟩, hk9, hs9, hw9, hb9⟩ := er_set (Nat.le_refl W.heap.size) (T5.out.2) (T5.out.1.2) fr_none fr_none (wc_none w5)
    have HRK : Hid (RK .i64 w9 (some ⟨g5, 0, none⟩) 512 (tabOf s0 s1)) := OwI.rk (base := wo.heap.size) (c := cc5) ⟨own_of_heap' ho5.own fun b hb => hk9 b (by have h1 := (ho5.own.lt b hb).1; omega)⟩
    have HRET := Lib.hid (And.intro hw9 hb9)
    clear hk9 hs9 hw9 hb9 ho5 sb0
    have HE9 := Lib.hid e9
    have HR9 := Lib.hid (And.intro r0 (And.intro r1 r2))
    clear e9 r0 r1 r2
    go_wp2_with fail
    first | rw [HE9.out] | (go_region; all_goals go_wp2; rw [HE9.out])
    have r0 := HR9.out.1
    have r1 := HR9.out.2.1
    have r2 := HR9.out.2.2
    refine bodyPost_ret (v := .tuple #[.slice (some ⟨g5, 0, none⟩) 512 cc5, .agg #[.int .i64 0, .slice none 0 0, .slice none 0 0]]) (by simp [results, Tryd.results36, go_sem, r0, r1, r2]) rfl ?_
    rw [HOD.out.1, HOD.out.2]
    exact ⟨_, _, _, 0, none, 0, 0, none, 0, 0, rfl, HRK.out, HRET.out.1, rfl, HRET.out.2⟩
end Go.Proofs.YtocfkmdoalhjmaaDoor
namespace Go.Proofs.YtocfkmdoalhjmaaDoor
open Go.RowKit
set_option linter.unusedVariables false
set_option maxRecDepth 100000

theorem fromD_at {s : ByteArray} {i : Nat} (h : fromE s.data.toList 0 = some i) : fromO s = [] ∧ fromD s = some ([(opPlane, (i : Int))], 6) := by
  have hd : fromD s = some ([(opPlane, (i : Int))], 6) := by unfold fromD; rw [h]
  exact ⟨by unfold fromO; rw [if_neg (by rw [hd]; exact nofun)], hd⟩
theorem fromD_ok {s : ByteArray} (h : fromE s.data.toList 0 = none) : fromO s = fromL s.data.toList ∧ fromD s = none := by
  have hd : fromD s = none := by unfold fromD; rw [h]
  exact ⟨by unfold fromO; rw [if_pos hd], hd⟩
set_option maxHeartbeats 16000000 in
theorem reffrom_any (s : ByteArray) (W : World) (hsz : s.size ≤ maxLen) :
    Calls Tryd.prog 37 #[.string s] W (IntsRef W (fromO s) (fromD s)) := by
  have hsm : s.size ≤ 9223372036854775807 := hsz
  obtain ⟨E, hE⟩ : ∃ E, fromE s.data.toList 0 = E := ⟨_, rfl⟩
  have HE := Lib.hid hE
  clear hE
  have T0 := Tk.nil W
  have T1 := T0.add (fun wv => Below W.heap.size W wv) (bnil W)
  clear T0
  obtain ⟨Wb, hWb⟩ : ∃ Wb, W.alloc (.cells #[.int .i64 0, .slice none 0 0, .slice none 0 0] 48) = Wb := ⟨_, rfl⟩
  have hbWb : Below W.heap.size W Wb := by rw [← hWb]; exact balloc (bnil W) _
  have T2 := T1.up hbWb
  clear T1
  have HWb := Lib.hid hWb
  clear hWb hbWb
  have hz2 : Wb.heap[W.heap.size]? = some (.cells #[.int .i64 0, .slice none 0 0, .slice none 0 0] 48) := by
    rw [← HWb.out]
    exact heap_alloc_new W _
  have hsz1 : W.heap.size + 1 = Wb.heap.size := by rw [← HWb.out]; simp
  have T3 := T2.add (fun wv => wv.heap[W.heap.size]? = some (.cells #[.int .i64 0, .slice none 0 0, .slice none 0 0] 48)) (hz2)
  clear T2
  obtain ⟨g, hg⟩ : ∃ g, Wb.heap.size = g := ⟨_, rfl⟩
  rw [hg] at hsz1
  have HSZ := Lib.hid hsz1
  have HG := Lib.hid hg
  clear hz2 hsz1 hg
  go_enter Tryd.func37, Tryd.ntmps37
  go_wp2_with fail
  rw [HWb.out]
  go_loopw [4, 5] (fun tx ix wr => ∃ (i : Nat) (a : Option Addr) (c : Nat), i ≤ s.size ∧ i ≤ 128 ∧ ix = .int .i64 (i : Nat) ∧ tx = .slice a (4 * i) c ∧ OwI wr g a (4 * i) c (fromL (s.data.toList.take i)) ∧ fromE (s.data.toList.drop i) i = E ∧ Below g Wb wr) (fun _ ix _ => s.size - (intOf ix).toNat)
  case atStart => exact ⟨0, none, 0, by omega, by omega, rfl, rfl, by simpa [fromL] using OwI.nil _ _, HE.out, Below.refl _ _⟩
  case round =>
    obtain ⟨i, a, c, hi, hi8, rfl, rfl, ho, hrun, hb⟩ := hrel
    have HO := Lib.hid ho
    have HB := Lib.hid hb
    have HRUN := Lib.hid hrun
    clear ho hrun
    have hb0 : Below Wb.heap.size Wb wr := by rw [HG.out]; exact hb
    clear hb
    generalize wr = wo at *
    have T4 := T3.up hb0
    clear T3
    clear hb0
    by_cases his : i < s.size
    · skip
      have hil : i < s.data.toList.length := by simpa using his
      have hdr : s.data.toList.drop i = s[i] :: s.data.toList.drop (i + 1) := List.drop_eq_getElem_cons hil
      have hsn : s.data.toList.take (i + 1) = s.data.toList.take i ++ [s[i]] := take_snocU hil
      have hrun := HRUN.out
      rw [hdr] at hrun
      unfold fromE at hrun
      have HSN := Lib.hid hsn
      have i0 : (0 : Int) ≤ (i : Int) := by omega
      have i1 : (i : Int) < (s.size : Int) := by omega
      obtain ⟨C, hC⟩ : ∃ C : Nat, s[i].toNat = C := ⟨_, rfl⟩
      have hC2 : C < 256 := by rw [← hC]; exact UInt8.toNat_lt _
      obtain ⟨H, hH⟩ : ∃ H, hexI s[i] = H := ⟨_, rfl⟩
      have hHC : H = if 48 ≤ C ∧ C ≤ 57 then (C : Int) - 48 else if 97 ≤ C ∧ C ≤ 102 then (C : Int) - 87 else -1 := by rw [← hH, ← hC]; rfl
      rw [hH] at hrun
      have HH := Lib.hid hH
      clear HRUN hdr hsn hH
      by_cases h0 : 48 ≤ C ∧ C ≤ 57
      · skip
        rw [if_pos h0] at hHC
        obtain ⟨c0, c1⟩ := h0
        obtain ⟨D, hD⟩ : ∃ D : Nat, H = (D : Int) := ⟨H.toNat, by omega⟩
        subst hD
        have hD15 : D ≤ 15 := by omega
        have k1 : (48 : Int) ≤ (C : Int) := by omega
        have k2 : (C : Int) ≤ 57 := by omega
        have k3 : ¬ (97 : Int) ≤ (C : Int) := by omega
        have kd : (C : Int) - 48 = (D : Int) := by omega
        have kD : IntKind.i64.wrap (D : Int) = (D : Int) := IntWalk.i64_in _ (by omega)
        have n1 : ¬ (D : Int) < 0 := by omega
        by_cases h128 : 128 ≤ i
        · skip
          have j1 : (128 : Int) ≤ (i : Int) := by omega
          rw [if_pos (Or.inr h128)] at hrun
          have hbad := hrun.symm
          clear hHC hrun h128
          have HOD := Lib.hid (fromD_at (HE.out.trans (hbad)))
          have sb0 : W.heap.size < wo.heap.size := heap_ltT (T4.out.2)
          go_wp2_with fail
          refine (rawNew_fresh _ _ _ _ rfl).mono ?_; rintro e w8 ⟨b1, b2, rfl, lb1, lb2, hw8, hbw8⟩
          have T5 := T4.up hbw8
          clear T4
          obtain ⟨⟨q3, q4, q5⟩, f3, f4, f5⟩ := p_cells (T5.out.2)
          obtain ⟨w9, e9, ⟨r0, r1, r2⟩, hk9, hs9, hw9, hb9⟩ := er_set (Nat.le_refl W.heap.size) (T5.out.2) (T5.out.1.2) (fr_some (by omega)) (fr_some (by omega)) (wc_want hw8)
          have HRET := Lib.hid (And.intro hw9 hb9)
          clear hk9 hs9 hw9 hb9 hw8 lb1 lb2 sb0
          have HE9 := Lib.hid e9
          have HR9 := Lib.hid (And.intro r0 (And.intro r1 r2))
          clear e9 r0 r1 r2
          go_wp2
          rw [HE9.out]
          have r0 := HR9.out.1
          have r1 := HR9.out.2.1
          have r2 := HR9.out.2.2
          refine bodyPost_ret (v := .tuple #[.slice none 0 0, .agg #[.int .i64 6, .slice (some ⟨b1, 0, none⟩) 1 1, .slice (some ⟨b2, 0, none⟩) 1 1]]) (by simp [results, Tryd.results37, go_sem, r0, r1, r2]) rfl ?_
          rw [HOD.out.1, HOD.out.2]
          exact ⟨none, 0, 0, 6, _, 1, 1, _, 1, 1, rfl, RK.nil, HRET.out.1, rfl, HRET.out.2⟩
        have j1 : ¬ (128 : Int) ≤ (i : Int) := by omega
        have j2 : (i : Int) < 128 := by omega
        rw [if_neg (by omega)] at hrun
        have HRN := Lib.hid hrun
        have hfour : Hid (fourL s[i] = [((D / 8 : Nat) : Int), ((D / 4 % 2 : Nat) : Int), ((D / 2 % 2 : Nat) : Int), ((D % 2 : Nat) : Int)]) := by show _ = _; unfold fourL; rw [HH.out, Int.toNat_natCast]
        have s1 : Int.tdiv (D : Int) 8 = ((D / 8 : Nat) : Int) := rfl
        have s2 : Int.tdiv (D : Int) 4 = ((D / 4 : Nat) : Int) := rfl
        have s3 : Int.tdiv (D : Int) 2 = ((D / 2 : Nat) : Int) := rfl
        have s4 : Int.tmod ((D / 4 : Nat) : Int) 2 = ((D / 4 % 2 : Nat) : Int) := rfl
        have s5 : Int.tmod ((D / 2 : Nat) : Int) 2 = ((D / 2 % 2 : Nat) : Int) := rfl
        have s6 : Int.tmod (D : Int) 2 = ((D % 2 : Nat) : Int) := rfl
        have t1 : (D : Int) / 8 = ((D / 8 : Nat) : Int) := by omega
        have t2 : (D : Int) / 4 = ((D / 4 : Nat) : Int) := by omega
        have t3 : (D : Int) / 2 = ((D / 2 : Nat) : Int) := by omega
        have t4 : ((D / 4 : Nat) : Int) % 2 = ((D / 4 % 2 : Nat) : Int) := by omega
        have t5 : ((D / 2 : Nat) : Int) % 2 = ((D / 2 % 2 : Nat) : Int) := by omega
        have t6 : (D : Int) % 2 = ((D % 2 : Nat) : Int) := by omega
        have hv1 : D / 8 ≤ 1 := by omega
        have hv2 : D / 4 ≤ 3 := by omega
        have hv3 : D / 2 ≤ 7 := by omega
        clear hrun hHC h128
        have hw8 : IntKind.i64.wrap ((D / 8 : Nat) : Int) = ((D / 8 : Nat) : Int) := IntWalk.i64_in _ (by omega)
        have hw4 : IntKind.i64.wrap ((D / 4 : Nat) : Int) = ((D / 4 : Nat) : Int) := IntWalk.i64_in _ (by omega)
        have hw2 : IntKind.i64.wrap ((D / 2 : Nat) : Int) = ((D / 2 : Nat) : Int) := IntWalk.i64_in _ (by omega)
        generalize D / 8 = D8 at *
        generalize D / 4 = E4 at *
        generalize D / 2 = E2 at *
        generalize E4 % 2 = D4 at *
        generalize E2 % 2 = D2 at *
        generalize D % 2 = D1 at *
        have hsb : g ≤ wo.heap.size := by have := HB.out.size; have := HG.out; omega
        go_wp2_with (first
          | (at_builtin; refine app_lit rfl _ _ _ rfl g et_int _ (4 * i) _ HO.out.own (by rfl) 4 _ _ (by rfl) (by rfl) (by simp) (by rfl) (by unfold maxLen; omega) (by omega) hsb ?_; intro a5 c5 w5 ho5 hg5 hb5 hs5))
        have HO5 : Hid (OwI w5 g a5 (4 * (i + 1)) c5 (fromL (s.data.toList.take (i + 1)))) := by
          rw [HSN.out, fromL_snoc, hfour.out]
          refine ⟨(show w5.ownsRow g 3 1 (.slice a5 (4 * i + 4) c5) (4 * i + 4) _ from ?_)⟩
          simpa [List.map_append] using ho5
        have HB5 := Lib.hid (HB.out.trans hb5)
        clear ho5 hg5 hb5 hs5
        go_wp2
        go_roundw
        case rel => exact ⟨i + 1, a5, c5, by omega, by omega, by go_num, rfl, HO5.out, HRN.out, HB5.out⟩
        case measure => simp [intOf]; omega
      by_cases h1 : 97 ≤ C ∧ C ≤ 102
      · skip
        rw [if_neg h0, if_pos h1] at hHC
        obtain ⟨c0, c1⟩ := h1
        obtain ⟨D, hD⟩ : ∃ D : Nat, H = (D : Int) := ⟨H.toNat, by omega⟩
        subst hD
        have hD15 : D ≤ 15 := by omega
        have k1 : (48 : Int) ≤ (C : Int) := by omega
        have k2 : ¬ (C : Int) ≤ 57 := by omega
        have k3 : (97 : Int) ≤ (C : Int) := by omega
        have k4 : (C : Int) ≤ 102 := by omega
        have kd : (C : Int) - 97 + 10 = (D : Int) := by omega
        have kw : IntKind.i64.wrap ((C : Int) - 97) = (C : Int) - 97 := IntWalk.i64_in _ (by omega)
        have kD : IntKind.i64.wrap (D : Int) = (D : Int) := IntWalk.i64_in _ (by omega)
        have n1 : ¬ (D : Int) < 0 := by omega
        by_cases h128 : 128 ≤ i
        · skip
          have j1 : (128 : Int) ≤ (i : Int) := by omega
          rw [if_pos (Or.inr h128)] at hrun
          have hbad := hrun.symm
          clear hHC hrun h128
          have HOD := Lib.hid (fromD_at (HE.out.trans (hbad)))
          have sb0 : W.heap.size < wo.heap.size := heap_ltT (T4.out.2)
          go_wp2_with fail
          refine (rawNew_fresh _ _ _ _ rfl).mono ?_; rintro e w8 ⟨b1, b2, rfl, lb1, lb2, hw8, hbw8⟩
          have T5 := T4.up hbw8
          clear T4
          obtain ⟨⟨q3, q4, q5⟩, f3, f4, f5⟩ := p_cells (T5.out.2)
          obtain ⟨w9, e9, ⟨r0, r1, r2⟩, hk9, hs9, hw9, hb9⟩ := er_set (Nat.le_refl W.heap.size) (T5.out.2) (T5.out.1.2) (fr_some (by omega)) (fr_some (by omega)) (wc_want hw8)
          have HRET := Lib.hid (And.intro hw9 hb9)
          clear hk9 hs9 hw9 hb9 hw8 lb1 lb2 sb0
          have HE9 := Lib.hid e9
          have HR9 := Lib.hid (And.intro r0 (And.intro r1 r2))
          clear e9 r0 r1 r2
          go_wp2
          rw [HE9.out]
          have r0 := HR9.out.1
          have r1 := HR9.out.2.1
          have r2 := HR9.out.2.2
          refine bodyPost_ret (v := .tuple #[.slice none 0 0, .agg #[.int .i64 6, .slice (some ⟨b1, 0, none⟩) 1 1, .slice (some ⟨b2, 0, none⟩) 1 1]]) (by simp [results, Tryd.results37, go_sem, r0, r1, r2]) rfl ?_
          rw [HOD.out.1, HOD.out.2]
          exact ⟨none, 0, 0, 6, _, 1, 1, _, 1, 1, rfl, RK.nil, HRET.out.1, rfl, HRET.out.2⟩
        have j1 : ¬ (128 : Int) ≤ (i : Int) := by omega
        have j2 : (i : Int) < 128 := by omega
        rw [if_neg (by omega)] at hrun
        have HRN := Lib.hid hrun
        have hfour : Hid (fourL s[i] = [((D / 8 : Nat) : Int), ((D / 4 % 2 : Nat) : Int), ((D / 2 % 2 : Nat) : Int), ((D % 2 : Nat) : Int)]) := by show _ = _; unfold fourL; rw [HH.out, Int.toNat_natCast]
        have s1 : Int.tdiv (D : Int) 8 = ((D / 8 : Nat) : Int) := rfl
        have s2 : Int.tdiv (D : Int) 4 = ((D / 4 : Nat) : Int) := rfl
        have s3 : Int.tdiv (D : Int) 2 = ((D / 2 : Nat) : Int) := rfl
        have s4 : Int.tmod ((D / 4 : Nat) : Int) 2 = ((D / 4 % 2 : Nat) : Int) := rfl
        have s5 : Int.tmod ((D / 2 : Nat) : Int) 2 = ((D / 2 % 2 : Nat) : Int) := rfl
        have s6 : Int.tmod (D : Int) 2 = ((D % 2 : Nat) : Int) := rfl
        have t1 : (D : Int) / 8 = ((D / 8 : Nat) : Int) := by omega
        have t2 : (D : Int) / 4 = ((D / 4 : Nat) : Int) := by omega
        have t3 : (D : Int) / 2 = ((D / 2 : Nat) : Int) := by omega
        have t4 : ((D / 4 : Nat) : Int) % 2 = ((D / 4 % 2 : Nat) : Int) := by omega
        have t5 : ((D / 2 : Nat) : Int) % 2 = ((D / 2 % 2 : Nat) : Int) := by omega
        have t6 : (D : Int) % 2 = ((D % 2 : Nat) : Int) := by omega
        have hv1 : D / 8 ≤ 1 := by omega
        have hv2 : D / 4 ≤ 3 := by omega
        have hv3 : D / 2 ≤ 7 := by omega
        clear hrun hHC h128
        have hw8 : IntKind.i64.wrap ((D / 8 : Nat) : Int) = ((D / 8 : Nat) : Int) := IntWalk.i64_in _ (by omega)
        have hw4 : IntKind.i64.wrap ((D / 4 : Nat) : Int) = ((D / 4 : Nat) : Int) := IntWalk.i64_in _ (by omega)
        have hw2 : IntKind.i64.wrap ((D / 2 : Nat) : Int) = ((D / 2 : Nat) : Int) := IntWalk.i64_in _ (by omega)
        generalize D / 8 = D8 at *
        generalize D / 4 = E4 at *
        generalize D / 2 = E2 at *
        generalize E4 % 2 = D4 at *
        generalize E2 % 2 = D2 at *
        generalize D % 2 = D1 at *
        have hsb : g ≤ wo.heap.size := by have := HB.out.size; have := HG.out; omega
        go_wp2_with (first
          | (at_builtin; refine app_lit rfl _ _ _ rfl g et_int _ (4 * i) _ HO.out.own (by rfl) 4 _ _ (by rfl) (by rfl) (by simp) (by rfl) (by unfold maxLen; omega) (by omega) hsb ?_; intro a5 c5 w5 ho5 hg5 hb5 hs5))
        have HO5 : Hid (OwI w5 g a5 (4 * (i + 1)) c5 (fromL (s.data.toList.take (i + 1)))) := by
          rw [HSN.out, fromL_snoc, hfour.out]
          refine ⟨(show w5.ownsRow g 3 1 (.slice a5 (4 * i + 4) c5) (4 * i + 4) _ from ?_)⟩
          simpa [List.map_append] using ho5
        have HB5 := Lib.hid (HB.out.trans hb5)
        clear ho5 hg5 hb5 hs5
        go_wp2
        go_roundw
        case rel => exact ⟨i + 1, a5, c5, by omega, by omega, by go_num, rfl, HO5.out, HRN.out, HB5.out⟩
        case measure => simp [intOf]; omega
      rw [if_neg h0, if_neg h1] at hHC
      subst hHC
      rw [if_pos (Or.inl (by decide))] at hrun
      have hbad := hrun.symm
      clear hrun
      by_cases q0 : C < 48
      · skip
        have k1 : ¬ (48 : Int) ≤ (C : Int) := by omega
        have k3 : ¬ (97 : Int) ≤ (C : Int) := by omega
        clear h0 h1 q0
        have HOD := Lib.hid (fromD_at (HE.out.trans (hbad)))
        have sb0 : W.heap.size < wo.heap.size := heap_ltT (T4.out.2)
        go_wp2_with fail
        refine (rawNew_fresh _ _ _ _ rfl).mono ?_; rintro e w8 ⟨b1, b2, rfl, lb1, lb2, hw8, hbw8⟩
        have T5 := T4.up hbw8
        clear T4
        obtain ⟨⟨q3, q4, q5⟩, f3, f4, f5⟩ := p_cells (T5.out.2)
        obtain ⟨w9, e9, ⟨r0, r1, r2⟩, hk9, hs9, hw9, hb9⟩ := er_set (Nat.le_refl W.heap.size) (T5.out.2) (T5.out.1.2) (fr_some (by omega)) (fr_some (by omega)) (wc_want hw8)
        have HRET := Lib.hid (And.intro hw9 hb9)
        clear hk9 hs9 hw9 hb9 hw8 lb1 lb2 sb0
        have HE9 := Lib.hid e9
        have HR9 := Lib.hid (And.intro r0 (And.intro r1 r2))
        clear e9 r0 r1 r2
        go_wp2
        rw [HE9.out]
        have r0 := HR9.out.1
        have r1 := HR9.out.2.1
        have r2 := HR9.out.2.2
        refine bodyPost_ret (v := .tuple #[.slice none 0 0, .agg #[.int .i64 6, .slice (some ⟨b1, 0, none⟩) 1 1, .slice (some ⟨b2, 0, none⟩) 1 1]]) (by simp [results, Tryd.results37, go_sem, r0, r1, r2]) rfl ?_
        rw [HOD.out.1, HOD.out.2]
        exact ⟨none, 0, 0, 6, _, 1, 1, _, 1, 1, rfl, RK.nil, HRET.out.1, rfl, HRET.out.2⟩
      by_cases q1 : 57 < C ∧ C < 97
      · skip
        have k1 : (48 : Int) ≤ (C : Int) := by omega
        have k2 : ¬ (C : Int) ≤ 57 := by omega
        have k3 : ¬ (97 : Int) ≤ (C : Int) := by omega
        clear h0 h1 q0 q1
        have HOD := Lib.hid (fromD_at (HE.out.trans (hbad)))
        have sb0 : W.heap.size < wo.heap.size := heap_ltT (T4.out.2)
        go_wp2_with fail
        refine (rawNew_fresh _ _ _ _ rfl).mono ?_; rintro e w8 ⟨b1, b2, rfl, lb1, lb2, hw8, hbw8⟩
        have T5 := T4.up hbw8
        clear T4
        obtain ⟨⟨q3, q4, q5⟩, f3, f4, f5⟩ := p_cells (T5.out.2)
        obtain ⟨w9, e9, ⟨r0, r1, r2⟩, hk9, hs9, hw9, hb9⟩ := er_set (Nat.le_refl W.heap.size) (T5.out.2) (T5.out.1.2) (fr_some (by omega)) (fr_some (by omega)) (wc_want hw8)
        have HRET := Lib.hid (And.intro hw9 hb9)
        clear hk9 hs9 hw9 hb9 hw8 lb1 lb2 sb0
        have HE9 := Lib.hid e9
        have HR9 := Lib.hid (And.intro r0 (And.intro r1 r2))
        clear e9 r0 r1 r2
        go_wp2
        rw [HE9.out]
        have r0 := HR9.out.1
        have r1 := HR9.out.2.1
        have r2 := HR9.out.2.2
        refine bodyPost_ret (v := .tuple #[.slice none 0 0, .agg #[.int .i64 6, .slice (some ⟨b1, 0, none⟩) 1 1, .slice (some ⟨b2, 0, none⟩) 1 1]]) (by simp [results, Tryd.results37, go_sem, r0, r1, r2]) rfl ?_
        rw [HOD.out.1, HOD.out.2]
        exact ⟨none, 0, 0, 6, _, 1, 1, _, 1, 1, rfl, RK.nil, HRET.out.1, rfl, HRET.out.2⟩
      have q2 : 102 < C := by omega
      have k1 : (48 : Int) ≤ (C : Int) := by omega
      have k2 : ¬ (C : Int) ≤ 57 := by omega
      have k3 : (97 : Int) ≤ (C : Int) := by omega
      have k4 : ¬ (C : Int) ≤ 102 := by omega
      clear h0 h1 q0 q1 q2
      have HOD := Lib.hid (fromD_at (HE.out.trans (hbad)))
      have sb0 : W.heap.size < wo.heap.size := heap_ltT (T4.out.2)
      go_wp2_with fail
      refine (rawNew_fresh _ _ _ _ rfl).mono ?_; rintro e w8 ⟨b1, b2, rfl, lb1, lb2, hw8, hbw8⟩
      have T5 := T4.up hbw8
      clear T4
      obtain ⟨⟨q3, q4, q5⟩, f3, f4, f5⟩ := p_cells (T5.out.2)
      obtain ⟨w9, e9, ⟨r0, r1, r2⟩, hk9, hs9, hw9, hb9⟩ := er_set (Nat.le_refl W.heap.size) (T5.out.2) (T5.out.1.2) (fr_some (by omega)) (fr_some (by omega)) (wc_want hw8)
      have HRET := Lib.hid (And.intro hw9 hb9)
      clear hk9 hs9 hw9 hb9 hw8 lb1 lb2 sb0
      have HE9 := Lib.hid e9
      have HR9 := Lib.hid (And.intro r0 (And.intro r1 r2))
      clear e9 r0 r1 r2
      go_wp2
      rw [HE9.out]
      have r0 := HR9.out.1
      have r1 := HR9.out.2.1
      have r2 := HR9.out.2.2
      refine bodyPost_ret (v := .tuple #[.slice none 0 0, .agg #[.int .i64 6, .slice (some ⟨b1, 0, none⟩) 1 1, .slice (some ⟨b2, 0, none⟩) 1 1]]) (by simp [results, Tryd.results37, go_sem, r0, r1, r2]) rfl ?_
      rw [HOD.out.1, HOD.out.2]
      exact ⟨none, 0, 0, 6, _, 1, 1, _, 1, 1, rfl, RK.nil, HRET.out.1, rfl, HRET.out.2⟩
    obtain rfl : i = s.size := by omega
    have hrun := HRUN.out
    have ho := HO.out
    rw [List.drop_of_length_le (by simp)] at hrun
    rw [List.take_of_length_le (by simp)] at ho
    unfold fromE at hrun
    have HO9 := Lib.hid ho
    clear HRUN HO ho
    by_cases hlt : s.size < 128
    · skip
      rw [if_pos hlt] at hrun
      have hbad := hrun.symm
      have hlI : (s.size : Int) < 128 := by omega
      clear hrun
      have HOD := Lib.hid (fromD_at (HE.out.trans (hbad)))
      have sb0 : W.heap.size < wo.heap.size := heap_ltT (T4.out.2)
      go_wp2_with fail
      refine (rawNew_fresh _ _ _ _ rfl).mono ?_; rintro e w8 ⟨b1, b2, rfl, lb1, lb2, hw8, hbw8⟩
      have T5 := T4.up hbw8
      clear T4
      obtain ⟨⟨q3, q4, q5⟩, f3, f4, f5⟩ := p_cells (T5.out.2)
      obtain ⟨w9, e9, ⟨r0, r1, r2⟩, hk9, hs9, hw9, hb9⟩ := er_set (Nat.le_refl W.heap.size) (T5.out.2) (T5.out.1.2) (fr_some (by omega)) (fr_some (by omega)) (wc_want hw8)
      have HRET := Lib.hid (And.intro hw9 hb9)
      clear hk9 hs9 hw9 hb9 hw8 lb1 lb2 sb0
      have HE9 := Lib.hid e9
      have HR9 := Lib.hid (And.intro r0 (And.intro r1 r2))
      clear e9 r0 r1 r2
      go_wp2
      rw [HE9.out]
      have r0 := HR9.out.1
      have r1 := HR9.out.2.1
      have r2 := HR9.out.2.2
      refine bodyPost_ret (v := .tuple #[.slice none 0 0, .agg #[.int .i64 6, .slice (some ⟨b1, 0, none⟩) 1 1, .slice (some ⟨b2, 0, none⟩) 1 1]]) (by simp [results, Tryd.results37, go_sem, r0, r1, r2]) rfl ?_
      rw [HOD.out.1, HOD.out.2]
      exact ⟨none, 0, 0, 6, _, 1, 1, _, 1, 1, rfl, RK.nil, HRET.out.1, rfl, HRET.out.2⟩
    rw [if_neg hlt] at hrun
    have HOD := Lib.hid (fromD_ok (HE.out.trans hrun.symm))
    have hlI : ¬ (s.size : Int) < 128 := by omega
    clear hrun
    obtain ⟨⟨q3, q4, q5⟩, f3, f4, f5⟩ := p_cells (T4.out.2)
    obtain ⟨w9, e9, ⟨r0, r1, r2⟩, hk9, hs9, hw9, hb9⟩ := er_set (Nat.le_refl W.heap.size) (T4.out.2) (T4.out.1.2) fr_none fr_none (wc_none wo)
    have HRK : Hid (RK .i64 w9 a (4 * s.size) (fromL s.data.toList)) := OwI.rk (base := g) (c := c) ⟨own_of_heap' HO9.out.own fun b hb => hk9 b (by have h1 := (HO9.out.own.lt b hb).1; have h2 := HSZ.out; omega)⟩
    have HRET := Lib.hid (And.intro hw9 hb9)
    clear hk9 hs9 hw9 hb9
    have HE9 := Lib.hid e9
    have HR9 := Lib.hid (And.intro r0 (And.intro r1 r2))
    clear e9 r0 r1 r2
    go_wp2_with fail
    first | rw [HE9.out] | (go_region; all_goals go_wp2; rw [HE9.out])
    have r0 := HR9.out.1
    have r1 := HR9.out.2.1
    have r2 := HR9.out.2.2
    refine bodyPost_ret (v := .tuple #[.slice a (4 * s.size) c, .agg #[.int .i64 0, .slice none 0 0, .slice none 0 0]]) (by simp [results, Tryd.results37, go_sem, r0, r1, r2]) rfl ?_
    rw [HOD.out.1, HOD.out.2]
    exact ⟨_, _, _, 0, none, 0, 0, none, 0, 0, rfl, HRK.out, HRET.out.1, rfl, HRET.out.2⟩
end Go.Proofs.YtocfkmdoalhjmaaDoor
namespace Go.Proofs.YtocfkmdoalhjmaaDoor
open Go.RowKit
set_option linter.unusedVariables false
set_option maxRecDepth 100000

theorem OwI.lmT {w : World} {B : Nat} {a : Option Addr} {n c : Nat} {l : List Int} (h : OwI w B a n c l) : l.length ≤ maxLen := by
  have h1 := h.rk.len
  have h2 := h.nnc
  omega
theorem fromO_le (s : ByteArray) : (fromO s).length ≤ 512 := by
  by_cases h : fromD s = none
  · exact Nat.le_of_eq (hex_of_from h).1.len
  · unfold fromO; rw [if_neg h]; simp
theorem text_okT (a : Option Addr) (n c : Nat) (s : ByteArray) (b st : Nat) (W : World) (R : Nat → Addr) (hS : Sent W R) (hR : RK .i64 W a n (tabOf b st)) (hr : lifeR s = .ok (b, st)) :
    Calls Tryd.prog 30 #[.slice a n c] W fun e w' => e = .returned (.tuple #[.string s, .bool true, .nilIface]) ∧ Below W.heap.size W w' := by
  refine (pltext_any a n c (tabOf b st) W R hS hR (by rw [hR.len, tabOf_len]; unfold maxLen; omega)).mono ?_
  rintro e w' ⟨ev, rfl, he, hb⟩
  have h0 : tabD (tabOf b st) = none := tabD_of (isTab_tab b st)
  rw [h0] at he
  obtain rfl : ev = .nilIface := he
  rw [(life_txt hr).1, (life_txt hr).2]
  exact ⟨rfl, hb⟩
theorem even_okT (a : Option Addr) (n c : Nat) (b st : Nat) (W : World) (R : Nat → Addr) (hS : Sent W R) (hR : RK .i64 W a n (tabOf b st)) :
    Calls Tryd.prog 24 #[.slice a n c] W fun e w' => e = .returned (.tuple #[.bool true, .nilIface]) ∧ Below W.heap.size W w' := by
  refine (even_any a n c (tabOf b st) W R hS hR (by rw [hR.len, tabOf_len]; unfold maxLen; omega)).mono ?_
  rintro e w' ⟨ev, rfl, he, hb⟩
  have h0 : tabD (tabOf b st) = none := tabD_of (isTab_tab b st)
  rw [h0] at he
  obtain rfl : ev = .nilIface := he
  rw [evenO_ok h0, even_tab]
  exact ⟨rfl, hb⟩
theorem hex_okT (a : Option Addr) (n c : Nat) (s : ByteArray) (W : World) (R : Nat → Addr) (hS : Sent W R) (hR : SlI W a n c (fromO s)) (hd : fromD s = none) :
    Calls Tryd.prog 18 #[.slice a n c] W fun e w' => e = .returned (.tuple #[.string s, .nilIface]) ∧ Below W.heap.size W w' := by
  obtain ⟨h1, h2⟩ := hex_of_from hd
  refine (hex_any a n c (fromO s) W R hS hR).mono ?_
  rintro e w' ⟨ev, rfl, he, hb⟩
  rw [tabD_of h1] at he
  obtain rfl : ev = .nilIface := he
  unfold hexO
  rw [if_pos (tabD_of h1), h2]
  exact ⟨rfl, hb⟩
set_option maxHeartbeats 16000000 in
theorem plane_texts (s d : ByteArray) (W : World) (R : Nat → Addr) (hE : Env W R) (hsz : s.size ≤ maxLen) (hdz : d.size ≤ maxLen) :
    Calls Tryd.prog 8 #[.string s, .string d] W (TrueBelow W) := by
  have hsm : s.size ≤ 9223372036854775807 := hsz
  have hdm : d.size ≤ 9223372036854775807 := hdz
  have T0 := Tk.nil W
  have T1 := T0.add (fun wv => Below W.heap.size W wv) (bnil W)
  clear T0
  have T2 := T1.add (fun wv => Env wv R) (hE)
  clear T1
  clear hE
  go_enter Tryd.func8, Tryd.ntmps8
  go_wp2_with fail
  refine (awake22 W R (T2.out.2).sent).mono ?_; rintro e w1 ⟨rfl, hbw1⟩
  have T3 := T2.up hbw1
  clear T2
  go_wp2_with fail
  refine (life_any s w1 R (T3.out.2).sent).mono ?_; rintro e w2 ⟨a2, n2, c2, ev2, rfl, ho2, he2, hbw2⟩
  have T4 := T3.up hbw2
  clear T3
  have T5 := T4.add (fun wv => RK .i64 wv a2 n2 (lifeO s)) (ho2.rk)
  clear T4
  have T6 := T5.add (fun wv => EC R wv ev2 (lifeD s)) (he2)
  clear T5
  have hl2 := ho2.lmT
  clear ho2 he2
  go_wp2_with fail
  refine (reflife_any s w2).mono ?_; rintro e w3 ⟨a3, n3, c3, N3, a31, n31, c31, a32, n32, c32, rfl, ho3, hw3, hn3, hbw3⟩
  have T7 := T6.up hbw3
  clear T6
  have T8 := T7.add (fun wv => RK .i64 wv a3 n3 (lifeO s)) (ho3)
  clear T7
  have T9 := T8.add (fun wv => WC wv (.agg #[.int .i64 N3, .slice a31 n31 c31, .slice a32 n32 c32]) (lifeD s)) (hw3)
  clear T8
  clear ho3 hw3 hn3
  obtain ⟨w4, hw4⟩ : ∃ w4, w3.alloc (.cells #[.int .i64 N3, .slice a31 n31 c31, .slice a32 n32 c32] 48) = w4 := ⟨_, rfl⟩
  have hbw4 : Below w3.heap.size w3 w4 := by rw [← hw4]; exact balloc (bnil w3) _
  have T10 := T9.up hbw4
  clear T9
  have T11 := T10.add (fun wv => wv.cell? ⟨w3.heap.size, 0, none⟩ = some (.int .i64 N3) ∧ wv.cell? ⟨w3.heap.size, 1, none⟩ = some (.slice a31 n31 c31) ∧ wv.cell? ⟨w3.heap.size, 2, none⟩ = some (.slice a32 n32 c32)) (by rw [← hw4]; exact ⟨cnw (by simp) rfl, cnw (by simp) rfl, cnw (by simp) rfl⟩)
  clear T10
  have Hw4 := Lib.hid hw4
  clear hw4 hbw4
  go_wp2_with fail
  rw [Hw4.out]
  refine (from_any d w4 R (T11.out.1.1.1.1.1.2).sent hdz).mono ?_; rintro e w5 ⟨a5, n5, c5, ev5, rfl, ho5, he5, hbw5⟩
  have T12 := T11.up hbw5
  clear T11
  have hn5 : n5 ≤ 512 := by rw [ho5.rk.len]; exact fromO_le d
  have T13 := T12.add (fun wv => SlI wv a5 n5 c5 (fromO d)) (ho5.sl (by omega))
  clear T12
  have T14 := T13.add (fun wv => EC R wv ev5 (fromD d)) (he5)
  clear T13
  have hl5 := ho5.lmT
  clear ho5 he5
  go_wp2_with fail
  refine (reffrom_any d w5 hdz).mono ?_; rintro e w6 ⟨a6, n6, c6, N6, a61, n61, c61, a62, n62, c62, rfl, ho6, hw6, hn6, hbw6⟩
  have T15 := T14.up hbw6
  clear T14
  have T16 := T15.add (fun wv => RK .i64 wv a6 n6 (fromO d)) (ho6)
  clear T15
  have T17 := T16.add (fun wv => WC wv (.agg #[.int .i64 N6, .slice a61 n61 c61, .slice a62 n62 c62]) (fromD d)) (hw6)
  clear T16
  clear ho6 hw6 hn6
  obtain ⟨w7, hw7⟩ : ∃ w7, w6.alloc (.cells #[.int .i64 N6, .slice a61 n61 c61, .slice a62 n62 c62] 48) = w7 := ⟨_, rfl⟩
  have hbw7 : Below w6.heap.size w6 w7 := by rw [← hw7]; exact balloc (bnil w6) _
  have T18 := T17.up hbw7
  clear T17
  have T19 := T18.add (fun wv => wv.cell? ⟨w6.heap.size, 0, none⟩ = some (.int .i64 N6) ∧ wv.cell? ⟨w6.heap.size, 1, none⟩ = some (.slice a61 n61 c61) ∧ wv.cell? ⟨w6.heap.size, 2, none⟩ = some (.slice a62 n62 c62)) (by rw [← hw7]; exact ⟨cnw (by simp) rfl, cnw (by simp) rfl, cnw (by simp) rfl⟩)
  clear T18
  have Hw7 := Lib.hid hw7
  clear hw7 hbw7
  go_wp2_with fail
  rw [Hw7.out]
  refine (ints_eqB a2 a3 n2 n3 c2 c3 (lifeO s) w7 T19.out.1.1.1.1.1.1.1.1.1.2 T19.out.1.1.1.1.1.1.1.2 hl2).mono ?_; rintro e w8 ⟨rfl, hbw8⟩
  have T20 := T19.up hbw8
  clear T19
  have v_f0 : w8.cell? ⟨w3.heap.size, 0, none⟩ = some (.int .i64 N3) := T20.out.1.1.1.1.1.2.1
  have v_f1 : w8.cell? ⟨w3.heap.size, 1, none⟩ = some (.slice a31 n31 c31) := T20.out.1.1.1.1.1.2.2.1
  have v_f2 : w8.cell? ⟨w3.heap.size, 2, none⟩ = some (.slice a32 n32 c32) := T20.out.1.1.1.1.1.2.2.2
  go_wp2_with fail
  refine (rawIs_ch ev2 (.agg #[.int .i64 N3, .slice a31 n31 c31, .slice a32 n32 c32]) (lifeD s) w8 R T20.out.1.1.1.1.1.1.1.1.1.1.2 T20.out.1.1.1.1.1.1.1.1.2 T20.out.1.1.1.1.1.1.2).mono ?_; rintro e w9 ⟨rfl, hbw9⟩
  clear v_f0 v_f1 v_f2
  have T21 := T20.up hbw9
  clear T20
  go_wp2_with fail
  refine (ints_eqB a5 a6 n5 n6 c5 c6 (fromO d) w9 (T21.out.1.1.1.1.2).rk T21.out.1.1.2 hl5).mono ?_; rintro e x1 ⟨rfl, hbx1⟩
  have T22 := T21.up hbx1
  clear T21
  have v_g0 : x1.cell? ⟨w6.heap.size, 0, none⟩ = some (.int .i64 N6) := T22.out.2.1
  have v_g1 : x1.cell? ⟨w6.heap.size, 1, none⟩ = some (.slice a61 n61 c61) := T22.out.2.2.1
  have v_g2 : x1.cell? ⟨w6.heap.size, 2, none⟩ = some (.slice a62 n62 c62) := T22.out.2.2.2
  go_wp2_with fail
  refine (rawIs_ch ev5 (.agg #[.int .i64 N6, .slice a61 n61 c61, .slice a62 n62 c62]) (fromD d) x1 R T22.out.1.1.1.1.1.1.1.1.1.1.2 T22.out.1.1.1.2 T22.out.1.2).mono ?_; rintro e x2 ⟨rfl, hbx2⟩
  clear v_g0 v_g1 v_g2
  have T23 := T22.up hbx2
  clear T22
  by_cases hl : lifeD s = none
  · skip
    obtain rfl : ev2 = .nilIface := by have h := T23.out.1.1.1.1.1.1.1.1.2; rw [hl] at h; exact h
    obtain ⟨b, st, hlr, hlo⟩ := lifeO_ok hl
    have HLR := Lib.hid hlr
    have ho2 : RK .i64 x2 a2 n2 (tabOf b st) := by rw [← hlo]; exact T23.out.1.1.1.1.1.1.1.1.1.2
    clear hl hlr hlo
    have T24 := T23.add (fun wv => RK .i64 wv a2 n2 (tabOf b st)) (ho2)
    clear T23
    clear ho2
    go_wp2_with fail
    refine (text_okT a2 n2 c2 s b st x2 R (T24.out.1.1.1.1.1.1.1.1.1.1.1.2).sent T24.out.2 HLR.out).mono ?_; rintro e y1 ⟨rfl, hby1⟩
    have T25 := T24.up hby1
    clear T24
    go_wp2_with fail
    refine (even_okT a2 n2 c2 b st y1 R (T25.out.1.1.1.1.1.1.1.1.1.1.1.2).sent T25.out.2).mono ?_; rintro e y2 ⟨rfl, hby2⟩
    have T26 := T25.up hby2
    clear T25
    by_cases hf : fromD d = none
    · skip
      obtain rfl : ev5 = .nilIface := by have h := T26.out.1.1.1.1.2; rw [hf] at h; exact h
      have HF := Lib.hid hf
      clear hf
      go_wp2_with fail
      refine (hex_okT a5 n5 c5 d y2 R (T26.out.1.1.1.1.1.1.1.1.1.1.1.2).sent T26.out.1.1.1.1.1.2 HF.out).mono ?_; rintro e z1 ⟨rfl, hbz1⟩
      have T27 := T26.up hbz1
      clear T26
      go_wp2
      go_ret
      exact ⟨rfl, T27.out.1.1.1.1.1.1.1.1.1.1.1.1.2⟩
    obtain ⟨t9, p9, rfl⟩ : ∃ t p, ev5 = .iface t p := by
      have h := T26.out.1.1.1.1.2
      cases hq : fromD d with
      | none => exact absurd hq hf
      | some x =>
        rw [hq] at h
        obtain ⟨t, p, e⟩ := Chain.iface h
        exact ⟨t, _, e⟩
    clear hf
    go_wp2
    go_ret
    exact ⟨rfl, T26.out.1.1.1.1.1.1.1.1.1.1.1.1.2⟩
  obtain ⟨t8, p8, rfl⟩ : ∃ t p, ev2 = .iface t p := by
    have h := T23.out.1.1.1.1.1.1.1.1.2
    cases hq : lifeD s with
    | none => exact absurd hq hl
    | some x =>
      rw [hq] at h
      obtain ⟨t, p, e⟩ := Chain.iface h
      exact ⟨t, _, e⟩
  clear hl
  by_cases hf : fromD d = none
  · skip
    obtain rfl : ev5 = .nilIface := by have h := T23.out.1.1.1.2; rw [hf] at h; exact h
    have HF := Lib.hid hf
    clear hf
    go_wp2_with fail
    refine (hex_okT a5 n5 c5 d x2 R (T23.out.1.1.1.1.1.1.1.1.1.1.2).sent T23.out.1.1.1.1.2 HF.out).mono ?_; rintro e z1 ⟨rfl, hbz1⟩
    have T24 := T23.up hbz1
    clear T23
    go_wp2
    go_ret
    exact ⟨rfl, T24.out.1.1.1.1.1.1.1.1.1.1.1.2⟩
  obtain ⟨t9, p9, rfl⟩ : ∃ t p, ev5 = .iface t p := by
    have h := T23.out.1.1.1.2
    cases hq : fromD d with
    | none => exact absurd hq hf
    | some x =>
      rw [hq] at h
      obtain ⟨t, p, e⟩ := Chain.iface h
      exact ⟨t, _, e⟩
  clear hf
  go_wp2
  go_ret
  exact ⟨rfl, T23.out.1.1.1.1.1.1.1.1.1.1.1.2⟩
end Go.Proofs.YtocfkmdoalhjmaaDoor
namespace Go.Proofs.YtocfkmdoalhjmaaDoor
open Go.ChangeShapes Go.WideShapes Go.ChangeAt Go.RowKit
set_option linter.unusedVariables false

theorem door_met (os : Os) (args : Array Value) : laidMetH Tryd.prog Rows.planeTextsRow.laid ((World.doorLaid Tryd.prog 4000 os).forCall (fun _ _ => 0) ⟨#[], args, []⟩).memory :=
  laidMetH_of_parts (laidMet_of_run' 8 (by kernel_rfl) (by kernel_rfl)) (by kernel_rfl)

set_option maxRecDepth 100000 in
theorem lifted (os : Os) (started : os.Started) (H : Type) (enc : TypeId × Value → H) :
    ReturnsInHanded {} Tryd.checked os 8 .any (fun w args => (Rows.planeTextsSpec.pre enc Tryd.prog Tryd.f8 Rows.planeTextsRow.domain false w args ∧ laidMetH Tryd.prog Rows.planeTextsRow.laid w) ∧ sizedMet enc Tryd.prog Tryd.f8 (OpenSpec.ofChange Rows.planeTextsSpec) false w args)
      (Rows.planeTextsSpec.post enc Tryd.prog Tryd.f8 false true false false) := by
  refine returnsInHanded_of_change_and (C := Tryd.checked) (X := fun w _ => laidMetH Tryd.prog Rows.planeTextsRow.laid w) (fun _ _ _ hh h => h.of_heap hh) own started (by kernel_rfl) Tryd.func8
    (ChangeSpec.witness_shaped (enc := enc) (C := Tryd.checked) (os := os) (X := fun w _ => laidMetH Tryd.prog Rows.planeTextsRow.laid w) false (World.doorLaid Tryd.prog 4000 os) #[.string ByteArray.empty, .string ByteArray.empty] 8 rfl (World.shaped_of_RefB (by kernel_rfl) (by kernel_rfl)) (by kernel_rfl) (by kernel_rfl) (by kernel_rfl) (door_met os _)) ?_
  intro W base args ds gs before hval0 hW hcnd hzz hL hSH
  have hval : ∀ (j : Nat) t v, Tryd.f8.params[j]? = some t → args[j]? = some v → Value.okWide Tryd.prog W .any base t v := hval0
  have hW' := hW
  obtain ⟨p, q, hA0, hV, rfl, hfz, hnd⟩ := hW
  have hA : DataW.TrodAll enc Tryd.prog W 0 (fun _ => true) true Tryd.f8.params.toList args.toList ds p := hA0
  rw [Tryd.params8] at hA hval hzz
  obtain ⟨v0, vs0, d0, ds0, p0, q0, hargs, rfl, rfl, h0, r0⟩ := trodAll_cons hA
  obtain ⟨v1, vs1, d1, ds1, p1, q1, rfl, rfl, rfl, h1, r1⟩ := trodAll_cons r0
  obtain ⟨rfl, rfl, rfl⟩ := trodAll_nil r1
  obtain rfl : args = #[v0, v1] := by cases args; simp_all
  obtain ⟨rfl, rfl⟩ := trodVars_none hV
  obtain ⟨s0, rfl, rfl, rfl, w0⟩ := Go.ChangeMaps.open_string Tryd.underlying9 (hval 0 9 v0 rfl rfl) h0
  obtain ⟨s1, rfl, rfl, rfl, w1⟩ := Go.ChangeMaps.open_string Tryd.underlying9 (hval 1 9 v1 rfl rfl) h1
  obtain ⟨R, hS⟩ := env_of_laid hL
  clear hA0 hval0
  refine (plane_texts s0 s1 W R hS w0 w1).mono fun e W' ⟨he, bel⟩ => ?_
  subst he
  exact ⟨_, rfl, _, _, _, [], _, [], hW', trodAll_mk1 (shut_bool Tryd.underlying4 _), (trodAll_cons_mk (Go.ChangeMaps.shut_string Tryd.underlying9 w0) (trodAll_cons_mk (Go.ChangeMaps.shut_string Tryd.underlying9 w1) trodAll_mk0)), rfl, bel.frame _, fun h => by cases h⟩

theorem row_holds : Rows.PlaneTextsSaid :=
  OpenClaim.holds_of_wide 8 Tryd.f8 rfl rfl rfl rfl rfl rfl rfl ⟨rfl, rfl, rfl, rfl, rfl⟩ rfl rfl rfl rfl rfl (by kernel_rfl) Tryd.func8 (by kernel_rfl)
    (of_decide_eq_true (by kernel_rfl)) (by unfold Func.isWrapper; first | (rw [if_pos (by decide +kernel)]; kernel_rfl) | (rw [if_neg (by decide +kernel)]; exact ⟨rfl, rfl⟩))
    (fun os started H enc _ => lifted os started H enc)

theorem card_holds : Rows.PlaneTextsCardSaid :=
  Claim7.holds_tied_plain_at .later [] Rows.planeTextsCard.laidKinds true Rows.planeTextsCard.stood.harness true
    row_holds (fun _ h => by cases h) (by kernel_rfl) (fun _ h => by cases h) planeTexts_row_tie rfl ⟨rfl, rfl⟩ (by kernel_rfl) rfl
    (fun f fn hf hfn => by
      obtain rfl : f = 8 := Option.some.inj ((show Tryd.prog.funcNamed "eden/edenlaw22.PlaneTexts" = some 8 by kernel_rfl).symm.trans hf) |>.symm
      obtain rfl : fn = Tryd.f8 := (Option.some.inj (Tryd.func8.symm.trans hfn)).symm
      exact ⟨by kernel_rfl, fun j t ht => by
        rw [Tryd.params8] at ht
        have hm : t ∈ [9, 9] := by simpa using Array.mem_of_getElem? ht
        have hall : ([9, 9].all fun u => !Tryd.prog.wantsStandIn u) = true := by kernel_rfl
        exact (show Tryd.prog.wantsStandIn t = false by simpa using List.all_eq_true.1 hall t hm)⟩)
    (by kernel_rfl)
#print axioms card_holds
end Go.Proofs.YtocfkmdoalhjmaaDoor
