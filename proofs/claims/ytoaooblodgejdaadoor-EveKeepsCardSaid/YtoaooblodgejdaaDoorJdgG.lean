/- edenlaw24.awake. -/
import Derived.Deep.Cut
import Derived.Test.YtoaooblodgejdaaDoorJdgF
import Derived.Test.YtoaooblodgejdaaDoorLent
namespace Go.Proofs.YtoaooblodgejdaaDoor
open Go.RowKit
set_option linter.unusedVariables false
set_option maxRecDepth 100000
def tab0 : List Int := List.replicate 512 0
theorem fullOk : EncOk 1 1 L64 := ⟨by omega, by omega, by omega, by omega, by decide, by decide +kernel⟩
theorem run_0 : judgeRun tab0 [1] 1 8 L64 0 [] 0 0 = (512, none) := by decide +kernel
theorem run_1 : judgeRun tab0 [0] 1 8 L64 0 [] 0 0 = (1, some 4) := by decide +kernel
theorem gv_0 : gvD tab0 1 1 [1] = none := by kernel_rfl
theorem gv_1 : gvD tab0 1 1 [0] = none := by kernel_rfl
theorem col_0 : colL 1 1 [1] = [1] := by decide
theorem col_1 : colL 1 1 [0] = [0] := by decide
theorem jf_0 : judgeF tab0 1 1 [1] (encL 1 1 L64) = (512, none) := by
  have h := judgeF_run (w := 1) (h := 1) (L := L64) (JR := (512, none)) gv_0 (decF_enc fullOk) (by rw [col_0]; exact run_0)
  exact h
theorem jf_1 : judgeF tab0 1 1 [0] (encL 1 1 L64) = (1, some ([(opJudge, 4)], 8)) := by
  have h := judgeF_run (w := 1) (h := 1) (L := L64) (JR := (1, some 4)) gv_1 (decF_enc fullOk) (by rw [col_1]; exact run_1)
  exact h
theorem mk512 : ∃ ZC : Array Value, ZC.toList = tab0.map (Value.int .i64) ∧ ∀ w : World, (Instr.makeSlice 22 (.int .i64 512) (.int .i64 512)).run Tryd.prog w = .ok (.slice (some ⟨w.heap.size, 0, none⟩) 512 512) (w.alloc (.cells ZC 3)) := by
  obtain ⟨i, h2, h3, h4, h5⟩ := et_int.hi
  refine ⟨madeCells (Value.int .i64 0).cells (512 * 1), made_i64' 512, fun w => ?_⟩
  have h := run_makeSlice (P := Tryd.prog) w 22 3 i (.int .i64 0) et_int.ht h2 h3 .i64 .i64 512 512 (by omega) (by omega) (by rw [h4]; decide) (by rw [h5]; decide) (by omega)
  rw [h4] at h
  exact h
theorem RK.drw {k : IntKind} {w : World} {a : Option Addr} {n : Nat} {l : List Int} (h : RK k w a n l) : RK k w.drew a n l := h.up (Below.drew (bnil w))
theorem tab0_len : tab0.length = 512 := List.length_replicate
theorem rkV (v : Int) {w : World} {g : Nat} (hg : g = w.heap.size) : RK .i64 (w.alloc (.cells #[.int .i64 v] 3)) (some ⟨g, 0, none⟩) 1 [v] := rk_new hg rfl rfl
theorem rkZ {ZC : Array Value} (hz : ZC.toList = tab0.map (Value.int .i64)) {w : World} {g : Nat} (hg : g = w.heap.size) : RK .i64 (w.alloc (.cells ZC 3)) (some ⟨g, 0, none⟩) 512 tab0 := rk_new hg hz tab0_len.symm
theorem i64_1 : I64 [1] := by intro x hx; simp at hx; omega
theorem i64_0 : I64 [0] := by intro x hx; simp at hx; omega
theorem full_len : (encL 1 1 L64).length = 196 := by rw [encL_len, L64_len]
theorem full_bd : ∀ x ∈ encL 1 1 L64, 0 ≤ x ∧ x ≤ 255 := encL_bd fullOk
theorem judge_0 (v : Int) (hv : I64 [v]) (y : Nat × ErrD) (hy : judgeF tab0 1 1 [v] (encL 1 1 L64) = y) (a aT aB : Option Addr) (c cT cB : Nat) (W : World) (R : Nat → Addr) (hS : Sent W R) (hR : RK .i64 W a 1 [v]) (hT : RK .i64 W aT 512 tab0) (hB : RK .u8 W aB 196 (encL 1 1 L64)) :
    Calls Tryd.prog 44 #[.slice aT 512 cT, .agg #[.int .i64 1, .int .i64 1, .slice a 1 c], .slice aB 196 cB] W (JRet R W y) := by
  have h := judge_any 1 1 a aT aB 1 c 512 cT cB [v] tab0 (encL 1 1 L64) W R hS hR (by unfold maxLen; omega) hv hT (by unfold maxLen; omega) (by rw [full_len]; exact hB) full_bd (by rw [full_len]; unfold maxLen; omega)
  rw [full_len, hy] at h
  exact h
set_option maxHeartbeats 16000000 in
theorem awake24_any (W : World) (R : Nat → Addr) (hE : Env W R) : Calls Tryd.prog 51 #[] W fun e w' => e = .returned (.bool true) ∧ Below W.heap.size W w' := by
  have HE := Lib.hid hE
  clear hE
  obtain ⟨ZC, hzl, hmk⟩ := mk512
  have HZ := Lib.hid hzl
  clear hzl
  have D0 : Hid (Below W.heap.size W W.drew) := Below.drew (bnil W)
  have HJ : Hid (∀ (w : World) (a aT aB : Option Addr) (c cT cB : Nat), Below W.heap.size W w → RK .i64 w a 1 [1] → RK .i64 w aT 512 tab0 → RK .u8 w aB 196 (encL 1 1 L64) → Calls Tryd.prog 44 #[.slice aT 512 cT, .agg #[.int .i64 1, .int .i64 1, .slice a 1 c], .slice aB 196 cB] w (fun e w' => e = .returned (.tuple #[.int .i64 512, .nilIface]) ∧ Below W.heap.size W w')) := by
    intro w a aT aB c cT cB hb h1 h2 h3
    refine (judge_0 1 i64_1 _ jf_0 a aT aB c cT cB w R ((HE.out.sent).up hb) h1 h2 h3).mono ?_
    rintro e w2 ⟨ev, rfl, he, hb2⟩
    obtain rfl : ev = .nilIface := he
    exact ⟨rfl, bstep hb hb2⟩
  go_enter Tryd.func51, Tryd.ntmps51
  go_upto_region 1 with (fail)
  go_cut [1, 2] from 5 (fun s1 s2 wx => s1 = .int .i64 512 ∧ s2 = .nilIface ∧ Below W.heap.size W wx)
  case first =>
    go_region_held3 (fun _ => True)
      (exact trivial)
      (first
        | (go_at_call 96; refine (full_any _).mono ?_; rintro e w1 ⟨a1, c1, rfl, hR1, hb1⟩; have HR1 := Lib.hid hR1; have HB1 := Lib.hid hb1; clear hR1 hb1)
        | (go_at_call 44; refine (HJ.out _ _ _ _ _ _ _ ?_ ?_ ?_ ?_).mono ?_; (focus repeat (first | with_reducible exact bnil _ | with_reducible exact D0.out | with_reducible refine Below.drew ?_ | with_reducible refine balloc ?_ _ | with_reducible refine bstep ?_ HB1.out)); (focus repeat (first | with_reducible exact rkV _ (by simp) | with_reducible refine RK.up ?_ HB1.out | with_reducible refine RK.drw ?_ | with_reducible refine RK.al ?_ _)); (focus repeat (first | with_reducible exact rkZ HZ.out (by simp) | with_reducible refine RK.up ?_ HB1.out | with_reducible refine RK.drw ?_ | with_reducible refine RK.al ?_ _)); (focus repeat (first | with_reducible exact HR1.out | with_reducible refine RK.drw ?_ | with_reducible refine RK.al ?_ _)); (rintro e w2 ⟨rfl, hb2⟩; have HB2 := Lib.hid hb2; clear hb2)))
    all_goals
      go_wp2_with fail
      go_meet
      exact ⟨rfl, rfl, HB2.out⟩
  case rest =>
    obtain ⟨rfl, rfl, hbc⟩ := hcut
    have HBC := Lib.hid hbc
    have D1 : Hid (Below wc.heap.size wc wc.drew) := Below.drew (bnil wc)
    have HEC : Hid (Env wc R) := HE.out.up hbc
    clear hbc D0 HJ
    have HJ : Hid (∀ (w : World) (a aT aB : Option Addr) (c cT cB : Nat), Below wc.heap.size wc w → RK .i64 w a 1 [0] → RK .i64 w aT 512 tab0 → RK .u8 w aB 196 (encL 1 1 L64) → Calls Tryd.prog 44 #[.slice aT 512 cT, .agg #[.int .i64 1, .int .i64 1, .slice a 1 c], .slice aB 196 cB] w (fun e w' => ∃ t p, e = .returned (.tuple #[.int .i64 1, .iface t p]) ∧ EC R w' (.iface t p) (some ([(opJudge, 4)], 8)) ∧ Below wc.heap.size wc w')) := by
      intro w a aT aB c cT cB hb h1 h2 h3
      refine (judge_0 0 i64_0 _ jf_1 a aT aB c cT cB w R ((HEC.out.sent).up hb) h1 h2 h3).mono ?_
      rintro e w2 ⟨ev, rfl, he, hb2⟩
      obtain ⟨t9, p9, rfl⟩ := Chain.iface he
      exact ⟨t9, .pointer (some p9), rfl, he, bstep hb hb2⟩
    go_upto_region 2 with (fail)
    go_cut [3, 4] from 5 (fun s3 s4 wx => s3 = .int .i64 1 ∧ Below wc.heap.size wc wx ∧ EC R wx s4 (some ([(opJudge, 4)], 8)))
    case first =>
      go_region_held3 (fun _ => True)
        (exact trivial)
        (first
          | (go_at_call 96; refine (full_any _).mono ?_; rintro e w1 ⟨a1, c1, rfl, hR1, hb1⟩; have HR1 := Lib.hid hR1; have HB1 := Lib.hid hb1; clear hR1 hb1)
          | (go_at_call 44; refine (HJ.out _ _ _ _ _ _ _ ?_ ?_ ?_ ?_).mono ?_; (focus repeat (first | with_reducible exact bnil _ | with_reducible exact D1.out | with_reducible refine Below.drew ?_ | with_reducible refine balloc ?_ _ | with_reducible refine bstep ?_ HB1.out)); (focus repeat (first | with_reducible exact rkV _ (by simp) | with_reducible refine RK.up ?_ HB1.out | with_reducible refine RK.drw ?_ | with_reducible refine RK.al ?_ _)); (focus repeat (first | with_reducible exact rkZ HZ.out (by simp) | with_reducible refine RK.up ?_ HB1.out | with_reducible refine RK.drw ?_ | with_reducible refine RK.al ?_ _)); (focus repeat (first | with_reducible exact HR1.out | with_reducible refine RK.drw ?_ | with_reducible refine RK.al ?_ _)); (rintro e w2 ⟨t9, p9, rfl, he2, hb2⟩; have HB2 := Lib.hid hb2; have HE2 := Lib.hid he2; clear hb2 he2)))
      all_goals
        go_wp2_with fail
        go_meet
        exact ⟨rfl, HB2.out, HE2.out⟩
    case rest =>
      obtain ⟨rfl, hb3, he3⟩ := hcut
      have HE3 := Lib.hid he3
      have HB3 := Lib.hid hb3
      clear he3 hb3
      go_wp2_with (first
        | (go_at_call 41; refine (rawNew_want opJudge 4 8 _ rfl).mono ?_; rintro e w4 ⟨ao, aa, co, ca, rfl, hw4, hb4⟩; have HW4 := Lib.hid hw4; have HB4 := Lib.hid hb4; clear hw4 hb4)
        | (go_at_call 32; refine (rawIs_ch _ _ (some ([(opJudge, 4)], 8)) w4 R ((HEC.out.up HB3.out).up HB4.out) (HE3.out.up HB4.out) (wc_want HW4.out)).mono ?_; rintro e w5 ⟨rfl, hb5⟩; have HB5 := Lib.hid hb5; clear hb5))
      go_ret
      exact ⟨rfl, HBC.out.trans (((HB3.out.trans (HB4.out.mono HB3.out.size)).trans (HB5.out.mono (Nat.le_trans HB3.out.size HB4.out.size))).mono HBC.out.size)⟩
end Go.Proofs.YtoaooblodgejdaaDoor
