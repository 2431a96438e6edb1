/- edenlaw24.full. edenlaw24.awake. edenref24.Most, edenlaw24.heavy; edenlaw24.JudgeCost returns true. edenlaw24.JudgeCost returns true. JudgeCost: the row's statement and its tied card: for every input the law's call returns true, and the arguments read as before. No condition beside the row's own (the listed package-level variables read as the program's text lays them). -/
import Derived.Test.YtocfkmdoalhjmaaDoorJdgD
import Derived.Test.YtocfkmdoalhjmaaDoorEncL
import Derived.Lib.SlBytesConst
import Derived.Test.YtocfkmdoalhjmaaDoorErrH
import Derived.Test.YtocfkmdoalhjmaaDoorLent
import Derived.Test.YtocfkmdoalhjmaaDoorSl
import Derived.Test.YtocfkmdoalhjmaaDoorEnvLaid
import Derived.Test.YtocfkmdoalhjmaaDoorOpenInts
import Derived.Test.YtocfkmdoalhjmaaDoorOpenPat
import Derived.Test.YtocfkmdoalhjmaaDoorCards
import Derived.Test.YtocfkmdoalhjmaaDoorTie
import Derived.ProofKit
import Derived.OpenShut
import Derived.ChangeOld
import Derived.ChangeVars
import Derived.LaidMore
import Derived.LaidHandle
import Derived.MakeChecks
import Derived.Stop.Joined
import Derived.SevenTiedAt
namespace Go.Proofs.YtocfkmdoalhjmaaDoor
open Go.RowKit
set_option linter.unusedVariables false
set_option maxRecDepth 100000

section
variable {P : Program} {ops : Array Oper} {rest : List Oper} {o : Oper} {a : Act} {Q : Exit → Act → World → Prop}
/-- append onto a literal that is full: a new row -/
theorem appgN {w : World} (hg : o.guard = none) (s x : Operand) (t : TypeId) (hop : o.op = .call { callee := .builtin .append, args := #[s, x], argTypes := #[t, t] })
    {e : TypeId} {z : Value} {bytes : Nat} (T : ET P t e z 1 bytes) (g q : Nat) (us : List Value) (hq : us.length = q) (hs : a.eval s = .slice (some ⟨g, 0, none⟩) q q) (hu : ∀ j v, us[j]? = some v → w.cell? ⟨g, j, none⟩ = some v)
    (ad : Option Addr) (m c : Nat) (news : List Value) (hx : a.eval x = .slice ad m c) (hm : 0 < m) (hR : Rd w ad m 1 news) (b1 : q + m ≤ maxLen) (b2 : (q + m) * bytes ≤ 140737488355328)
    (hK : ∀ g' c' w', g' = w.heap.size → w'.ownsRow w.heap.size e 1 (.slice (some ⟨g', 0, none⟩) (q + m) c') (q + m) (us ++ news) → Below w.heap.size w w' → wpList P ops Q rest (a.put o.dst (.slice (some ⟨g', 0, none⟩) (q + m) c')) w') :
    wpList P ops Q (o :: rest) a w := by
  refine wpList_plain hg fun K hK' => ?_
  obtain ⟨i, hi, hz, h4, h5⟩ := T.hi
  have hzs := T.hzs
  subst h5
  obtain ⟨b, of, rfl, hlt, hc⟩ : ∃ b o, ad = some ⟨b, o, none⟩ ∧ b < w.heap.size ∧ ∀ j v, news[j]? = some v → w.cell? ⟨b, o + j, none⟩ = some v := by
    rcases hR.2 with h0 | h
    · omega
    · exact h
  have hl : news.length = m * i.size := by rw [h4]; exact hR.1
  have hrun := run_append_grow (P := P) (w := w) t o.type e i z T.ht hi hz ⟨g, 0, none⟩ q q us (by rw [h4, hq]; omega) (fun j v hv => by rw [Addr.add_lit]; simpa using hu j v hv) ⟨b, of, none⟩ m c news hl (fun j v hv => by rw [Addr.add_lit]; exact hc j v hv) (by omega) (by unfold maxLen at b1; omega) (growslice_fits (by omega) b2)
  have hge := grownCap_ge w (q + m) q e
  have hcm : grownCap w (q + m) q e ≤ maxLen := grownCap_le_maxLen w (q + m) q e b1
  have hbel : Below w.heap.size w (w.drew.alloc (.cells (us.toArray ++ news.toArray ++ Builtin.zeroCells z.cells (grownCap w (q + m) q e - (q + m))) e)) := (Below.drew (bnil w)).alloc (Nat.le_refl _) _
  have hn1 : news.length = m := by rw [hl, h4, Nat.mul_one]
  have hown : (w.drew.alloc (.cells (us.toArray ++ news.toArray ++ Builtin.zeroCells z.cells (grownCap w (q + m) q e - (q + m))) e)).ownsRow w.heap.size e 1 (.slice (some ⟨w.heap.size, 0, none⟩) (q + m) (grownCap w (q + m) q e)) (q + m) (us ++ news) := by
    refine ⟨by simp; omega, .inr ⟨w.heap.size, _, _, rfl, Nat.le_refl _, heap_alloc_new w.drew _, hge, hcm, ?_, ?_⟩⟩
    · simp only [Array.size_append, List.size_toArray, size_zeroCells, hzs, hn1, hq]
      omega
    · simp only [Array.toList_append, List.append_assoc]
      rw [← List.append_assoc]
      rw [show (q + m) * 1 = (us ++ news).length by simp; omega]
      exact List.take_left
  unfold Oper.wp
  simp [execOp, hop, resolve, invoke, builtin, hs, hx, Result.andThen]
  rw [hrun]
  exact hK' _ _ (hK _ _ _ rfl hown hbel)
end
theorem lit_rdJ {w : World} {cs : Array Value} {e : TypeId} : Rd (w.alloc (.cells cs e)) (some ⟨w.heap.size, 0, none⟩) cs.size 1 cs.toList := rd_new rfl (by simp)
/-- the entries of one column, all of them -/
def L64 : List (Int × Int × Int) := (List.range 64).map fun i => (0, ((i / 8 : Nat) : Int), ((i % 8 : Nat) : Int))
theorem L64_len : L64.length = 64 := rfl
theorem L64_at {n : Nat} (hn : n < 64) : L64.take (n + 1) = L64.take n ++ [((0 : Int), ((n / 8 : Nat) : Int), ((n % 8 : Nat) : Int))] := by
  have hl : n < L64.length := hn
  rw [List.take_succ_eq_append_getElem hl]
  simp [L64]
theorem encL_snoc (w h : Int) (l : List (Int × Int × Int)) (x : Int × Int × Int) : encL w h (l ++ [x]) = encL w h l ++ [x.1, x.2.1, x.2.2] := by simp [encL, flat3]
def FullPost (W : World) (e : Ending) (w' : World) : Prop := ∃ a c, e = .returned (.slice a 196 c) ∧ RK .u8 w' a 196 (encL 1 1 L64) ∧ Below W.heap.size W w'
set_option maxHeartbeats 16000000 in
theorem full_any (W : World) : Calls Tryd.prog 82 #[] W (FullPost W) := by
  have kc := fun (w : World) (C : Array Value) (n c : Nat) => Lib.run_convert_bytes_const (P := Tryd.prog) w 67 5 C n c Tryd.underlying67 Tryd.underlying5
  go_enter Tryd.func82, Tryd.ntmps82
  go_wp2_with fail
  clear kc
  go_loopw [1, 2] (fun bx ix wr => ∃ n : Nat, n ≤ 64 ∧ ix = .int .i64 (n : Nat) ∧ ((n = 0 ∧ bx = .slice (some ⟨W.heap.size, 0, none⟩) 4 4 ∧ ∀ j v, ((encL 1 1 []).map (Value.int .u8))[j]? = some v → wr.cell? ⟨W.heap.size, j, none⟩ = some v) ∨ (∃ a c, bx = .slice a (4 + 3 * n) c ∧ wr.ownsRow W.heap.size 5 1 (.slice a (4 + 3 * n) c) (4 + 3 * n) ((encL 1 1 (L64.take n)).map (Value.int .u8)))) ∧ Below W.heap.size W wr) (fun _ ix _ => 64 - (intOf ix).toNat)
  case atStart => exact ⟨0, by omega, rfl, .inl ⟨rfl, rfl, fun j v h => by
      rw [World.cell?_alloc_mark]
      first | exact h | (simp only [List.getElem?_toArray]; exact h)⟩, balloc (bnil W) _⟩
  case round =>
    obtain ⟨n, hn, rfl, ho, hb⟩ := hrel
    generalize wr = wo at *
    have HO := Lib.hid ho
    have HB := Lib.hid hb
    have hsz := hb.size
    clear ho hb
    by_cases hn64 : n < 64
    · have hla : (encL 1 1 (L64.take (n + 1))).map (Value.int .u8) = (encL 1 1 (L64.take n)).map (Value.int .u8) ++ [Value.int .u8 0, Value.int .u8 ((n : Int) / 8), Value.int .u8 ((n : Int) % 8)] := by
        rw [L64_at hn64, encL_snoc, List.map_append]
        rfl
      have HLA := Lib.hid hla
      clear hla
      rcases HO.out with ⟨h0, rfl, hcl⟩ | ⟨a, c, rfl, hown⟩
      · subst h0
        have HCL : Hid (∀ (ob : Obj) j v, ((encL 1 1 []).map (Value.int .u8))[j]? = some v → (wo.alloc ob).cell? ⟨W.heap.size, j, none⟩ = some v) := fun ob j v h => al000 (hcl j v h)
        clear hcl
        go_wp2_with (first
          | (at_builtin; refine appgN rfl _ _ _ rfl et_u8 W.heap.size 4 ((encL 1 1 []).map (Value.int .u8)) rfl rfl (HCL.out _) _ 3 3 _ rfl (by omega) lit_rdJ (by unfold maxLen; omega) (by omega) ?_; intro g6 c6 w6 hg6 ho6 hb6; clear hg6))
        have hbq : Below wo.heap.size wo w6 := bstep (balloc (bnil wo) _) hb6
        have HO6 : Hid (w6.ownsRow W.heap.size 5 1 (.slice (some ⟨g6, 0, none⟩) (4 + 3 * (0 + 1)) c6) (4 + 3 * (0 + 1)) ((encL 1 1 (L64.take (0 + 1))).map (Value.int .u8))) := by
          show World.ownsRow _ _ _ _ _ _ _
          rw [HLA.out]
          exact owns_base ho6 (by simp; omega)
        clear ho6 hb6
        go_roundw
        case rel => exact ⟨1, by omega, by go_num, .inr ⟨_, _, rfl, HO6.out⟩, HB.out.trans (hbq.mono hsz)⟩
        case measure => simp [intOf]
      · have HOW := Lib.hid hown
        clear hown HO
        go_wp2_with (first
          | (at_builtin; refine app_lit rfl _ _ _ rfl W.heap.size et_u8 _ (4 + 3 * n) _ HOW.out rfl 3 _ _ rfl (by simp) rfl rfl (by unfold maxLen; omega) (by omega) (by omega) ?_; intro a3 c3 w3 hown3 hgr3 hb3 hsz3))
        have HO6 : Hid (w3.ownsRow W.heap.size 5 1 (.slice a3 (4 + 3 * (n + 1)) c3) (4 + 3 * (n + 1)) ((encL 1 1 (L64.take (n + 1))).map (Value.int .u8))) := by
          show World.ownsRow _ _ _ _ _ _ _
          rw [HLA.out]
          exact hown3
        clear hown3
        go_roundw
        case rel => exact ⟨n + 1, by omega, by go_num, .inr ⟨_, _, rfl, HO6.out⟩, HB.out.trans hb3⟩
        case measure => simp [intOf]; omega
    · obtain rfl : n = 64 := by omega
      rcases HO.out with ⟨h0, rfl, hcl⟩ | ⟨a, c, rfl, hown⟩
      · omega
      · have HOW := Lib.hid hown
        clear hown HO
        go_wp2
        go_ret
        refine ⟨_, _, rfl, ⟨rfl, (owns_rd HOW.out).2⟩, HB.out⟩
end Go.Proofs.YtocfkmdoalhjmaaDoor
namespace Go.Proofs.YtocfkmdoalhjmaaDoor
open Go.RowKit
set_option linter.unusedVariables false
set_option maxRecDepth 100000
def tab0 : List Int := List.replicate 512 0
theorem fullOk : EncOk 1 1 L64 := ⟨by omega, by omega, by omega, by omega, by decide, by decide +kernel⟩
theorem run_0 : judgeRun tab0 [1] 1 8 L64 0 [] 0 0 = (512, none) := by decide +kernel
theorem run_1 : judgeRun tab0 [0] 1 8 L64 0 [] 0 0 = (1, some 4) := by decide +kernel
theorem gv_0 : gvD tab0 1 1 [1] = none := by kernel_rfl
theorem gv_1 : gvD tab0 1 1 [0] = none := by kernel_rfl
theorem col_0 : colL 1 1 [1] = [1] := by decide
theorem col_1 : colL 1 1 [0] = [0] := by decide
theorem jf_0 : judgeF tab0 1 1 [1] (encL 1 1 L64) = (512, none) := by
  have h := judgeF_run (w := 1) (h := 1) (L := L64) (JR := (512, none)) gv_0 (decF_enc fullOk) (by rw [col_0]; exact run_0)
  exact h
theorem jf_1 : judgeF tab0 1 1 [0] (encL 1 1 L64) = (1, some ([(opJudge, 4)], 8)) := by
  have h := judgeF_run (w := 1) (h := 1) (L := L64) (JR := (1, some 4)) gv_1 (decF_enc fullOk) (by rw [col_1]; exact run_1)
  exact h
theorem mk512 : ∃ ZC : Array Value, ZC.toList = tab0.map (Value.int .i64) ∧ ∀ w : World, (Instr.makeSlice 22 (.int .i64 512) (.int .i64 512)).run Tryd.prog w = .ok (.slice (some ⟨w.heap.size, 0, none⟩) 512 512) (w.alloc (.cells ZC 3)) := by
  obtain ⟨i, h2, h3, h4, h5⟩ := et_int.hi
  refine ⟨madeCells (Value.int .i64 0).cells (512 * 1), made_i64' 512, fun w => ?_⟩
  have h := run_makeSlice (P := Tryd.prog) w 22 3 i (.int .i64 0) et_int.ht h2 h3 .i64 .i64 512 512 (by omega) (by omega) (by rw [h4]; decide) (by rw [h5]; decide) (by omega)
  rw [h4] at h
  exact h
theorem RK.drw {k : IntKind} {w : World} {a : Option Addr} {n : Nat} {l : List Int} (h : RK k w a n l) : RK k w.drew a n l := h.up (Below.drew (bnil w))
theorem tab0_len : tab0.length = 512 := List.length_replicate
theorem rkV (v : Int) {w : World} {g : Nat} (hg : g = w.heap.size) : RK .i64 (w.alloc (.cells #[.int .i64 v] 3)) (some ⟨g, 0, none⟩) 1 [v] := rk_new hg rfl rfl
theorem rkZ {ZC : Array Value} (hz : ZC.toList = tab0.map (Value.int .i64)) {w : World} {g : Nat} (hg : g = w.heap.size) : RK .i64 (w.alloc (.cells ZC 3)) (some ⟨g, 0, none⟩) 512 tab0 := rk_new hg hz tab0_len.symm
theorem i64_1 : I64 [1] := by intro x hx; simp at hx; omega
theorem i64_0 : I64 [0] := by intro x hx; simp at hx; omega
theorem full_len : (encL 1 1 L64).length = 196 := by rw [encL_len, L64_len]
theorem full_bd : ∀ x ∈ encL 1 1 L64, 0 ≤ x ∧ x ≤ 255 := encL_bd fullOk
theorem judge_0 (v : Int) (hv : I64 [v]) (y : Nat × ErrD) (hy : judgeF tab0 1 1 [v] (encL 1 1 L64) = y) (a aT aB : Option Addr) (c cT cB : Nat) (W : World) (R : Nat → Addr) (hS : Sent W R) (hR : RK .i64 W a 1 [v]) (hT : RK .i64 W aT 512 tab0) (hB : RK .u8 W aB 196 (encL 1 1 L64)) :
    Calls Tryd.prog 40 #[.slice aT 512 cT, .agg #[.int .i64 1, .int .i64 1, .slice a 1 c], .slice aB 196 cB] W (JRet R W y) := by
  have h := judge_any 1 1 a aT aB 1 c 512 cT cB [v] tab0 (encL 1 1 L64) W R hS hR (by unfold maxLen; omega) hv hT (by unfold maxLen; omega) (by rw [full_len]; exact hB) full_bd (by rw [full_len]; unfold maxLen; omega)
  rw [full_len, hy] at h
  exact h
set_option maxHeartbeats 16000000 in
theorem awake24_any (W : World) (R : Nat → Addr) (hE : Env W R) : Calls Tryd.prog 38 #[] W fun e w' => e = .returned (.bool true) ∧ Below W.heap.size W w' := by
  have HE := Lib.hid hE
  clear hE
  obtain ⟨ZC, hzl, hmk⟩ := mk512
  have HZ := Lib.hid hzl
  clear hzl
  have D0 : Hid (Below W.heap.size W W.drew) := Below.drew (bnil W)
  have HJ : Hid (∀ (w : World) (a aT aB : Option Addr) (c cT cB : Nat), Below W.heap.size W w → RK .i64 w a 1 [1] → RK .i64 w aT 512 tab0 → RK .u8 w aB 196 (encL 1 1 L64) → Calls Tryd.prog 40 #[.slice aT 512 cT, .agg #[.int .i64 1, .int .i64 1, .slice a 1 c], .slice aB 196 cB] w (fun e w' => e = .returned (.tuple #[.int .i64 512, .nilIface]) ∧ Below W.heap.size W w')) := by
    intro w a aT aB c cT cB hb h1 h2 h3
    refine (judge_0 1 i64_1 _ jf_0 a aT aB c cT cB w R ((HE.out.sent).up hb) h1 h2 h3).mono ?_
    rintro e w2 ⟨ev, rfl, he, hb2⟩
    obtain rfl : ev = .nilIface := he
    exact ⟨rfl, bstep hb hb2⟩
  go_enter Tryd.func38, Tryd.ntmps38
  go_upto_region 1 with (fail)
  go_cut [1, 2] from 5 (fun s1 s2 wx => s1 = .int .i64 512 ∧ s2 = .nilIface ∧ Below W.heap.size W wx)
  case first =>
    go_region_held3 (fun _ => True)
      (exact trivial)
      (first
        | (go_at_call 82; refine (full_any _).mono ?_; rintro e w1 ⟨a1, c1, rfl, hR1, hb1⟩; have HR1 := Lib.hid hR1; have HB1 := Lib.hid hb1; clear hR1 hb1)
        | (go_at_call 40; refine (HJ.out _ _ _ _ _ _ _ ?_ ?_ ?_ ?_).mono ?_; (focus repeat (first | with_reducible exact bnil _ | with_reducible exact D0.out | with_reducible refine Below.drew ?_ | with_reducible refine balloc ?_ _ | with_reducible refine bstep ?_ HB1.out)); (focus repeat (first | with_reducible exact rkV _ (by simp) | with_reducible refine RK.up ?_ HB1.out | with_reducible refine RK.drw ?_ | with_reducible refine RK.al ?_ _)); (focus repeat (first | with_reducible exact rkZ HZ.out (by simp) | with_reducible refine RK.up ?_ HB1.out | with_reducible refine RK.drw ?_ | with_reducible refine RK.al ?_ _)); (focus repeat (first | with_reducible exact HR1.out | with_reducible refine RK.drw ?_ | with_reducible refine RK.al ?_ _)); (rintro e w2 ⟨rfl, hb2⟩; have HB2 := Lib.hid hb2; clear hb2)))
    all_goals
      go_wp2_with fail
      go_meet
      exact ⟨rfl, rfl, HB2.out⟩
  case rest =>
    obtain ⟨rfl, rfl, hbc⟩ := hcut
    have HBC := Lib.hid hbc
    have D1 : Hid (Below wc.heap.size wc wc.drew) := Below.drew (bnil wc)
    have HEC : Hid (Env wc R) := HE.out.up hbc
    clear hbc D0 HJ
    have HJ : Hid (∀ (w : World) (a aT aB : Option Addr) (c cT cB : Nat), Below wc.heap.size wc w → RK .i64 w a 1 [0] → RK .i64 w aT 512 tab0 → RK .u8 w aB 196 (encL 1 1 L64) → Calls Tryd.prog 40 #[.slice aT 512 cT, .agg #[.int .i64 1, .int .i64 1, .slice a 1 c], .slice aB 196 cB] w (fun e w' => ∃ t p, e = .returned (.tuple #[.int .i64 1, .iface t p]) ∧ EC R w' (.iface t p) (some ([(opJudge, 4)], 8)) ∧ Below wc.heap.size wc w')) := by
      intro w a aT aB c cT cB hb h1 h2 h3
      refine (judge_0 0 i64_0 _ jf_1 a aT aB c cT cB w R ((HEC.out.sent).up hb) h1 h2 h3).mono ?_
      rintro e w2 ⟨ev, rfl, he, hb2⟩
      obtain ⟨t9, p9, rfl⟩ := Chain.iface he
      exact ⟨t9, .pointer (some p9), rfl, he, bstep hb hb2⟩
    go_upto_region 2 with (fail)
    go_cut [3, 4] from 5 (fun s3 s4 wx => s3 = .int .i64 1 ∧ Below wc.heap.size wc wx ∧ EC R wx s4 (some ([(opJudge, 4)], 8)))
    case first =>
      go_region_held3 (fun _ => True)
        (exact trivial)
        (first
          | (go_at_call 82; refine (full_any _).mono ?_; rintro e w1 ⟨a1, c1, rfl, hR1, hb1⟩; have HR1 := Lib.hid hR1; have HB1 := Lib.hid hb1; clear hR1 hb1)
          | (go_at_call 40; refine (HJ.out _ _ _ _ _ _ _ ?_ ?_ ?_ ?_).mono ?_; (focus repeat (first | with_reducible exact bnil _ | with_reducible exact D1.out | with_reducible refine Below.drew ?_ | with_reducible refine balloc ?_ _ | with_reducible refine bstep ?_ HB1.out)); (focus repeat (first | with_reducible exact rkV _ (by simp) | with_reducible refine RK.up ?_ HB1.out | with_reducible refine RK.drw ?_ | with_reducible refine RK.al ?_ _)); (focus repeat (first | with_reducible exact rkZ HZ.out (by simp) | with_reducible refine RK.up ?_ HB1.out | with_reducible refine RK.drw ?_ | with_reducible refine RK.al ?_ _)); (focus repeat (first | with_reducible exact HR1.out | with_reducible refine RK.drw ?_ | with_reducible refine RK.al ?_ _)); (rintro e w2 ⟨t9, p9, rfl, he2, hb2⟩; have HB2 := Lib.hid hb2; have HE2 := Lib.hid he2; clear hb2 he2)))
      all_goals
        go_wp2_with fail
        go_meet
        exact ⟨rfl, HB2.out, HE2.out⟩
    case rest =>
      obtain ⟨rfl, hb3, he3⟩ := hcut
      have HE3 := Lib.hid he3
      have HB3 := Lib.hid hb3
      clear he3 hb3
      go_wp2_with (first
        | (go_at_call 67; refine (rawNew_want opJudge 4 8 _ rfl).mono ?_; rintro e w4 ⟨ao, aa, co, ca, rfl, hw4, hb4⟩; have HW4 := Lib.hid hw4; have HB4 := Lib.hid hb4; clear hw4 hb4)
        | (go_at_call 28; refine (rawIs_ch _ _ (some ([(opJudge, 4)], 8)) w4 R ((HEC.out.up HB3.out).up HB4.out) (HE3.out.up HB4.out) (wc_want HW4.out)).mono ?_; rintro e w5 ⟨rfl, hb5⟩; have HB5 := Lib.hid hb5; clear hb5))
      go_ret
      exact ⟨rfl, HBC.out.trans (((HB3.out.trans (HB4.out.mono HB3.out.size)).trans (HB5.out.mono (Nat.le_trans HB3.out.size HB4.out.size))).mono HBC.out.size)⟩
end Go.Proofs.YtocfkmdoalhjmaaDoor
namespace Go.Proofs.YtocfkmdoalhjmaaDoor
open Go.RowKit
set_option linter.unusedVariables false
set_option maxRecDepth 100000

set_option maxHeartbeats 4000000 in
theorem most24_any (h : Nat) (hh : h ≤ 4) (W : World) : Calls Tryd.prog 43 #[.int .i64 (h : Nat)] W fun e w' => e = .returned (.int .i64 ((4 * 2 ^ h : Nat) : Int)) ∧ w' = W := by
  go_enter Tryd.func43, Tryd.ntmps43
  go_wp2_with fail
  go_loopw [3, 4] (fun x i wr => ∃ k : Nat, k ≤ h ∧ i = .int .i64 (k : Nat) ∧ x = .int .i64 ((4 * 2 ^ k : Nat) : Int) ∧ wr = W) (fun _ i _ => h - (intOf i).toNat)
  case atStart => exact ⟨0, by omega, rfl, rfl, rfl⟩
  case round =>
    obtain ⟨k, hk, rfl, rfl, rfl⟩ := hrel
    by_cases hkh : k < h
    · have k1 : (k : Int) < (h : Int) := by omega
      have hb : 4 * 2 ^ k ≤ 64 := by
        have := Nat.pow_le_pow_right (n := 2) (by omega) (show k ≤ 4 by omega)
        have h2 : (2 : Nat) ^ 4 = 16 := by decide
        omega
      have he : 4 * 2 ^ (k + 1) = 4 * 2 ^ k * 2 := by rw [Nat.pow_succ]; omega
      have HEQ := Lib.hid he
      clear he
      obtain ⟨x, hx⟩ : ∃ x, 4 * 2 ^ k = x := ⟨_, rfl⟩
      rw [hx] at hb ⊢
      have HX := Lib.hid hx
      clear hx
      have xw : IntKind.i64.wrap ((x : Int) * 2) = (x : Int) * 2 := IntWalk.i64_in _ (by omega)
      go_wp2_with fail
      go_roundw
      case rel => exact ⟨k + 1, by omega, by go_num, by rw [HEQ.out, HX.out]; simp, by first | rfl | trivial⟩
      case measure => simp [intOf]; omega
    · obtain rfl : k = h := by omega
      go_wp2
      go_ret
      exact ⟨rfl, rfl⟩
set_option maxHeartbeats 4000000 in
theorem heavy24_any (w h : Int) (a aB : Option Addr) (n c m cB : Nat) (hm : n ≤ maxLen) (W : World) : Calls Tryd.prog 39 #[patV w h a n c, .slice aB m cB] W fun e w' => e = .returned (.bool (decide (40000 < m ∨ 5000 < n))) ∧ Below W.heap.size W w' := by
  by_cases hm4 : 40000 < m
  · have e1 : decide (40000 < m ∨ 5000 < n) = true := decide_eq_true (.inl hm4)
    have e2 : (40000 : Int) < (m : Int) := by omega
    rw [e1]
    clear e1
    go_enter Tryd.func39, Tryd.ntmps39
    go_wp2
    go_ret
    exact ⟨rfl, balloc (bnil W) _⟩
  · by_cases hn5 : 5000 < n
    · have e1 : decide (40000 < m ∨ 5000 < n) = true := decide_eq_true (.inr hn5)
      have e2 : ¬ (40000 : Int) < (m : Int) := by omega
      have e3 : (5000 : Int) < (n : Int) := by omega
      rw [e1]
      clear e1
      go_enter Tryd.func39, Tryd.ntmps39
      go_wp2
      go_ret
      exact ⟨rfl, balloc (bnil W) _⟩
    · have e1 : decide (40000 < m ∨ 5000 < n) = false := decide_eq_false (by omega)
      have e2 : ¬ (40000 : Int) < (m : Int) := by omega
      have e3 : ¬ (5000 : Int) < (n : Int) := by omega
      rw [e1]
      clear e1
      go_enter Tryd.func39, Tryd.ntmps39
      go_wp2
      go_ret
      exact ⟨rfl, balloc (bnil W) _⟩
theorem judgeRun_le (t cols : List Int) (h m : Nat) : ∀ (L : List (Int × Int × Int)) (i : Nat) (acc : List (Int × Int × Int)) (f n : Nat), (judgeRun t cols h m L i acc f n).1 ≤ n + L.length * (m * h)
  | [], i, acc, f, n => by
    unfold judgeRun
    split <;> simp
  | x :: r, i, acc, f, n => by
    have hl := (holdsF_le t h (cols.getD x.1.toNat 0).toNat x.1.toNat x.2.1.toNat x.2.2.toNat acc m 0 0).2
    have hs : (x :: r).length * (m * h) = r.length * (m * h) + m * h := Nat.succ_mul _ _
    rw [hs]
    unfold judgeRun
    split
    · have ih := judgeRun_le t cols h m r (i + 1) (acc ++ [x]) (f + if ¬ x ∈ acc ∧ x.1 = 0 then 1 else 0) (n + (holdsF t h (cols.getD x.1.toNat 0).toNat x.1.toNat x.2.1.toNat x.2.2.toNat acc m 0 0).1)
      omega
    · show n + _ ≤ _
      omega
/-- the looks are bounded by the bytes -/
theorem judgeF_le {t : List Int} {w h : Int} {l bs : List Int} : (judgeF t w h l bs).1 = 0 ∨ ∃ h' : Nat, h = (h' : Int) ∧ 1 ≤ h' ∧ h' ≤ 4 ∧ (judgeF t w h l bs).1 ≤ 8 * (bs.length + 1) * (h' + 2) * (4 * 2 ^ h') := by
  unfold judgeF
  cases hg : gvD t w h l with
  | some e => exact .inl rfl
  | none =>
    simp only
    cases hd : decF bs with
    | error y => exact .inl rfl
    | ok z =>
      obtain ⟨cw, ch, L⟩ := z
      simp only
      split
      · exact .inl rfl
      · rename_i hn
        right
        obtain ⟨w', h', hcw, hch, _, _, h1, h4, _, hL, _⟩ := dec_ok hd
        have e1 : h = (h' : Int) := by omega
        refine ⟨h', e1, h1, h4, ?_⟩
        have hr := judgeRun_le t (colL w.toNat h.toNat l) h.toNat (4 * 2 ^ h.toNat) L 0 [] 0 0
        have hle : L.length * (4 * 2 ^ h.toNat * h.toNat) ≤ 8 * (bs.length + 1) * (h' + 2) * (4 * 2 ^ h') := by
          have e2 : h.toNat = h' := by omega
          rw [e2]
          calc L.length * (4 * 2 ^ h' * h') = (L.length * h') * (4 * 2 ^ h') := by rw [Nat.mul_comm (4 * 2 ^ h') h', Nat.mul_assoc]
            _ ≤ 8 * (bs.length + 1) * (h' + 2) * (4 * 2 ^ h') := Nat.mul_le_mul_right _ (Nat.mul_le_mul (by omega) (by omega))
        generalize judgeRun t (colL w.toNat h.toNat l) h.toNat (4 * 2 ^ h.toNat) L 0 [] 0 0 = X at hr ⊢
        obtain ⟨n, o⟩ := X
        cases o <;> (simp only at hr ⊢; omega)
end Go.Proofs.YtocfkmdoalhjmaaDoor
namespace Go.Proofs.YtocfkmdoalhjmaaDoor
open Go.RowKit
set_option linter.unusedVariables false
set_option maxRecDepth 100000

set_option maxHeartbeats 16000000 in
theorem judge_cost (w h : Int) (a aT aB : Option Addr) (n c nT cT cB : Nat) (l t bs : List Int) (W : World) (R : Nat → Addr) (hE : Env W R) (hR : RK .i64 W a n l) (hm : n ≤ maxLen) (hx : I64 l) (hT : RK .i64 W aT nT t) (hmT : nT ≤ maxLen) (hBs : RK .u8 W aB bs.length bs) (hBr : ∀ x ∈ bs, 0 ≤ x ∧ x ≤ 255) (hBl : bs.length ≤ maxLen) :
    Calls Tryd.prog 11 #[.slice aT nT cT, patV w h a n c, .slice aB bs.length cB] W (TrueBelow W) := by
  have T0 := Tk.nil W
  have T1 := T0.add (fun wv => Below W.heap.size W wv) (bnil W)
  clear T0
  have T2 := T1.add (fun wv => Env wv R) (hE)
  clear T1
  have T3 := T2.add (fun wv => RK .i64 wv a n l) (hR)
  clear T2
  have T4 := T3.add (fun wv => RK .i64 wv aT nT t) (hT)
  clear T3
  have T5 := T4.add (fun wv => RK .u8 wv aB bs.length bs) (hBs)
  clear T4
  have HI6 := Lib.hid hx
  have HBR := Lib.hid hBr
  clear hE hR hT hBs hx hBr
  obtain ⟨Wb, hWb⟩ : ∃ Wb, W.alloc (.cells #[.int .i64 w, .int .i64 h, .slice a n c] 24) = Wb := ⟨_, rfl⟩
  have hbWb : Below W.heap.size W Wb := by rw [← hWb]; exact balloc (bnil W) _
  have T6 := T5.up hbWb
  clear T5
  have T7 := T6.add (fun wv => wv.cell? ⟨W.heap.size, 0, none⟩ = some (.int .i64 w) ∧ wv.cell? ⟨W.heap.size, 1, none⟩ = some (.int .i64 h) ∧ wv.cell? ⟨W.heap.size, 2, none⟩ = some (.slice a n c)) (by rw [← hWb]; exact ⟨cnw (by simp) rfl, cnw (by simp) rfl, cnw (by simp) rfl⟩)
  clear T6
  have HWb := Lib.hid hWb
  clear hWb hbWb
  go_enter Tryd.func11, Tryd.ntmps11
  go_wp2_with fail
  rw [HWb.out]
  refine (awake24_any Wb R T7.out.1.1.1.1.2).mono ?_; rintro e w1 ⟨rfl, hbw1⟩
  have T8 := T7.up hbw1
  clear T7
  have v_p0 : w1.cell? ⟨W.heap.size, 0, none⟩ = some (.int .i64 w) := T8.out.2.1
  have v_p1 : w1.cell? ⟨W.heap.size, 1, none⟩ = some (.int .i64 h) := T8.out.2.2.1
  have v_p2 : w1.cell? ⟨W.heap.size, 2, none⟩ = some (.slice a n c) := T8.out.2.2.2
  go_wp2_with fail
  refine (heavy24_any w h a aB n c bs.length cB hm w1).mono ?_; rintro e w2 ⟨rfl, hbw2⟩
  clear v_p0 v_p1 v_p2
  have T9 := T8.up hbw2
  clear T8
  by_cases hv : 40000 < bs.length ∨ 5000 < n
  · skip
    have hd := decide_eq_true hv
    rw [hd]
    clear hd hv
    go_wp2
    go_ret
    exact ⟨rfl, T9.out.1.1.1.1.1.2⟩
  · skip
    have hd := decide_eq_false hv
    rw [hd]
    have hb4 : bs.length ≤ 40000 := by omega
    have hjl := @judgeF_le t w h l bs
    clear hd hv
    obtain ⟨jn, je, hj⟩ : ∃ jn je, judgeF t w h l bs = (jn, je) := ⟨_, _, rfl⟩
    rw [hj] at hjl
    simp only at hjl
    have HJL := Lib.hid hjl
    have hC := judge_any w h a aT aB n c nT cT cB l t bs
    rw [hj] at hC
    have HCJ := Lib.hid hC
    clear hC hj hjl
    have v_p0 : w2.cell? ⟨W.heap.size, 0, none⟩ = some (.int .i64 w) := T9.out.2.1
    have v_p1 : w2.cell? ⟨W.heap.size, 1, none⟩ = some (.int .i64 h) := T9.out.2.2.1
    have v_p2 : w2.cell? ⟨W.heap.size, 2, none⟩ = some (.slice a n c) := T9.out.2.2.2
    go_wp2_with fail
    refine (HCJ.out w2 R (T9.out.1.1.1.1.2).sent T9.out.1.1.1.2 hm HI6.out T9.out.1.1.2 hmT T9.out.1.2 HBR.out hBl).mono ?_; rintro e w3 ⟨ev, rfl, he, hbw3⟩
    clear v_p0 v_p1 v_p2
    have T10 := T9.up hbw3
    clear T9
    clear he HCJ
    have hneg : ¬ ((jn : Nat) : Int) < 0 := by omega
    by_cases hlo : h < 1 ∨ 4 < h
    · skip
      obtain rfl : jn = 0 := by rcases HJL.out with h0 | ⟨h2, rfl, h3, h4, _⟩; exact h0; omega
      by_cases hl1 : h < 1
      · skip
        clear hlo HJL
        have v_p0 : w3.cell? ⟨W.heap.size, 0, none⟩ = some (.int .i64 w) := T10.out.2.1
        have v_p1 : w3.cell? ⟨W.heap.size, 1, none⟩ = some (.int .i64 h) := T10.out.2.2.1
        have v_p2 : w3.cell? ⟨W.heap.size, 2, none⟩ = some (.slice a n c) := T10.out.2.2.2
        go_wp2
        go_ret
        exact ⟨rfl, T10.out.1.1.1.1.1.2⟩
      · skip
        have h4 : 4 < h := by omega
        clear hlo HJL
        have v_p0 : w3.cell? ⟨W.heap.size, 0, none⟩ = some (.int .i64 w) := T10.out.2.1
        have v_p1 : w3.cell? ⟨W.heap.size, 1, none⟩ = some (.int .i64 h) := T10.out.2.2.1
        have v_p2 : w3.cell? ⟨W.heap.size, 2, none⟩ = some (.slice a n c) := T10.out.2.2.2
        go_wp2
        go_ret
        exact ⟨rfl, T10.out.1.1.1.1.1.2⟩
    · skip
      obtain ⟨h', rfl, h1, h4⟩ : ∃ h' : Nat, h = (h' : Int) ∧ 1 ≤ h' ∧ h' ≤ 4 := ⟨h.toNat, by omega, by omega, by omega⟩
      have hle : jn ≤ 8 * (bs.length + 1) * (h' + 2) * (4 * 2 ^ h') := by
        rcases HJL.out with h0 | ⟨h2, h3, h5, h6, h7⟩
        · omega
        · obtain rfl : h2 = h' := by omega
          exact h7
      have hmo := most24_any h' h4
      obtain ⟨M, hM⟩ : ∃ M, 4 * 2 ^ h' = M := ⟨_, rfl⟩
      have hM64 : M ≤ 64 := by
        rw [← hM]
        have := Nat.pow_le_pow_right (n := 2) (by omega) h4
        have h2 : (2 : Nat) ^ 4 = 16 := by decide
        omega
      rw [hM] at hle hmo
      obtain ⟨P, hP⟩ : ∃ P, 8 * (bs.length + 1) * (h' + 2) = P := ⟨_, rfl⟩
      have hP2 : P ≤ 8 * 40001 * 6 := by rw [← hP]; exact Nat.mul_le_mul (Nat.mul_le_mul_left _ (by omega)) (by omega)
      obtain ⟨Q, hQ⟩ : ∃ Q, P * M = Q := ⟨_, rfl⟩
      have hQ2 : Q ≤ 1920048 * 64 := by rw [← hQ]; exact Nat.mul_le_mul (by omega) hM64
      rw [hP, hQ] at hle
      have hPI : (8 : Int) * ((bs.length : Int) + 1) * ((h' : Int) + 2) = (P : Int) := by rw [← hP, Int.natCast_mul, Int.natCast_mul]; rfl
      have hQI : (P : Int) * (M : Int) = (Q : Int) := by rw [← hQ, Int.natCast_mul]
      have q1 : IntKind.i64.wrap ((bs.length : Int) + 1) = (bs.length : Int) + 1 := IntWalk.i64_in _ (by omega)
      have q2 : IntKind.i64.wrap (8 * ((bs.length : Int) + 1)) = 8 * ((bs.length : Int) + 1) := IntWalk.i64_in _ (by omega)
      have q3 : IntKind.i64.wrap ((h' : Int) + 2) = (h' : Int) + 2 := IntWalk.i64_in _ (by omega)
      have q4 : IntKind.i64.wrap (P : Int) = (P : Int) := IntWalk.i64_in _ (by omega)
      have q5 : IntKind.i64.wrap (Q : Int) = (Q : Int) := IntWalk.i64_in _ (by omega)
      have q6 : (jn : Int) ≤ (Q : Int) := by omega
      have l1 : ¬ (h' : Int) < 1 := by omega
      have l4 : ¬ (4 : Int) < (h' : Int) := by omega
      have HMO := Lib.hid hmo
      clear hlo HJL hmo hP hQ hM hle
      have v_p0 : w3.cell? ⟨W.heap.size, 0, none⟩ = some (.int .i64 w) := T10.out.2.1
      have v_p1 : w3.cell? ⟨W.heap.size, 1, none⟩ = some (.int .i64 (h' : Nat)) := T10.out.2.2.1
      have v_p2 : w3.cell? ⟨W.heap.size, 2, none⟩ = some (.slice a n c) := T10.out.2.2.2
      go_wp2_with fail
      go_quiet ((go_at_call 43; exact Calls.quiet_of_same (HMO.out _)))
      go_wp2

      go_ret
      exact ⟨rfl, bdrewN (T10.out.1.1.1.1.1.2) _⟩
theorem judge_cost_row (aT : Option Addr) (cT : Nat) (t : List Int) (w h : Int) (a : Option Addr) (n c : Nat) (l : List Int) (aB : Option Addr) (cB : Nat) (bs : List Int) (W : World) (R : Nat → Addr) (hE : Env W R)
    (hR0 : Rd W aT t.length 1 (t.map (Value.int .i64))) (hl0 : t.length ≤ cT) (hz0 : cT * 8 ≤ 140737488351232) (hn0 : aT = none → cT = 0) (hx0 : ∀ x ∈ t, -9223372036854775808 ≤ x ∧ x ≤ 9223372036854775807) (hM : SlI W a n c l) (hx : I64 l)
    (hR2 : Rd W aB bs.length 1 (bs.map (Value.int .u8))) (hl2 : bs.length ≤ cB) (hz2 : cB * 1 ≤ 140737488351232) (hn2 : aB = none → cB = 0) (hx2 : ∀ x ∈ bs, 0 ≤ x ∧ x ≤ 255) :
    Calls Tryd.prog 11 #[.slice aT t.length cT, patV w h a n c, .slice aB bs.length cB] W (TrueBelow W) :=
  judge_cost w h a aT aB n c t.length cT cB l t bs W R hE hM.rk hM.nm hx ⟨rfl, hR0⟩ (by unfold maxLen; omega) ⟨rfl, hR2⟩ hx2 (by unfold maxLen; omega)
end Go.Proofs.YtocfkmdoalhjmaaDoor
namespace Go.Proofs.YtocfkmdoalhjmaaDoor
open Go.ChangeShapes Go.WideShapes Go.ChangeAt Go.RowKit
set_option linter.unusedVariables false

theorem door_met (os : Os) (args : Array Value) : laidMetH Tryd.prog Rows.judgeCostRow.laid ((World.doorLaid Tryd.prog 4000 os).forCall (fun _ _ => 0) ⟨#[], args, []⟩).memory :=
  laidMetH_of_parts (laidMet_of_run' 8 (by kernel_rfl) (by kernel_rfl)) (by kernel_rfl)

set_option maxRecDepth 100000 in
theorem lifted (os : Os) (started : os.Started) (H : Type) (enc : TypeId × Value → H) :
    ReturnsInHanded {} Tryd.checked os 11 .any (fun w args => (Rows.judgeCostSpec.pre enc Tryd.prog Tryd.f11 Rows.judgeCostRow.domain false w args ∧ laidMetH Tryd.prog Rows.judgeCostRow.laid w) ∧ sizedMet enc Tryd.prog Tryd.f11 (OpenSpec.ofChange Rows.judgeCostSpec) false w args)
      (Rows.judgeCostSpec.post enc Tryd.prog Tryd.f11 false true false false) := by
  refine returnsInHanded_of_change_and (C := Tryd.checked) (X := fun w _ => laidMetH Tryd.prog Rows.judgeCostRow.laid w) (fun _ _ _ hh h => h.of_heap hh) own started (by kernel_rfl) Tryd.func11
    (ChangeSpec.witness_shaped (enc := enc) (C := Tryd.checked) (os := os) (X := fun w _ => laidMetH Tryd.prog Rows.judgeCostRow.laid w) false (World.doorLaid Tryd.prog 4000 os) #[.slice none 0 0, .agg #[.int .i64 0, .int .i64 0, .slice none 0 0], .slice none 0 0] 8 rfl (World.shaped_of_RefB (by kernel_rfl) (by kernel_rfl)) (by kernel_rfl) (by kernel_rfl) (by kernel_rfl) (door_met os _)) ?_
  intro W base args ds gs before hval0 hW hcnd hzz hL hSH
  have hval : ∀ (j : Nat) t v, Tryd.f11.params[j]? = some t → args[j]? = some v → Value.okWide Tryd.prog W .any base t v := hval0
  have hW' := hW
  obtain ⟨p, q, hA0, hV, rfl, hfz, hnd⟩ := hW
  have hA : DataW.TrodAll enc Tryd.prog W 0 (fun _ => true) true Tryd.f11.params.toList args.toList ds p := hA0
  rw [Tryd.params11] at hA hval hzz
  obtain ⟨v0, vs0, d0, ds0, p0, q0, hargs, rfl, rfl, h0, r0⟩ := trodAll_cons hA
  obtain ⟨v1, vs1, d1, ds1, p1, q1, rfl, rfl, rfl, h1, r1⟩ := trodAll_cons r0
  obtain ⟨v2, vs2, d2, ds2, p2, q2, rfl, rfl, rfl, h2, r2⟩ := trodAll_cons r1
  obtain ⟨rfl, rfl, rfl⟩ := trodAll_nil r2
  obtain rfl : args = #[v0, v1, v2] := by cases args; simp_all
  obtain ⟨rfl, rfl⟩ := trodVars_none hV
  obtain ⟨s0, len0, cap0, rfl⟩ := okWide_slice Tryd.underlying22 (hval 0 22 v0 rfl rfl)
  have k0 := h0
  have lt0 : ∀ x ∈ p0, x.block < W.heap.size := by obtain ⟨m, hm⟩ := k0; exact DataW.trod_lt m _ _ _ hm
  obtain ⟨hz0, hn0⟩ : cap0 * 8 ≤ 140737488351232 ∧ (s0 = none → cap0 = 0) := by
    obtain ⟨fuel, hf⟩ := h0
    have := cap_sized (j := 0) (t := 22) (e := 3) Tryd.underlying22 hf hzz rfl rfl
    rwa [show Tryd.prog.bytesOf 3 = 8 from by kernel_rfl] at this
  obtain ⟨l0, rfl, hc0, hl0, hR0, hx0⟩ : ∃ l0 : List Int, l0.length = len0 ∧ cap0 ≤ maxLen ∧ len0 ≤ cap0 ∧ Rd W s0 len0 1 (l0.map (Value.int .i64)) ∧ (∀ x ∈ l0, -9223372036854775808 ≤ x ∧ x ≤ 9223372036854775807) := by
    obtain ⟨fuel, hf⟩ := h0
    obtain ⟨l, e1, e2, e3, e4, e5⟩ := open_intsl hf
    exact ⟨l, e1, e2, e3, e4, e5⟩
  have k1 := h1
  have lt1 : ∀ x ∈ p1, x.block < W.heap.size := by obtain ⟨m, hm⟩ := k1; exact DataW.trod_lt m _ _ _ hm
  obtain ⟨pw1, ph1, s1, len1, cap1, l1, rfl, hM1, hx1⟩ := open_patchS (j := 1) (hval 1 24 v1 rfl rfl) h1 hzz rfl rfl
  obtain ⟨s2, len2, cap2, rfl⟩ := okWide_slice Tryd.underlying67 (hval 2 67 v2 rfl rfl)
  have k2 := h2
  have lt2 : ∀ x ∈ p2, x.block < W.heap.size := by obtain ⟨m, hm⟩ := k2; exact DataW.trod_lt m _ _ _ hm
  obtain ⟨hz2, hn2⟩ : cap2 * 1 ≤ 140737488351232 ∧ (s2 = none → cap2 = 0) := by
    obtain ⟨fuel, hf⟩ := h2
    have := cap_sized (j := 2) (t := 67) (e := 5) Tryd.underlying67 hf hzz rfl rfl
    rwa [show Tryd.prog.bytesOf 5 = 1 from by kernel_rfl] at this
  obtain ⟨l2, rfl, hc2, hl2, hR2, hx2⟩ : ∃ l2 : List Int, l2.length = len2 ∧ cap2 ≤ maxLen ∧ len2 ≤ cap2 ∧ Rd W s2 len2 1 (l2.map (Value.int .u8)) ∧ (∀ x ∈ l2, 0 ≤ x ∧ x ≤ 255) := by
    obtain ⟨fuel, hf⟩ := h2
    obtain ⟨l, e1, e2, e3, e4, e5⟩ := open_bytes hf
    exact ⟨l, e1, e2, e3, e4, e5⟩
  obtain ⟨R, hS⟩ := env_of_laid hL
  clear hA0 hval0
  refine (judge_cost_row s0 cap0 l0 pw1 ph1 s1 len1 cap1 l1 s2 cap2 l2 W R hS hR0 hl0 hz0 hn0 hx0 hM1 hx1 hR2 hl2 hz2 hn2 hx2).mono fun e W' ⟨he, bel⟩ => ?_
  subst he
  exact ⟨_, rfl, _, _, _, [], _, [], hW', trodAll_mk1 (shut_bool Tryd.underlying4 _), (trodAll_cons_mk (Below.trod laidOut (by kernel_rfl) (of_decide_eq_true (by kernel_rfl)) k0 bel lt0) (trodAll_cons_mk (Below.trod laidOut (by kernel_rfl) (of_decide_eq_true (by kernel_rfl)) k1 bel lt1) (trodAll_cons_mk (Below.trod laidOut (by kernel_rfl) (of_decide_eq_true (by kernel_rfl)) k2 bel lt2) trodAll_mk0))), rfl, bel.frame _, fun h => by cases h⟩

theorem row_holds : Rows.JudgeCostSaid :=
  OpenClaim.holds_of_wide 11 Tryd.f11 rfl rfl rfl rfl rfl rfl rfl ⟨rfl, rfl, rfl, rfl, rfl⟩ rfl rfl rfl rfl rfl (by kernel_rfl) Tryd.func11 (by kernel_rfl)
    (of_decide_eq_true (by kernel_rfl)) (by unfold Func.isWrapper; first | (rw [if_pos (by decide +kernel)]; kernel_rfl) | (rw [if_neg (by decide +kernel)]; exact ⟨rfl, rfl⟩))
    (fun os started H enc _ => lifted os started H enc)

theorem card_holds : Rows.JudgeCostCardSaid :=
  Claim7.holds_tied_plain_at .later [] Rows.judgeCostCard.laidKinds true Rows.judgeCostCard.stood.harness true
    row_holds (fun _ h => by cases h) (by kernel_rfl) (fun _ h => by cases h) judgeCost_row_tie rfl ⟨rfl, rfl⟩ (by kernel_rfl) rfl
    (fun f fn hf hfn => by
      obtain rfl : f = 11 := Option.some.inj ((show Tryd.prog.funcNamed "eden/edenlaw24.JudgeCost" = some 11 by kernel_rfl).symm.trans hf) |>.symm
      obtain rfl : fn = Tryd.f11 := (Option.some.inj (Tryd.func11.symm.trans hfn)).symm
      exact ⟨by kernel_rfl, fun j t ht => by
        rw [Tryd.params11] at ht
        have hm : t ∈ [22, 24, 67] := by simpa using Array.mem_of_getElem? ht
        have hall : ([22, 24, 67].all fun u => !Tryd.prog.wantsStandIn u) = true := by kernel_rfl
        exact (show Tryd.prog.wantsStandIn t = false by simpa using List.all_eq_true.1 hall t hm)⟩)
    (by kernel_rfl)
#print axioms card_holds
end Go.Proofs.YtocfkmdoalhjmaaDoor
