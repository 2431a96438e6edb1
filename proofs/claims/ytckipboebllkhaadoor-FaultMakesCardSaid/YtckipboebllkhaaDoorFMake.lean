/- edenlaw01.FaultMakes. -/
import Derived.Test.YtckipboebllkhaaDoorFMkA
import Derived.Deep.RegionWith
import Derived.Deep.RegionHeld3
import Derived.Deep.Cut
namespace Go.Proofs.YtckipboebllkhaaDoor
open Go.RowKit Go.Extern.Stop Go.Stop Go.Extern Go.Sort
set_option linter.unusedVariables false
set_option maxRecDepth 100000

theorem run_neq_iface_ptr_sameM {P : Program} (w : World) {ti tp te : TypeId} {ms : Array (String × TypeId)} {i j : TypeInfo} (a : Addr)
    (hi : P.underlying ti = some (.interface ms)) (hp : P.underlying tp = some (.pointer te)) (hinfo : P.info? tp = some i) (hcomp : i.comparable = true) (hte : P.info? te = some j) :
    (binOp .neq ti (.iface tp (.pointer (some a))) (.iface tp (.pointer (some a)))).run P w = .ok (.bool false) w := by
  simp only [binOp]
  simp [Op.equal, Op.maxDepth, run_equalIn_iface_ptr_same w 9998 a hi hp hinfo hcomp hte]
theorem run_neq_iface_ptr_otherM {P : Program} (w : World) {ti tp te : TypeId} {ms : Array (String × TypeId)} {i j : TypeInfo} {a b : Addr} {ca cb : Array Value} {ta tb : TypeId}
    (hi : P.underlying ti = some (.interface ms)) (hp : P.underlying tp = some (.pointer te)) (hinfo : P.info? tp = some i) (hcomp : i.comparable = true) (hte : P.info? te = some j) (hsz : j.size ≠ 0)
    (hne : a ≠ b) (ha : w.heap[a.block]? = some (.cells ca ta (0, 0))) (hb : w.heap[b.block]? = some (.cells cb tb (0, 0))) :
    (binOp .neq ti (.iface tp (.pointer (some a))) (.iface tp (.pointer (some b)))).run P w = .ok (.bool true) w := by
  simp only [binOp]
  simp [Op.equal, Op.maxDepth, run_equalIn_iface_ptr_other w 9998 hi hp hinfo hcomp hte hsz hne ha hb]
theorem fCompM : (Tryd.prog.info? 57).map (·.comparable) = some true := by kernel_rfl
theorem fSizeM : (Tryd.prog.info? 61).map (·.size) = some 3 := by kernel_rfl
set_option maxHeartbeats 1000000 in
theorem rawRootF (n : Int) (w : World) (R : Nat → Addr) (hG : Glob w R) :
    Calls Tryd.prog 27 #[.int .i64 n] w fun e w' => e = .returned (.iface 126 (.pointer (some (R (rix n))))) ∧ w = w' := by
  have h0 := hG 0 (by omega)
  have h1 := hG 1 (by omega)
  have h2 := hG 2 (by omega)
  have h3 := hG 3 (by omega)
  have h4 := hG 4 (by omega)
  have h5 := hG 5 (by omega)
  have h6 := hG 6 (by omega)
  have h7 := hG 7 (by omega)
  have h8 := hG 8 (by omega)
  have h9 := hG 9 (by omega)
  have h10 := hG 10 (by omega)
  have h11 := hG 11 (by omega)
  simp only [gix, List.getD_cons_zero, List.getD_cons_succ] at h0 h1 h2 h3 h4 h5 h6 h7 h8 h9 h10 h11
  clear hG
  go_enter Tryd.func27, Tryd.ntmps27
  go_wp2
  all_goals (go_ret; exact ⟨by simp_all [rix], rfl⟩)
/-- errors.As at a Fault: the variable holds the address of a Fault that reads as this one -/
theorem as_one (w0 : World) (tt : Addr) (old : Value) (hlt : w0.heap.size ≤ tt.block) (op : ByteArray) (at_ : Int) (a : Addr) (v : Value) (w : World) (hv : TR w0 (.fault op at_ (.root a)) v) (hbw : Below w0.heap.size w0 w) (hET : ErrType w0)
    (ht0 : w.cell? tt = some old) (hf0 : w.frozen? tt = false) :
    Calls Tryd.prog 26 #[v, .iface 59 (.pointer (some tt))] w fun e w' => e = .returned (.bool true) ∧ ∃ g, w'.cell? tt = some (.pointer (some ⟨g, 0, none⟩)) ∧ w'.cell? ⟨g, 0, none⟩ = some (.string op) ∧ w'.cell? ⟨g, 1, none⟩ = some (.int .i64 at_) ∧ w'.cell? ⟨g, 2, none⟩ = some (.iface 126 (.pointer (some a))) ∧ Below w0.heap.size w0 w' := by
  refine (as_all w0 tt old hlt _ v w hv hbw hET ht0 hf0).mono ?_
  rintro e w' (⟨h1, _⟩ | ⟨op', at', s, g, x, wm, h1, rfl, hg, hs, hbm, rfl⟩)
  · cases h1
  · cases h1
    obtain ⟨rfl, _⟩ := hs
    have hb : Below w0.heap.size w0 (wm.setCell tt (.pointer (some ⟨g, 0, none⟩))) := (hbw.trans (hbm.mono hbw.size)).setCell (p := tt) hlt _
    obtain ⟨c0, c1, c2⟩ := cell_fault hg
    exact ⟨rfl, g, World.cell?_setCell_same' _ _ _ (by rw [cpF hbm ht0]; rfl), cpF hb c0, cpF hb c1, cpF hb c2, hb⟩
set_option maxHeartbeats 16000000 in
theorem fmake_row (op : ByteArray) (at_ n : Int) (w : World) (R : Nat → Addr) (hE : Env w R) (hT : Tab w) (hX : ∀ k, k < 12 → ∃ s, w.cell? (R k) = some (.string s) ∧ s.size ≤ 1000) (hop : op.size ≤ 140737488355328) (h0 : -9223372036854775808 ≤ at_ ∧ at_ ≤ 9223372036854775807) :
    Calls Tryd.prog 7 #[.string op, .int .i64 at_, .int .i64 n] w fun e w' => e = .returned (.bool true) ∧ Below w.heap.size w w' := by
  have HE := Lib.hid hE
  have HTB := Lib.hid hT
  have HX := Lib.hid hX
  clear hE hT hX
  go_enter Tryd.func7, Tryd.ntmps7
  go_wp2_with fail
  refine (awake01 _ R HE.out).mono ?_; rintro e w1 ⟨rfl, hb1⟩
  have HB1 := Lib.hid hb1
  clear hb1
  by_cases hn0 : n = 0
  · subst hn0
    go_wp2_with fail
    refine (newF_any _ _ 0 _ R (HE.out.sent.up HB1.out)).mono ?_; rintro e w2 ⟨v2, rfl, h2, hb2⟩
    obtain rfl : v2 = Value.nilIface := h2
    have HB2 := Lib.hid (HB1.out.trans (hb2.mono HB1.out.size))
    clear hb2
    go_wp2
    go_ret
    exact ⟨rfl, HB2.out⟩
  · have hnb : (n == 0) = false := by rw [beq_eq_false_iff_ne]; exact hn0
    go_wp2_with fail
    refine (new_err _ _ n _ R (HE.out.sent.up HB1.out).glob hnb).mono ?_; rintro e w2 ⟨rfl, h2⟩
    obtain ⟨ge, hge⟩ : ∃ ge, w1.heap.size = ge := ⟨_, rfl⟩
    rw [hge]
    have hv2 : TR w2 (.fault op at_ (.root (R (rix n)))) (.iface 57 (.pointer (some ⟨ge, 0, none⟩))) := by rw [h2, ← hge]; exact (TR.rootR (HE.out.sent.up HB1.out) n).new _ _
    have hg2 : w2.heap[ge]? = some (faultObj op at_ (.iface 126 (.pointer (some (R (rix n)))))) := by rw [h2, ← hge]; exact heap_alloc_new w1 _
    have hb2 : Below w1.heap.size w1 w2 := by rw [h2]; exact balloc (bnil w1) _
    have HV2 := Lib.hid hv2
    have HG2 := Lib.hid hg2
    have HB2 := Lib.hid (HB1.out.trans (hb2.mono HB1.out.size))
    clear h2 hv2 hg2 hb2 hge
    obtain ⟨w3, h3⟩ : ∃ w3, w2.alloc (.cells #[.pointer none] 57) = w3 := ⟨_, rfl⟩
    obtain ⟨B, hB⟩ : ∃ B, w2.heap.size = B := ⟨_, rfl⟩
    have hb3 : Below w2.heap.size w2 w3 := by rw [← h3]; exact balloc (bnil w2) _
    have hc3 : w3.cell? ⟨B, 0, none⟩ = some (.pointer none) := by rw [← h3, ← hB]; simp
    have hf3 : w3.frozen? ⟨B, 0, none⟩ = false := by rw [← h3, ← hB]; simp
    have HA : Hid (∀ w', Below w3.heap.size w3 w' → Calls Tryd.prog 26 #[.iface 57 (.pointer (some ⟨ge, 0, none⟩)), .iface 59 (.pointer (some ⟨B, 0, none⟩))] w' fun e w'' => e = .returned (.bool true) ∧ ∃ g, w''.cell? ⟨B, 0, none⟩ = some (.pointer (some ⟨g, 0, none⟩)) ∧ w''.cell? ⟨g, 0, none⟩ = some (.string op) ∧ w''.cell? ⟨g, 1, none⟩ = some (.int .i64 at_) ∧ w''.cell? ⟨g, 2, none⟩ = some (.iface 126 (.pointer (some (R (rix n))))) ∧ Below w2.heap.size w2 w'') := fun w' hb => as_one w2 ⟨B, 0, none⟩ _ (by show w2.heap.size ≤ B; omega) op at_ _ _ w' HV2.out (hb3.trans (hb.mono hb3.size)) (HE.out.et.up HB2.out) (cpF hb hc3) (by rw [hb.frozen (World.block_lt_of_cell? _ _ hc3)]; exact hf3)
    have H3 := Lib.hid h3
    clear h3 hb3 hc3 hf3
    obtain ⟨i, hi, hcmp⟩ := Option.map_eq_some_iff.1 isComp
    obtain ⟨j, hj, hjs⟩ := Option.map_eq_some_iff.1 isSize
    have hq1 := fun w' : World => run_neq_iface_ptr_sameM (P := Tryd.prog) w' (R (rix n)) Tryd.underlying26 Tryd.underlying126 hi hcmp hj
    go_wp2_with fail
    rw [H3.out]
    try simp only [hB]
    go_cut [53] from 21 (fun s53 wx => s53 = .bool false ∧ Below w2.heap.size w2 wx)
    case first =>
      go_region_with (first
        | (go_at_call 26; refine (HA.out _ (Below.drew (bnil w3))).mono ?_; rintro e w5 ⟨rfl, g5, d0, d1, d2, d3, hb5⟩; have HB5 := Lib.hid hb5; clear hb5)
        | (go_at_call 27; refine (rawRootF n _ R (HE.out.sent.up (HB2.out.trans (HB5.out.mono HB2.out.size))).glob).mono ?_; rintro e w6 ⟨rfl, rfl⟩))
      all_goals
        go_wp2_with fail
        go_meet
        exact ⟨rfl, HB5.out⟩
    case rest =>
      obtain ⟨rfl, hbc⟩ := hcut
      have HBC := Lib.hid hbc
      clear hbc HA H3
      obtain ⟨i2, hi2, hcmp2⟩ := Option.map_eq_some_iff.1 fCompM
      obtain ⟨j2, hj2, hjs2⟩ := Option.map_eq_some_iff.1 fSizeM
      go_wp2_with fail
      go_loopw [9] (fun kv wr => ∃ k : Nat, k ≤ 12 ∧ kv = .int .i64 (k + 1 : Nat) ∧ Below w2.heap.size w2 wr) (fun kv _ => 13 - (intOf kv).toNat)
      case atStart => exact ⟨0, by omega, rfl, HBC.out⟩
      case round =>
        clear HBC
        obtain ⟨k, hk, rfl, hb⟩ := hrel
        have HB := Lib.hid hb
        clear hb
        obtain ⟨q, hq⟩ : ∃ q, k + 1 = q := ⟨_, rfl⟩
        rw [hq]
        have hS := HE.out.sent.up (HB2.out.trans (HB.out.mono HB2.out.size))
        have HS := Lib.hid hS
        clear hS
        by_cases hk12 : q ≤ 12
        · have k1 : (q : Int) ≤ 12 := by omega
          have kw : IntKind.i64.wrap ((q : Int) + 1) = ((q + 1 : Nat) : Int) := by rw [IntWalk.i64_in _ (by omega)]; rfl
          obtain ⟨cq, tq, hrq⟩ := HS.out.row _ (rix_ltF (q : Int))
          obtain ⟨cn, tn, hrn⟩ := HS.out.row _ (rix_ltF n)
          have HRQ := Lib.hid (And.intro hrq hrn)
          clear hrq hrn
          go_wp2_with fail
          refine (rawRootF q _ R HS.out.glob).mono ?_; rintro e w6 ⟨rfl, rfl⟩
          go_wp2_with fail
          refine (is_all _ cq tq _ _ _ (HV2.out.up HB.out) HRQ.out.1).mono ?_; rintro e w7 ⟨rfl, hb7⟩
          have hS7 := HS.out.up hb7
          have HB7 := Lib.hid (HB.out.trans (hb7.mono HB.out.size))
          have hr7 : w7.heap[(R (rix (q : Int))).block]? = some (.cells cq tq (0, 0)) := by rw [hb7.block _ (Array.getElem?_eq_some_iff.1 HRQ.out.1).1]; exact HRQ.out.1
          have hn7 : w7.heap[(R (rix n)).block]? = some (.cells cn tn (0, 0)) := by rw [hb7.block _ (Array.getElem?_eq_some_iff.1 HRQ.out.2).1]; exact HRQ.out.2
          have HG7 := Lib.hid hS7.glob
          clear hb7 hS7
          rw [show finds (R (rix (q : Int))) (.fault op at_ (.root (R (rix n)))) = decide (R (rix n) = R (rix (q : Int))) from rfl]
          by_cases hrr : R (rix n) = R (rix (q : Int))
          · have heq := run_eql_iface_ptr_same (P := Tryd.prog) w7 (R (rix (q : Int))) Tryd.underlying26 Tryd.underlying126 hi hcmp hj
            rw [decide_eq_true hrr]
            have HRR := Lib.hid hrr
            clear hrr hr7 hn7
            go_wp2_with fail
            refine (rawRootF q _ R HG7.out).mono ?_; rintro e w8 ⟨rfl, rfl⟩
            go_wp2_with fail
            refine (rawRootF n _ R HG7.out).mono ?_; rintro e w8 ⟨rfl, rfl⟩
            rw [HRR.out]
            go_wp2
            go_roundw
            case rel => exact ⟨q, hk12, rfl, HB7.out⟩
            case measure => simp [intOf]; omega
          · have heq := run_eql_iface_ptr_other (P := Tryd.prog) w7 Tryd.underlying26 Tryd.underlying126 hi hcmp hj (by rw [hjs]; decide) (fun e => hrr e.symm) hr7 hn7
            rw [decide_eq_false hrr]
            clear hrr hr7 hn7
            go_wp2_with fail
            refine (rawRootF q _ R HG7.out).mono ?_; rintro e w8 ⟨rfl, rfl⟩
            go_wp2_with fail
            refine (rawRootF n _ R HG7.out).mono ?_; rintro e w8 ⟨rfl, rfl⟩
            go_wp2
            go_roundw
            case rel => exact ⟨q, hk12, rfl, HB7.out⟩
            case measure => simp [intOf]; omega
        · have k1 : ¬ (q : Int) ≤ 12 := by omega
          have mE := methodErrorE
          have mF := methodErrorF
          go_wp2_with fail
          refine (new_err _ _ n _ R HS.out.glob hnb).mono ?_; rintro e w6 ⟨rfl, h6⟩
          obtain ⟨g6, hg6⟩ : ∃ g6, wr.heap.size = g6 := ⟨_, rfl⟩
          rw [hg6]
          have hb6 : Below wr.heap.size wr w6 := by rw [h6]; exact balloc (bnil wr) _
          have hh6 : w6.heap[g6]? = some (faultObj op at_ (.iface 126 (.pointer (some (R (rix n)))))) := by rw [h6, ← hg6]; exact heap_alloc_new wr _
          have hb26 := HB.out.trans (hb6.mono HB.out.size)
          have hhe : w6.heap[ge]? = some (faultObj op at_ (.iface 126 (.pointer (some (R (rix n)))))) := by rw [hb26.block _ (Array.getElem?_eq_some_iff.1 HG2.out).1]; exact HG2.out
          have hgl : ge < w2.heap.size := (Array.getElem?_eq_some_iff.1 HG2.out).1
          have hgne : g6 ≠ ge := by have := HB.out.size; omega
          have hneq := run_neq_iface_ptr_otherM (P := Tryd.prog) w6 Tryd.underlying26 Tryd.underlying57 hi2 hcmp2 hj2 (by rw [hjs2]; decide) (show (⟨g6, 0, none⟩ : Addr) ≠ ⟨ge, 0, none⟩ from fun e => hgne (congrArg Addr.block e)) hh6 hhe
          obtain ⟨tx, htx, htl⟩ := HX.out _ (rix_ltF n)
          have HB6 := Lib.hid (HB2.out.trans (hb26.mono HB2.out.size))
          have htx6 := cpF HB6.out htx
          have HHE := Lib.hid hhe
          clear h6 hg6 hb6 hb26 htx hh6 hhe hgl hgne
          go_wp2_with fail
          refine (fault_error _ _ _ _ _ _ HHE.out htx6 (HTB.out.up HB6.out) h0.1 h0.2 hop htl).mono ?_; rintro e w7 ⟨rfl, hb7⟩
          have htx7 := cpF hb7 htx6
          have HB7 := Lib.hid (HB6.out.trans (hb7.mono HB6.out.size))
          clear hb7 htx6 hneq
          have hft : faultText op at_ tx = op ++ ⟨#[32]⟩ ++ ⟨(Lib.itoa at_).toArray⟩ ++ ⟨#[58, 32]⟩ ++ tx := by unfold faultText; simp only [ByteArray.append_assoc]
          rw [hft]
          have hil := Lib.itoa_length_le at_ h0.1 h0.2
          have hsz : (⟨(Lib.itoa at_).toArray⟩ : ByteArray).size ≤ 21 := by show ((Lib.itoa at_).toArray).size ≤ 21; simpa using hil
          have HI := Lib.hid (Tryd.strconv_Itoa at_ h0.1 h0.2 w7 (HTB.out.up HB7.out))
          clear hft hil
          generalize (⟨(Lib.itoa at_).toArray⟩ : ByteArray) = it at *
          go_wp2_with fail
          refine HI.out.mono ?_; rintro e w8 ⟨rfl, q8, os8, h8⟩
          have hb8 : Below w7.heap.size w7 w8 := by rw [h8]; exact bgrow w7 q8 os8
          have htx8 := cpF hb8 htx7
          have HB8 := Lib.hid (HB7.out.trans (hb8.mono HB7.out.size))
          clear h8 hb8 htx7
          go_wp2_with fail
          refine (rawRootF n _ R (HE.out.sent.up HB8.out).glob).mono ?_; rintro e w9 ⟨rfl, rfl⟩
          go_wp2
          go_ret
          exact ⟨rfl, HB8.out⟩
end Go.Proofs.YtckipboebllkhaaDoor
