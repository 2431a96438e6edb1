/- edentop.seeks. -/
import Derived.Test.YtoaooblodgejdaaDoorEvR
import Derived.Test.YtoaooblodgejdaaDoorJdgG
namespace Go.Proofs.YtoaooblodgejdaaDoor
open Go.RowKit
set_option linter.unusedVariables false
set_option maxRecDepth 100000
abbrev fz : Obj := .cells #[.int .i64 0, .int .i64 0, .int .i64 0, .slice none 0 0, .slice none 0 0] 28
theorem heapF {w w2 : World} {g : Nat} {o : Obj} (h : Below w.heap.size w w2) (hg : w.heap[g]? = some o) : w2.heap[g]? = some o := (h.block g (heap_ltT hg)).trans hg
theorem hallocF {w : World} {g : Nat} {o o2 : Obj} (hg : w.heap[g]? = some o) : (w.alloc o2).heap[g]? = some o := heapF (balloc (bnil w) o2) hg
theorem hdrewF {w : World} {g : Nat} {o : Obj} (hg : w.heap[g]? = some o) : w.drew.heap[g]? = some o := hg
theorem hnewF {w : World} {g : Nat} {o : Obj} (hg : g = w.heap.size) : (w.alloc o).heap[g]? = some o := by rw [hg]; exact heap_alloc_new w o
theorem leW {a b : Nat} {k : Nat} (h : a + k ≤ b) : a ≤ b := by omega
theorem contF {p q : Prop} (h : p) (k : p → q) : q := k h
theorem cells_same {w w2 : World} (h : Below w.heap.size w w2) : ∀ p : Addr, p.block < w.heap.size → w2.cell? p = w.cell? p := fun p hp => by simp only [World.cell?, h.block _ hp]
theorem froz_same {w w2 : World} (h : Below w.heap.size w w2) : ∀ p : Addr, p.block < w.heap.size → w2.frozen? p = w.frozen? p := fun p hp => by simp only [World.frozen?, h.block _ hp]
theorem sk_t : (seekF tab0 [1] 1 8 1 512).1.tries = 512 := by decide +kernel
theorem sk_o : (seekF tab0 [1] 1 8 1 512).2 = some false := by decide +kernel
theorem sk_l : (seekF tab0 [1] 1 8 1 512).1.order.length = 64 := by decide +kernel
theorem sk_z : (seekF tab0 [1] 1 8 1 0).1.tries = 0 := by decide +kernel
theorem sk_y : (seekF tab0 [1] 1 8 1 0).2 = none := by decide +kernel
theorem isTab0 : IsTab tab0 := tabD_none (by kernel_rfl)
theorem isP1 : IsPatch 1 1 [1] := by
  obtain ⟨w, h, hw, hh, hp⟩ := patchErr_none (show patchErr 1 1 [1] = none by kernel_rfl)
  obtain rfl : w = 1 := by omega
  obtain rfl : h = 1 := by omega
  exact hp
theorem isP0 : IsPatch 1 1 [0] := by
  obtain ⟨w, h, hw, hh, hp⟩ := patchErr_none (show patchErr 1 1 [0] = none by kernel_rfl)
  obtain rfl : w = 1 := by omega
  obtain rfl : h = 1 := by omega
  exact hp
theorem search_512 (a aT aL : Option Addr) (c cT : Nat) (W : World) (R : Nat → Addr) (hS : Sent W R) (hR : RK .i64 W a 1 [1]) (hT : RK .i64 W aT 512 tab0) (hL : NR W aL 1 [512]) :
    Calls Tryd.prog 15 #[.slice aT 512 cT, .agg #[.int .i64 1, .int .i64 1, .slice a 1 c], .slice aL 1 2] W fun e w' => ∃ a' c', e = .returned (.tuple #[fndV 2 0 0 none 0 0 a' 196 c', .int .i64 512, .nilIface]) ∧ Below W.heap.size W w' := by
  obtain ⟨b, o, rfl, _⟩ := hT.addr (by omega)
  refine (evsearch_ok 1 1 a 1 c b o cT [1] tab0 aL 1 2 [512] W R hS hR (by unfold maxLen; omega) i64_1 hT hL (by omega) (by unfold maxLen; omega) isTab0 isP1 (by omega) (by omega)).mono ?_
  rintro e w' ⟨vf, ev, rfl, hb, hq⟩
  rw [col_0] at hq ⊢
  have e1 : granted (val [512]) = 512 := by decide
  rw [e1] at hq ⊢
  change SrEnd R _ w' 1 1 (seekF tab0 [1] 1 8 1 512) vf ev at hq
  have e2 : (seekF tab0 [1] 1 (4 * 2 ^ 1) 1 512).1.tries = 512 := sk_t
  rw [e2]
  unfold SrEnd at hq
  rw [sk_o] at hq
  obtain ⟨a', c', rfl, rfl, _⟩ := hq
  rw [sk_l]
  exact ⟨a', c', rfl, hb⟩
theorem search_0 (a aT : Option Addr) (c cT : Nat) (W : World) (R : Nat → Addr) (hS : Sent W R) (hR : RK .i64 W a 1 [1]) (hT : RK .i64 W aT 512 tab0) :
    Calls Tryd.prog 15 #[.slice aT 512 cT, .agg #[.int .i64 1, .int .i64 1, .slice a 1 c], .slice none 0 0] W fun e w' => ∃ t p, e = .returned (.tuple #[fndV 0 0 0 none 0 0 none 0 0, .int .i64 0, .iface t p]) ∧ EC R w' (.iface t p) (some ([(opEve, 2)], 5)) ∧ Below W.heap.size W w' := by
  obtain ⟨b, o, rfl, _⟩ := hT.addr (by omega)
  refine (evsearch_ok 1 1 a 1 c b o cT [1] tab0 none 0 0 [] W R hS hR (by unfold maxLen; omega) i64_1 hT ⟨RK.nil, nofun⟩ (by omega) (by unfold maxLen; omega) isTab0 isP1 (by omega) (by omega)).mono ?_
  rintro e w' ⟨vf, ev, rfl, hb, hq⟩
  rw [col_0] at hq ⊢
  have e1 : granted (val []) = 0 := by decide
  rw [e1] at hq ⊢
  change SrEnd R _ w' 1 1 (seekF tab0 [1] 1 8 1 0) vf ev at hq
  have e2 : (seekF tab0 [1] 1 (4 * 2 ^ 1) 1 0).1.tries = 0 := sk_z
  rw [e2]
  unfold SrEnd at hq
  rw [sk_y] at hq
  obtain ⟨rfl, he⟩ := hq
  obtain ⟨t9, p9, rfl⟩ := Chain.iface he
  exact ⟨t9, _, rfl, he, hb⟩

set_option maxHeartbeats 32000000 in
theorem seeks_any (W : World) (R : Nat → Addr) (hS : Sent W R) : Calls Tryd.prog 45 #[] W fun e w' => e = .returned (.bool true) ∧ Below W.heap.size W w' := by
  have HS := Lib.hid hS
  clear hS
  obtain ⟨ZC, hzl, hmk⟩ := mk512
  have HZ := Lib.hid hzl
  clear hzl
  have D0 : Hid (Below W.heap.size W W.drew) := Below.drew (bnil W)
  have HJ : Hid (∀ (w : World) (a aT aL : Option Addr) (c cT : Nat), Below W.heap.size W w → RK .i64 w a 1 [1] → RK .i64 w aT 512 tab0 → NR w aL 1 [512] → Calls Tryd.prog 15 #[.slice aT 512 cT, .agg #[.int .i64 1, .int .i64 1, .slice a 1 c], .slice aL 1 2] w (fun e w' => ∃ a' c', e = .returned (.tuple #[fndV 2 0 0 none 0 0 a' 196 c', .int .i64 512, .nilIface]) ∧ Below w.heap.size w w' ∧ Below W.heap.size W w')) := by
    intro w a aT aL c cT hb h1 h2 h3
    refine (search_512 a aT aL c cT w R (HS.out.up hb) h1 h2 h3).mono ?_
    rintro e w' ⟨a', c', rfl, hb2⟩
    exact ⟨a', c', rfl, hb2, bstep hb hb2⟩
  go_enter Tryd.func45, Tryd.ntmps45
  go_upto_region 1 with (fail)
  go_cut [1, 2, 3] from 7 (fun s1 s2 s3 wx => ∃ g, s1 = .pointer (some ⟨g, 0, none⟩) ∧ s2 = .int .i64 512 ∧ s3 = .nilIface ∧ wx.cell? ⟨g, 0, none⟩ = some (.int .i64 2) ∧ Below W.heap.size W wx)
  case first =>
    go_region_held3 (fun _ => True)
      (exact trivial)
      (first
        | (go_at_call 16; refine (from_any 512 _ (by decide)).mono ?_; rintro e w1 ⟨n1, rfl, ho1, hn1, hb1⟩; obtain rfl : n1 = 1 := hn1.nr.len; have hq1 : NR w1 _ 1 [512] := hn1.nr; (try simp at hq1); have HR1 := Lib.hid hq1; have HB1 := Lib.hid hb1; (have hh1 := hb1.size; (try simp at hh1); have HW1 : Hid (W.heap.size ≤ w1.heap.size) := (by show W.heap.size ≤ w1.heap.size; omega); clear hh1); (first | (refine contF (show Hid (w1.heap[W.heap.size]? = some fz) from heapF hb1 ?_) ?_; (focus ((repeat (first | with_reducible exact hnewF rfl | with_reducible refine hnewF (Eq.refl _) | (with_reducible refine hnewF ?_; (focus (simp; done))) | with_reducible refine hallocF ?_ | with_reducible refine hdrewF ?_)); done)); intro HZ1) | (refine contF (show Hid (w1.heap[W.heap.size + 1]? = some fz) from heapF hb1 ?_) ?_; (focus ((repeat (first | with_reducible exact hnewF rfl | with_reducible refine hnewF (Eq.refl _) | (with_reducible refine hnewF ?_; (focus (simp; done))) | with_reducible refine hallocF ?_ | with_reducible refine hdrewF ?_)); done)); intro HZ1) | (refine contF (show Hid (w1.heap[W.heap.size + 1 + 1]? = some fz) from heapF hb1 ?_) ?_; (focus ((repeat (first | with_reducible exact hnewF rfl | with_reducible refine hnewF (Eq.refl _) | (with_reducible refine hnewF ?_; (focus (simp; done))) | with_reducible refine hallocF ?_ | with_reducible refine hdrewF ?_)); done)); intro HZ1) | skip); clear ho1 hn1 hb1 hq1)
        | (go_at_call 15; refine (HJ.out _ _ _ _ _ _ ?_ ?_ ?_ ?_).mono ?_; (focus repeat (first | with_reducible exact bnil _ | with_reducible exact D0.out | with_reducible refine Below.drew ?_ | with_reducible refine balloc ?_ _ | with_reducible refine bstep ?_ HB1.out)); (focus repeat (first | with_reducible exact rkV _ (by simp) | with_reducible refine RK.up ?_ HB1.out | with_reducible refine RK.drw ?_ | with_reducible refine RK.al ?_ _)); (focus repeat (first | with_reducible exact rkZ HZ.out (by simp) | with_reducible refine RK.up ?_ HB1.out | with_reducible refine RK.drw ?_ | with_reducible refine RK.al ?_ _)); (focus repeat (first | with_reducible exact HR1.out | with_reducible refine NR.up ?_ (Below.drew (bnil _)) | with_reducible refine NR.up ?_ (balloc (bnil _) _))); (rintro e w2 ⟨a2, c2, rfl, hb2, hb3⟩; have HB2 := Lib.hid hb2; have HB3 := Lib.hid hb3; clear hb3; (first | (have q := HZ1; refine contF (show Hid (w2.heap[W.heap.size]? = some fz) from heapF hb2 ?_) ?_; (focus ((repeat (first | with_reducible exact q.out | with_reducible refine hallocF ?_ | with_reducible refine hdrewF ?_)); done)); intro HZ2; have zz := f_cells HZ2.out; have z0 := zz.1.1; have z1 := zz.1.2.1; have z2 := zz.1.2.2.1; have z3 := zz.1.2.2.2.1; have z4 := zz.1.2.2.2.2; have zf0 := zz.2 0; have zf1 := zz.2 1; have zf2 := zz.2 2; have zf3 := zz.2 3; have zf4 := zz.2 4; clear zz) | (have q := HZ1; refine contF (show Hid (w2.heap[W.heap.size + 1]? = some fz) from heapF hb2 ?_) ?_; (focus ((repeat (first | with_reducible exact q.out | with_reducible refine hallocF ?_ | with_reducible refine hdrewF ?_)); done)); intro HZ2; have zz := f_cells HZ2.out; have z0 := zz.1.1; have z1 := zz.1.2.1; have z2 := zz.1.2.2.1; have z3 := zz.1.2.2.2.1; have z4 := zz.1.2.2.2.2; have zf0 := zz.2 0; have zf1 := zz.2 1; have zf2 := zz.2 2; have zf3 := zz.2 3; have zf4 := zz.2 4; clear zz) | (have q := HZ1; refine contF (show Hid (w2.heap[W.heap.size + 1 + 1]? = some fz) from heapF hb2 ?_) ?_; (focus ((repeat (first | with_reducible exact q.out | with_reducible refine hallocF ?_ | with_reducible refine hdrewF ?_)); done)); intro HZ2; have zz := f_cells HZ2.out; have z0 := zz.1.1; have z1 := zz.1.2.1; have z2 := zz.1.2.2.1; have z3 := zz.1.2.2.2.1; have z4 := zz.1.2.2.2.2; have zf0 := zz.2 0; have zf1 := zz.2 1; have zf2 := zz.2 2; have zf3 := zz.2 3; have zf4 := zz.2 4; clear zz) | (refine contF (show Hid (w2.heap[w1.heap.size]? = some fz) from heapF hb2 ?_) ?_; (focus ((repeat (first | with_reducible exact hnewF rfl | with_reducible refine hnewF (Eq.refl _) | (with_reducible refine hnewF ?_; (focus (simp; done))) | with_reducible refine hallocF ?_ | with_reducible refine hdrewF ?_)); done)); intro HZ2; have zz := f_cells HZ2.out; have z0 := zz.1.1; have z1 := zz.1.2.1; have z2 := zz.1.2.2.1; have z3 := zz.1.2.2.2.1; have z4 := zz.1.2.2.2.2; have zf0 := zz.2 0; have zf1 := zz.2 1; have zf2 := zz.2 2; have zf3 := zz.2 3; have zf4 := zz.2 4; clear zz) | (refine contF (show Hid (w2.heap[w1.heap.size + 1]? = some fz) from heapF hb2 ?_) ?_; (focus ((repeat (first | with_reducible exact hnewF rfl | with_reducible refine hnewF (Eq.refl _) | (with_reducible refine hnewF ?_; (focus (simp; done))) | with_reducible refine hallocF ?_ | with_reducible refine hdrewF ?_)); done)); intro HZ2; have zz := f_cells HZ2.out; have z0 := zz.1.1; have z1 := zz.1.2.1; have z2 := zz.1.2.2.1; have z3 := zz.1.2.2.2.1; have z4 := zz.1.2.2.2.2; have zf0 := zz.2 0; have zf1 := zz.2 1; have zf2 := zz.2 2; have zf3 := zz.2 3; have zf4 := zz.2 4; clear zz) | (refine contF (show Hid (w2.heap[w1.heap.size + 1 + 1]? = some fz) from heapF hb2 ?_) ?_; (focus ((repeat (first | with_reducible exact hnewF rfl | with_reducible refine hnewF (Eq.refl _) | (with_reducible refine hnewF ?_; (focus (simp; done))) | with_reducible refine hallocF ?_ | with_reducible refine hdrewF ?_)); done)); intro HZ2; have zz := f_cells HZ2.out; have z0 := zz.1.1; have z1 := zz.1.2.1; have z2 := zz.1.2.2.1; have z3 := zz.1.2.2.2.1; have z4 := zz.1.2.2.2.2; have zf0 := zz.2 0; have zf1 := zz.2 1; have zf2 := zz.2 2; have zf3 := zz.2 3; have zf4 := zz.2 4; clear zz) | skip); clear hb2)))
    all_goals
      go_wp2_with fail
      go_meet
      first
        | (have q := HZ2; obtain ⟨wA, eA, r, hkA, hsA, hbA⟩ := set5f q.out (.int .i64 2) (.int .i64 0) (.int .i64 0) (.slice none 0 0) (.slice a2 196 c2); rw [eA]; exact ⟨_, rfl, rfl, rfl, r.1, hbA W W.heap.size (by have h := HW1.out; omega) HB3.out⟩)
        | (refine ⟨_, rfl, rfl, rfl, cnw ?_ ?_, balloc HB3.out _⟩ <;> rfl)
  case rest =>
    obtain ⟨g, rfl, rfl, rfl, hc, hbc⟩ := hcut
    have HC := Lib.hid hc
    have HBC := Lib.hid hbc
    clear hc hbc D0 HJ
    obtain ⟨w3, hw3⟩ : ∃ w3, (wc.alloc (.cells ZC 3)).alloc (.cells #[.int .i64 1] 3) = w3 := ⟨_, rfl⟩
    have hb3 : Below wc.heap.size wc w3 := by rw [← hw3]; exact balloc (balloc (bnil wc) _) _
    have HT3 : Hid (RK .i64 w3 (some ⟨wc.heap.size, 0, none⟩) 512 tab0) := by show RK _ _ _ _ _; rw [← hw3]; exact (rkZ HZ.out rfl).up (balloc (bnil _) _)
    have HR3 : Hid (RK .i64 w3 (some ⟨wc.heap.size + 1, 0, none⟩) 1 [1]) := by show RK _ _ _ _ _; rw [← hw3]; exact rkV 1 (by simp)
    have HB3 := Lib.hid hb3
    have HW3 := Lib.hid hw3
    clear hb3 hw3
    go_wp2_with fail
    rw [HW3.out]
    refine (search_0 _ _ 1 512 w3 R ((HS.out.up HBC.out).up HB3.out) HR3.out HT3.out).mono ?_; rintro e w4 ⟨t4, p4, rfl, he4, hb4⟩
    have HE4 := Lib.hid he4
    have HB4 := Lib.hid hb4
    obtain ⟨w5, hw5⟩ : ∃ w5, w4.alloc (.cells #[.int .i64 0, .int .i64 0, .int .i64 0, .slice none 0 0, .slice none 0 0] 28) = w5 := ⟨_, rfl⟩
    have HB5 : Hid (Below w4.heap.size w4 w5) := by show Below _ _ _; rw [← hw5]; exact balloc (bnil w4) _
    have HC5 : Hid (Below wc.heap.size wc w5) := by show Below _ _ _; exact bstep (bstep HB3.out HB4.out) HB5.out
    have c5 := cpa HC5.out HC.out
    have HS5 : Hid (Sent w5 R) := (HS.out.up HBC.out).up HC5.out
    have gl : w5.cell? ⟨0, 0, none⟩ = some (nbV R) := HS5.out.glob 4 (by omega)
    have HW5 := Lib.hid hw5
    rw [← hw5] at c5 gl
    clear he4 hb4 hw5
    go_wp2_with fail
    rw [HW5.out]
    obtain ⟨cb4, tb4, hrw⟩ := HS5.out.row 4 (by omega)
    refine (is_any _ [(opEve, 2)] (R 4) (R 4) w5 cb4 tb4 (HE4.out.up HB5.out) hrw).mono ?_; rintro e w6 ⟨rfl, hw6⟩
    rw [decide_eq_true rfl, ← hw6]
    clear hw6 hrw c5 gl
    go_wp2
    go_ret
    exact ⟨rfl, bstep HBC.out HC5.out⟩
end Go.Proofs.YtoaooblodgejdaaDoor
