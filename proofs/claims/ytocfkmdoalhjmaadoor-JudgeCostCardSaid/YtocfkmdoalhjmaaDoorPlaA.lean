/- The contracts of plane.Check and edenref22.Check, for any numbers. -/
import Derived.Test.YtocfkmdoalhjmaaDoorRefPC
namespace Go.Proofs.YtocfkmdoalhjmaaDoor
open Go.RowKit
set_option linter.unusedVariables false
set_option maxRecDepth 100000

theorem plcheck1 (w : World) : PredOf 81 #[] cellB w := by
  intro W x hb
  have key : ∀ b, cellB x = b → Calls Tryd.prog 81 #[.int .i64 x] W fun e w' => e = .returned (.bool b) ∧ ∃ n, w' = W.drewN n := by
    intro b hbx
    by_cases h0 : x = 0
    · subst h0
      obtain rfl : b = false := by rw [← hbx]; decide
      go_enter Tryd.func81, Tryd.ntmps81
      go_wp2
      go_ret
      exact ⟨rfl, 0, rfl⟩
    by_cases h1 : x = 1
    · subst h1
      obtain rfl : b = false := by rw [← hbx]; decide
      go_enter Tryd.func81, Tryd.ntmps81
      go_wp2
      go_ret
      exact ⟨rfl, 0, rfl⟩
    obtain rfl : b = true := by rw [← hbx]; exact cellB_true.2 ⟨h0, h1⟩
    have n0 : (x != 0) = true := by rw [bne_iff_ne]; exact h0
    have n1 : (x != 1) = true := by rw [bne_iff_ne]; exact h1
    clear h0 h1 hbx
    go_enter Tryd.func81, Tryd.ntmps81
    go_wp2
    go_ret
    exact ⟨rfl, 0, rfl⟩
  exact key _ rfl
structure IsTab (l : List Int) : Prop where
  len : l.length = 512
  sym : ∀ x ∈ l, x = 0 ∨ x = 1
/-- a table's fault -/
def tabD (l : List Int) : ErrD := if l.length ≠ 512 then some ([(opPlane, 0)], 1) else if 0 ≤ idxI cellB l then some ([(opPlane, 1 + idxI cellB l)], 1) else none
theorem tabD_none {l : List Int} (h : tabD l = none) : IsTab l := by
  unfold tabD at h
  split at h
  · cases h
  rename_i h1
  split at h
  · cases h
  rename_i h2
  exact ⟨Decidable.byContradiction h1, fun x hx => cellB_false.1 (idxI_neg h2 x hx)⟩
theorem tabD_of {l : List Int} (h : IsTab l) : tabD l = none := by
  unfold tabD
  rw [if_neg (fun h2 => h2 h.len), if_neg]
  intro h2
  have hno : idxI cellB l = -1 := by
    unfold idxI
    rw [List.findIdx?_eq_none_iff.2 fun x hx => by simpa using cellB_false.2 (h.sym x hx)]
  omega
set_option maxHeartbeats 4000000 in
theorem plcheck_any (a : Option Addr) (n c : Nat) (l : List Int) (W : World) (R : Nat → Addr) (hS : Sent W R) (hR : RK .i64 W a n l) (hm : n ≤ maxLen) :
    Calls Tryd.prog 34 #[.slice a n c] W fun e w' => ∃ ev, e = .returned ev ∧ EC R w' ev (tabD l) ∧ (ev = .nilIface ∨ ∃ g, ev = .iface 117 (.pointer (some ⟨g, 0, none⟩))) ∧ Below W.heap.size W w' := by
  have hmx : n ≤ 9223372036854775807 := hm
  have HL := Lib.hid hR.len
  have HR := Lib.hid hR; clear hR
  have HSN := Lib.hid hS; clear hS
  obtain ⟨i, hi⟩ : ∃ i, idxI cellB l = i := ⟨_, rfl⟩
  have hib := idxI_bd cellB l
  rw [hi, ← HL.out] at hib
  obtain ⟨hi1, hi2⟩ := hib
  have HE : Hid (∀ (w0 : World) (hb : Below W.heap.size W w0) (at_ num : Int), EC R (w0.alloc (faultObj opPlane at_ (.iface 199 (.pointer (some (R (rix num))))))) (.iface 117 (.pointer (some ⟨w0.heap.size, 0, none⟩))) (some ([(opPlane, at_)], num))) := fun w0 hb at_ num => ec_err ((HSN.out.up hb).up (balloc (bnil w0) _)) (isErr_new (Nat.le_refl _))
  have HG := Lib.hid HSN.out.glob
  have HI := Lib.hid hi
  clear hi
  by_cases c0 : n ≠ 512
  · have hd : tabD l = some ([(opPlane, 0)], 1) := by unfold tabD; rw [if_pos (by rw [← HL.out]; exact c0)]
    have HD := Lib.hid hd; clear hd
    have cb : ((n : Int) != 512) = true := by rw [bne_iff_ne]; omega
    have cb2 : ((n : Int) == 512) = false := by rw [beq_eq_false_iff_ne]; omega
    clear c0
    go_enter Tryd.func34, Tryd.ntmps34
    go_wp2_with fail
    refine (plane_wrong _ _ _ R HG.out rfl).mono ?_; rintro e w1 ⟨rfl, rfl⟩
    go_wp2
    go_ret
    rw [HD.out]
    exact ⟨_, rfl, HE.out _ (bnil W) _ _, .inr ⟨_, rfl⟩, balloc (bnil W) _⟩
  obtain rfl : n = 512 := Decidable.byContradiction c0
  have hd : tabD l = if 0 ≤ i then some ([(opPlane, 1 + i)], 1) else none := by
    unfold tabD
    rw [if_neg (fun h => h HL.out.symm), HI.out]
  have HD := Lib.hid hd
  clear hd c0
  have hcall : Calls Tryd.prog 80 #[.slice a 512 c, .func (.func 81) #[] #[]] W fun e w' => e = .returned (.int .i64 i) ∧ ∃ m, w' = W.drewN m := by
    have := indexFunc_any a 512 c l 81 #[] cellB W HR.out hm (enters_of Tryd.func81 (by kernel_rfl) rfl) (plcheck1 W)
    rwa [HI.out] at this
  have HCALL := Lib.hid hcall
  clear hcall
  by_cases c3 : 0 ≤ i
  · have hd := HD.out
    rw [if_pos c3] at hd
    have HD2 := Lib.hid hd; clear hd
    go_enter Tryd.func34, Tryd.ntmps34
    go_wp2_with fail
    refine HCALL.out.mono ?_; rintro e w9 ⟨rfl, m, rfl⟩
    go_wp2_with fail
    refine (plane_wrong _ _ _ R (Glob.drewN HG.out) rfl).mono ?_; rintro e w9 ⟨rfl, rfl⟩
    go_wp2
    go_ret
    rw [HD2.out]
    exact ⟨_, rfl, HE.out _ (bdrewN (bnil W) m) _ _, .inr ⟨_, rfl⟩, balloc (bdrewN (bnil W) m) _⟩
  · have hd := HD.out
    rw [if_neg c3] at hd
    have HD2 := Lib.hid hd; clear hd
    go_enter Tryd.func34, Tryd.ntmps34
    go_wp2_with fail
    refine HCALL.out.mono ?_; rintro e w9 ⟨rfl, m, rfl⟩
    go_wp2
    go_ret
    rw [HD2.out]
    exact ⟨_, rfl, rfl, .inl rfl, bdrewN (bnil W) m⟩
theorem plcheck_ok (a : Option Addr) (n c : Nat) (l : List Int) (W : World) (R : Nat → Addr) (hS : Sent W R) (hR : RK .i64 W a n l) (hm : n ≤ maxLen) (hp : IsTab l) :
    Calls Tryd.prog 34 #[.slice a n c] W fun e w' => e = .returned .nilIface ∧ Below W.heap.size W w' := by
  refine (plcheck_any a n c l W R hS hR hm).mono ?_
  rintro e w' ⟨ev, rfl, he, _, hb⟩
  rw [tabD_of hp] at he
  exact ⟨by rw [show ev = .nilIface from he], hb⟩
theorem plcheck_er (a : Option Addr) (n c : Nat) (l : List Int) (W : World) (R : Nat → Addr) (hS : Sent W R) (hR : RK .i64 W a n l) (hm : n ≤ maxLen) (hp : tabD l ≠ none) :
    Calls Tryd.prog 34 #[.slice a n c] W fun e w' => ∃ g, e = .returned (.iface 117 (.pointer (some ⟨g, 0, none⟩))) ∧ EC R w' (.iface 117 (.pointer (some ⟨g, 0, none⟩))) (tabD l) ∧ Below W.heap.size W w' := by
  refine (plcheck_any a n c l W R hS hR hm).mono ?_
  rintro e w' ⟨ev, rfl, he, hi, hb⟩
  rcases hi with rfl | ⟨g, rfl⟩
  · cases hx : tabD l with
    | none => exact absurd hx hp
    | some x =>
      rw [hx] at he
      obtain ⟨t, p, e⟩ := Chain.iface he
      cases e
  · exact ⟨g, rfl, he, hb⟩

set_option maxHeartbeats 8000000 in
theorem refplcheck_any (a : Option Addr) (n c : Nat) (l : List Int) (W : World) (hR : RK .i64 W a n l) (hm : n ≤ maxLen) :
    Calls Tryd.prog 35 #[.slice a n c] W (RefRet W (tabD l)) := by
  have hnl := hR.len
  have hmx : n ≤ 9223372036854775807 := hm
  have T0 := Tk.nil W
  have T1 := T0.add (fun wv => Below W.heap.size W wv) (bnil W)
  clear T0
  have T2 := T1.add (fun wv => RK .i64 wv a n l) (hR)
  clear T1
  clear hR
  obtain ⟨Wb, hWb⟩ : ∃ Wb, W.alloc (.cells #[.int .i64 0, .slice none 0 0, .slice none 0 0] 48) = Wb := ⟨_, rfl⟩
  have hbWb : Below W.heap.size W Wb := by rw [← hWb]; exact balloc (bnil W) _
  have T3 := T2.up hbWb
  clear T2
  have HWb := Lib.hid hWb
  clear hWb hbWb
  have hz : Wb.heap[W.heap.size]? = some (.cells #[.int .i64 0, .slice none 0 0, .slice none 0 0] 48) := by
    rw [← HWb.out]
    exact heap_alloc_new W _
  have T4 := T3.add (fun wv => wv.heap[W.heap.size]? = some (.cells #[.int .i64 0, .slice none 0 0, .slice none 0 0] 48)) (hz)
  clear T3
  clear hz
  by_cases c0 : n ≠ 512
  · skip
    have hd : tabD l = some ([(opPlane, 0)], 1) := by unfold tabD; rw [if_pos (by rw [← hnl]; exact c0)]
    have HD := Lib.hid hd
    have cb : ((n : Int) != 512) = true := by rw [bne_iff_ne]; omega
    have cb2 : ((n : Int) == 512) = false := by rw [beq_eq_false_iff_ne]; omega
    clear hd c0 hnl
    go_enter Tryd.func35, Tryd.ntmps35
    have sb0 : W.heap.size < Wb.heap.size := heap_ltT (T4.out.2)
    go_wp2_with fail
    rw [HWb.out]
    refine (rawNew_fresh _ _ _ _ rfl).mono ?_; rintro e w8 ⟨b1, b2, rfl, lb1, lb2, hw8, hbw8⟩
    have T5 := T4.up hbw8
    clear T4
    obtain ⟨w9, e9, ⟨r0, r1, r2⟩, hret⟩ := er_at (Nat.le_refl _) (T5.out.2) (T5.out.1.1.2) (by omega) (by omega) hw8
    obtain ⟨⟨q0, q1, q2⟩, f0, f1, f2⟩ := p_cells (T5.out.2)
    have HRET := Lib.hid hret
    have HE9 := Lib.hid e9
    have HR9 := Lib.hid (And.intro r0 (And.intro r1 r2))
    clear hw8 hret lb1 lb2 sb0 e9 r0 r1 r2
    go_wp2
    rw [HE9.out]
    have r0 := HR9.out.1
    have r1 := HR9.out.2.1
    have r2 := HR9.out.2.2
    refine bodyPost_ret (v := .agg #[.int .i64 1, .slice (some ⟨b1, 0, none⟩) 1 1, .slice (some ⟨b2, 0, none⟩) 1 1]) (by simp [results, Tryd.results35, go_sem, r0, r1, r2]) rfl ?_
    rw [HD.out]
    exact HRET.out
  have hn : n = 512 := Decidable.byContradiction c0
  have hD : Hid (tabD l = if 0 ≤ idxI cellB l then some ([(opPlane, 1 + idxI cellB l)], 1) else none) := by
    show _ = _
    unfold tabD
    rw [if_neg (by rw [← hnl]; exact c0)]
  have HNL := Lib.hid hnl
  subst hn
  clear c0 hnl
  go_enter Tryd.func35, Tryd.ntmps35
  go_wp2_with fail
  rw [HWb.out]
  go_loop [3] (fun ix => ∃ i : Nat, i ≤ 512 ∧ ix = .int .i64 i ∧ ∀ x ∈ l.take i, cellB x = false) (fun ix => 512 - (intOf ix).toNat)
  case atStart => exact ⟨0, by omega, rfl, fun x hx => by simp at hx⟩
  case round =>
    obtain ⟨i, hi, rfl, hall⟩ := hrel
    have HA := Lib.hid hall
    clear hall
    by_cases hin : i < 512
    · skip
      obtain ⟨ab, ao, hab0, hab, hcell⟩ := (T4.out.1.2).addr (by omega)
      subst hab0
      have z0 := hcell i hin
      have hnext : Hid (cellB (l.getD i 0) = false → ∀ x ∈ l.take (i + 1), cellB x = false) := fun hc => all_take_succ (by have := HNL.out; omega) HA.out hc
      have hhit : Hid (cellB (l.getD i 0) = true → idxI cellB l = (i : Int)) := fun hc => findIdx_at (by have := HNL.out; omega) HA.out hc
      generalize l.getD i 0 = u at z0 hnext hhit
      have i0 : (0 : Int) ≤ (i : Int) := by omega
      have i1 : (i : Int) < 512 := by omega
      clear hcell
      by_cases hu : u = 0 ∨ u = 1
      · skip
        have HN := Lib.hid (hnext.out (cellB_false.2 hu))
        clear hnext hhit
        rcases hu with rfl | rfl
        · skip
          go_wp2
          go_round
          case rel => exact ⟨i + 1, by omega, by go_num, HN.out⟩
          case measure => simp [intOf]; omega
        · skip
          go_wp2
          go_round
          case rel => exact ⟨i + 1, by omega, by go_num, HN.out⟩
          case measure => simp [intOf]; omega
      · skip
        have hi2 := hhit.out (cellB_true.2 (by omega))
        have hd := hD.out
        rw [if_pos (by omega), hi2] at hd
        have HD := Lib.hid hd
        have hu0 : (u != 0) = true := by rw [bne_iff_ne]; omega
        have hu1 : (u != 1) = true := by rw [bne_iff_ne]; omega
        clear hd hi2 hu hhit hnext
        have sb0 : W.heap.size < Wb.heap.size := heap_ltT (T4.out.2)
        go_wp2_with fail
        refine (rawNew_fresh _ _ _ _ rfl).mono ?_; rintro e w8 ⟨b1, b2, rfl, lb1, lb2, hw8, hbw8⟩
        have T5 := T4.up hbw8
        clear T4
        obtain ⟨w9, e9, ⟨r0, r1, r2⟩, hret⟩ := er_at (Nat.le_refl _) (T5.out.2) (T5.out.1.1.2) (by omega) (by omega) hw8
        obtain ⟨⟨q0, q1, q2⟩, f0, f1, f2⟩ := p_cells (T5.out.2)
        have HRET := Lib.hid hret
        have HE9 := Lib.hid e9
        have HR9 := Lib.hid (And.intro r0 (And.intro r1 r2))
        clear hw8 hret lb1 lb2 sb0 e9 r0 r1 r2
        go_wp2
        rw [HE9.out]
        have r0 := HR9.out.1
        have r1 := HR9.out.2.1
        have r2 := HR9.out.2.2
        refine bodyPost_ret (v := .agg #[.int .i64 1, .slice (some ⟨b1, 0, none⟩) 1 1, .slice (some ⟨b2, 0, none⟩) 1 1]) (by simp [results, Tryd.results35, go_sem, r0, r1, r2]) rfl ?_
        rw [HD.out]
        exact HRET.out
    · skip
      obtain rfl : i = 512 := by omega
      have hno : idxI cellB l = -1 := findIdx_none fun x hx => HA.out x (by rw [List.take_of_length_le (by have := HNL.out; omega)]; exact hx)
      have hd := hD.out
      rw [if_neg (by omega)] at hd
      have HD := Lib.hid hd
      clear hd hno
      obtain ⟨⟨q0, q1, q2⟩, f0, f1, f2⟩ := p_cells (T4.out.2)
      obtain ⟨w9, e9, ⟨r0, r1, r2⟩, hret⟩ := er_none (Nat.le_refl _) (T4.out.2) (T4.out.1.1.2)
      have HRET := Lib.hid hret
      have HE9 := Lib.hid e9
      have HR9 := Lib.hid (And.intro r0 (And.intro r1 r2))
      clear hret e9 r0 r1 r2
      go_wp2
      rw [HE9.out]
      have r0 := HR9.out.1
      have r1 := HR9.out.2.1
      have r2 := HR9.out.2.2
      refine bodyPost_ret (v := .agg #[.int .i64 0, .slice none 0 0, .slice none 0 0]) (by simp [results, Tryd.results35, go_sem, r0, r1, r2]) rfl ?_
      rw [HD.out]
      exact HRET.out
end Go.Proofs.YtocfkmdoalhjmaaDoor
