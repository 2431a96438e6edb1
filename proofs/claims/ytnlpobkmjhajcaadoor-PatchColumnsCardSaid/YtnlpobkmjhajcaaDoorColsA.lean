/- The contract of edenref21.Join, for any numbers. edenlaw21.PatchColumns returns true. -/
import Derived.Test.YtnlpobkmjhajcaaDoorRefB
import Derived.Test.YtnlpobkmjhajcaaDoorKeeps21
namespace Go.Proofs.YtnlpobkmjhajcaaDoor
open Go.RowKit
set_option linter.unusedVariables false
set_option maxRecDepth 100000

theorem joinB_t {h : Nat} {x : Int} (hx : x < 0 ∨ ((2 ^ h : Nat) : Int) ≤ x) : joinB h x = true := by
  unfold joinB
  rw [decide_eq_true_iff]
  rw [Int.toNat_natCast]
  rwa [Int.natCast_pow] at hx
theorem joinB_f {h : Nat} {x : Int} (h1 : 0 ≤ x) (h2 : x < ((2 ^ h : Nat) : Int)) : joinB h x = false := by
  unfold joinB
  rw [decide_eq_false_iff_not]
  rw [Int.toNat_natCast]
  rw [Int.natCast_pow] at h2
  intro h3
  have h4 : ((2 : Nat) : Int) = 2 := rfl
  rw [h4] at h2
  omega
set_option maxHeartbeats 16000000 in
theorem refjoin_any (h : Int) (a : Option Addr) (n c : Nat) (cs : List Int) (W : World) (hR : RK .i64 W a n cs) (hm : n ≤ maxLen) :
    Calls Tryd.prog 30 #[.int .i64 h, .slice a n c] W (PatRef W (joinO h cs) (joinD h cs)) := by
  have hmx : n ≤ 9223372036854775807 := hm
  have hnl := hR.len
  have T0 := Tk.nil W
  have T1 := T0.add (fun wv => Below W.heap.size W wv) (bnil W)
  clear T0
  have T2 := T1.add (fun wv => RK .i64 wv a n cs) (hR)
  clear T1
  clear hR
  obtain ⟨Wb, hWb⟩ : ∃ Wb, (W.alloc (.cells #[.int .i64 0, .int .i64 0, .slice none 0 0] 24)).alloc (.cells #[.int .i64 0, .slice none 0 0, .slice none 0 0] 47) = Wb := ⟨_, rfl⟩
  have hbWb : Below W.heap.size W Wb := by rw [← hWb]; exact balloc (balloc (bnil W) _) _
  have T3 := T2.up hbWb
  clear T2
  have HWb := Lib.hid hWb
  clear hWb hbWb
  have hz1 : Wb.heap[W.heap.size]? = some (.cells #[.int .i64 0, .int .i64 0, .slice none 0 0] 24) := by
    rw [← HWb.out, (balloc (bnil _) (.cells #[.int .i64 0, .slice none 0 0, .slice none 0 0] 47)).block _ (by simp)]
    exact heap_alloc_new W _
  have hz2 : Wb.heap[W.heap.size + 1]? = some (.cells #[.int .i64 0, .slice none 0 0, .slice none 0 0] 47) := by
    rw [← HWb.out]
    have := heap_alloc_new (W.alloc (.cells #[.int .i64 0, .int .i64 0, .slice none 0 0] 24)) (.cells #[.int .i64 0, .slice none 0 0, .slice none 0 0] 47)
    simpa using this
  have hsz : W.heap.size + 1 + 1 = Wb.heap.size := by rw [← HWb.out]; simp
  have T4 := T3.add (fun wv => wv.heap[W.heap.size]? = some (.cells #[.int .i64 0, .int .i64 0, .slice none 0 0] 24)) (hz1)
  clear T3
  have T5 := T4.add (fun wv => wv.heap[W.heap.size + 1]? = some (.cells #[.int .i64 0, .slice none 0 0, .slice none 0 0] 47)) (hz2)
  clear T4
  have HSZ := Lib.hid hsz
  clear hz1 hz2 hsz
  by_cases c0 : h < 1 ∨ 16 < h
  · skip
    have hd : joinD h cs = some ([(opPatch, 0)], 3) := by unfold joinD; rw [if_pos c0]
    have ho : joinO h cs = (0, 0, []) := by unfold joinO; rw [hd]; rfl
    have HOD := Lib.hid (And.intro ho hd)
    clear hd ho hnl 
    by_cases c1 : h < 1
    · skip
      clear c0
      go_enter Tryd.func30, Tryd.ntmps30
      have sb0 : W.heap.size + 1 < Wb.heap.size := heap_ltT (T5.out.2)
      go_wp2_with fail
      rw [HWb.out]
      refine (rawNew_fresh _ _ _ _ rfl).mono ?_; rintro e w8 ⟨b1, b2, rfl, lb1, lb2, hw8, hbw8⟩
      have T6 := T5.up hbw8
      clear T5
      obtain ⟨⟨q0, q1, q2⟩, f0, f1, f2⟩ := p_cells (T6.out.1.2)
      obtain ⟨⟨q3, q4, q5⟩, f3, f4, f5⟩ := p_cells (T6.out.2)
      obtain ⟨w9, e9, e9b, ⟨⟨r0, r1, r2⟩, r3, r4, r5⟩, hret⟩ := pr_err (show W.heap.size ≠ W.heap.size + 1 by omega) (T6.out.1.2) (T6.out.2) (Nat.le_refl _) (show W.heap.size ≤ W.heap.size + 1 by omega) (T6.out.1.1.1.2) (B := W.heap.size + 1 + 1) (by omega) (by omega) (fr_some (by omega)) (fr_some (by omega)) (wc_want hw8) rfl
      have HRET := Lib.hid hret
      have HE9 := Lib.hid (And.intro e9 e9b)
      have HR9 := Lib.hid (And.intro r0 (And.intro r1 (And.intro r2 (And.intro r3 (And.intro r4 r5)))))
      clear hret e9 e9b r0 r1 r2 r3 r4 r5
      clear hw8 lb1 lb2 sb0
      go_wp2
      first | rw [HE9.out.1] | rw [HE9.out.2]
      have r0 := HR9.out.1
      have r1 := HR9.out.2.1
      have r2 := HR9.out.2.2.1
      have r3 := HR9.out.2.2.2.1
      have r4 := HR9.out.2.2.2.2.1
      have r5 := HR9.out.2.2.2.2.2
      refine bodyPost_ret (v := .tuple #[patV 0 0 none 0 0, .agg #[.int .i64 3, .slice (some ⟨b1, 0, none⟩) 1 1, .slice (some ⟨b2, 0, none⟩) 1 1]]) (by simp [results, Tryd.results30, go_sem, r0, r1, r2, r3, r4, r5]) rfl ?_
      rw [HOD.out.1, HOD.out.2]
      exact HRET.out
    · skip
      have c2 : 16 < h := by omega
      have c3 : 1 ≤ h := by omega
      clear c0 c1
      go_enter Tryd.func30, Tryd.ntmps30
      have sb0 : W.heap.size + 1 < Wb.heap.size := heap_ltT (T5.out.2)
      go_wp2_with fail
      rw [HWb.out]
      refine (rawNew_fresh _ _ _ _ rfl).mono ?_; rintro e w8 ⟨b1, b2, rfl, lb1, lb2, hw8, hbw8⟩
      have T6 := T5.up hbw8
      clear T5
      obtain ⟨⟨q0, q1, q2⟩, f0, f1, f2⟩ := p_cells (T6.out.1.2)
      obtain ⟨⟨q3, q4, q5⟩, f3, f4, f5⟩ := p_cells (T6.out.2)
      obtain ⟨w9, e9, e9b, ⟨⟨r0, r1, r2⟩, r3, r4, r5⟩, hret⟩ := pr_err (show W.heap.size ≠ W.heap.size + 1 by omega) (T6.out.1.2) (T6.out.2) (Nat.le_refl _) (show W.heap.size ≤ W.heap.size + 1 by omega) (T6.out.1.1.1.2) (B := W.heap.size + 1 + 1) (by omega) (by omega) (fr_some (by omega)) (fr_some (by omega)) (wc_want hw8) rfl
      have HRET := Lib.hid hret
      have HE9 := Lib.hid (And.intro e9 e9b)
      have HR9 := Lib.hid (And.intro r0 (And.intro r1 (And.intro r2 (And.intro r3 (And.intro r4 r5)))))
      clear hret e9 e9b r0 r1 r2 r3 r4 r5
      clear hw8 lb1 lb2 sb0
      go_wp2
      first | rw [HE9.out.1] | rw [HE9.out.2]
      have r0 := HR9.out.1
      have r1 := HR9.out.2.1
      have r2 := HR9.out.2.2.1
      have r3 := HR9.out.2.2.2.1
      have r4 := HR9.out.2.2.2.2.1
      have r5 := HR9.out.2.2.2.2.2
      refine bodyPost_ret (v := .tuple #[patV 0 0 none 0 0, .agg #[.int .i64 3, .slice (some ⟨b1, 0, none⟩) 1 1, .slice (some ⟨b2, 0, none⟩) 1 1]]) (by simp [results, Tryd.results30, go_sem, r0, r1, r2, r3, r4, r5]) rfl ?_
      rw [HOD.out.1, HOD.out.2]
      exact HRET.out
  have hh1 : 1 ≤ h := by omega
  have hh2 : h ≤ 16 := by omega
  have hh3 : decide (16 < h) = false := decide_eq_false (by omega)
  by_cases c1 : 64 < n
  · skip
    have hd : joinD h cs = some ([(opPatch, 1)], 4) := by unfold joinD; rw [if_neg c0, if_pos (by omega)]
    have ho : joinO h cs = (0, 0, []) := by unfold joinO; rw [hd]; rfl
    have HOD := Lib.hid (And.intro ho hd)
    clear hd ho hnl c0
    have c1I : (64 : Int) < (n : Int) := by omega
    clear c1
    go_enter Tryd.func30, Tryd.ntmps30
    have sb0 : W.heap.size + 1 < Wb.heap.size := heap_ltT (T5.out.2)
    go_wp2_with fail
    rw [HWb.out]
    refine (rawNew_fresh _ _ _ _ rfl).mono ?_; rintro e w8 ⟨b1, b2, rfl, lb1, lb2, hw8, hbw8⟩
    have T6 := T5.up hbw8
    clear T5
    obtain ⟨⟨q0, q1, q2⟩, f0, f1, f2⟩ := p_cells (T6.out.1.2)
    obtain ⟨⟨q3, q4, q5⟩, f3, f4, f5⟩ := p_cells (T6.out.2)
    obtain ⟨w9, e9, e9b, ⟨⟨r0, r1, r2⟩, r3, r4, r5⟩, hret⟩ := pr_err (show W.heap.size ≠ W.heap.size + 1 by omega) (T6.out.1.2) (T6.out.2) (Nat.le_refl _) (show W.heap.size ≤ W.heap.size + 1 by omega) (T6.out.1.1.1.2) (B := W.heap.size + 1 + 1) (by omega) (by omega) (fr_some (by omega)) (fr_some (by omega)) (wc_want hw8) rfl
    have HRET := Lib.hid hret
    have HE9 := Lib.hid (And.intro e9 e9b)
    have HR9 := Lib.hid (And.intro r0 (And.intro r1 (And.intro r2 (And.intro r3 (And.intro r4 r5)))))
    clear hret e9 e9b r0 r1 r2 r3 r4 r5
    clear hw8 lb1 lb2 sb0
    go_wp2
    first | rw [HE9.out.1] | rw [HE9.out.2]
    have r0 := HR9.out.1
    have r1 := HR9.out.2.1
    have r2 := HR9.out.2.2.1
    have r3 := HR9.out.2.2.2.1
    have r4 := HR9.out.2.2.2.2.1
    have r5 := HR9.out.2.2.2.2.2
    refine bodyPost_ret (v := .tuple #[patV 0 0 none 0 0, .agg #[.int .i64 4, .slice (some ⟨b1, 0, none⟩) 1 1, .slice (some ⟨b2, 0, none⟩) 1 1]]) (by simp [results, Tryd.results30, go_sem, r0, r1, r2, r3, r4, r5]) rfl ?_
    rw [HOD.out.1, HOD.out.2]
    exact HRET.out
  by_cases c2 : n = 0
  · skip
    have hd : joinD h cs = some ([(opPatch, 1)], 3) := by unfold joinD; rw [if_neg c0, if_neg (by omega), if_pos (by omega)]
    have ho : joinO h cs = (0, 0, []) := by unfold joinO; rw [hd]; rfl
    have HOD := Lib.hid (And.intro ho hd)
    clear hd ho hnl c0
    subst c2
    go_enter Tryd.func30, Tryd.ntmps30
    have sb0 : W.heap.size + 1 < Wb.heap.size := heap_ltT (T5.out.2)
    go_wp2_with fail
    rw [HWb.out]
    refine (rawNew_fresh _ _ _ _ rfl).mono ?_; rintro e w8 ⟨b1, b2, rfl, lb1, lb2, hw8, hbw8⟩
    have T6 := T5.up hbw8
    clear T5
    obtain ⟨⟨q0, q1, q2⟩, f0, f1, f2⟩ := p_cells (T6.out.1.2)
    obtain ⟨⟨q3, q4, q5⟩, f3, f4, f5⟩ := p_cells (T6.out.2)
    obtain ⟨w9, e9, e9b, ⟨⟨r0, r1, r2⟩, r3, r4, r5⟩, hret⟩ := pr_err (show W.heap.size ≠ W.heap.size + 1 by omega) (T6.out.1.2) (T6.out.2) (Nat.le_refl _) (show W.heap.size ≤ W.heap.size + 1 by omega) (T6.out.1.1.1.2) (B := W.heap.size + 1 + 1) (by omega) (by omega) (fr_some (by omega)) (fr_some (by omega)) (wc_want hw8) rfl
    have HRET := Lib.hid hret
    have HE9 := Lib.hid (And.intro e9 e9b)
    have HR9 := Lib.hid (And.intro r0 (And.intro r1 (And.intro r2 (And.intro r3 (And.intro r4 r5)))))
    clear hret e9 e9b r0 r1 r2 r3 r4 r5
    clear hw8 lb1 lb2 sb0
    go_wp2
    first | rw [HE9.out.1] | rw [HE9.out.2]
    have r0 := HR9.out.1
    have r1 := HR9.out.2.1
    have r2 := HR9.out.2.2.1
    have r3 := HR9.out.2.2.2.1
    have r4 := HR9.out.2.2.2.2.1
    have r5 := HR9.out.2.2.2.2.2
    refine bodyPost_ret (v := .tuple #[patV 0 0 none 0 0, .agg #[.int .i64 3, .slice (some ⟨b1, 0, none⟩) 1 1, .slice (some ⟨b2, 0, none⟩) 1 1]]) (by simp [results, Tryd.results30, go_sem, r0, r1, r2, r3, r4, r5]) rfl ?_
    rw [HOD.out.1, HOD.out.2]
    exact HRET.out
  have hnb : n ≤ 64 := by omega
  have hn1 : 1 ≤ n := by omega
  have hn0 : ((n : Int) == 0) = false := by rw [beq_eq_false_iff_ne]; omega
  obtain ⟨h, rfl⟩ : ∃ h' : Nat, h = (h' : Int) := ⟨h.toNat, by omega⟩
  have hD : Hid (joinD (h : Int) cs = if 0 ≤ idxI (joinB h) cs then some ([(opPatch, 2 + idxI (joinB h) cs)], 3) else none) := by
    show _ = _
    unfold joinD
    rw [if_neg c0, if_neg (by omega), if_neg (by omega)]
  have h16 : h ≤ 16 := by omega
  have h1n : 1 ≤ h := by omega
  have HNL := Lib.hid hnl
  clear c0 c1 c2 hnl
  go_enter Tryd.func30, Tryd.ntmps30
  go_wp2_with fail
  rw [HWb.out]
  go_loop [6, 7] (fun av ix => ∃ i : Nat, i ≤ h ∧ av = .int .i64 ((2 ^ i : Nat) : Int) ∧ ix = .int .i64 i) (fun _ ix => h - (intOf ix).toNat)
  case atStart => exact ⟨0, by omega, rfl, rfl⟩
  case round =>
    obtain ⟨i, hi, rfl, rfl⟩ := hrel
    obtain ⟨Ai, hAi⟩ : ∃ Ai, 2 ^ i = Ai := ⟨_, rfl⟩
    have hA1 : 1 ≤ Ai := by rw [← hAi]; exact Nat.one_le_two_pow
    have hA2 : Ai ≤ 65536 := by rw [← hAi]; exact Nat.pow_le_pow_right (n := 2) (by omega) (show i ≤ 16 by omega)
    rw [hAi]
    have HAI := Lib.hid hAi
    clear hAi
    by_cases hih : i < h
    · skip
      go_wp2
      go_round
      case rel => exact ⟨i + 1, by omega, congrArg (Value.int .i64) (by rw [Nat.pow_succ, HAI.out]; omega), by go_num⟩
      case measure => simp [intOf]; omega
    · skip
      obtain rfl : h = i := by omega
      go_wp2_with fail
      go_loop [8] (fun ix => ∃ i : Nat, i ≤ n ∧ ix = .int .i64 i ∧ ∀ x ∈ cs.take i, joinB h x = false) (fun ix => n - (intOf ix).toNat)
      case atStart => exact ⟨0, by omega, rfl, fun x hx => by simp at hx⟩
      case round =>
        obtain ⟨i, hi, rfl, hall⟩ := hrel
        have HA := Lib.hid hall
        clear hall
        by_cases hin : i < n
        · skip
          obtain ⟨ab, ao, hab0, hab, hcell⟩ := (T5.out.1.1.2).addr (by omega)
          subst hab0
          have z0 := hcell i hin
          have hnext : Hid (joinB h (cs.getD i 0) = false → ∀ x ∈ cs.take (i + 1), joinB h x = false) := by
            intro hc x hx
            rw [List.take_succ_eq_append_getElem (by have := HNL.out; omega), List.mem_append] at hx
            rcases hx with hx | hx
            · exact HA.out x hx
            · rw [List.mem_singleton] at hx
              rw [hx]
              have hil : i < cs.length := by have := HNL.out; omega
              simpa [hil] using hc
          have hhit : Hid (joinB h (cs.getD i 0) = true → idxI (joinB h) cs = (i : Int)) := fun hc => findIdx_at (by have := HNL.out; omega) HA.out hc
          generalize cs.getD i 0 = u at z0 hnext hhit
          have i0 : (0 : Int) ≤ (i : Int) := by omega
          have i1 : (i : Int) < (n : Int) := by omega
          clear hcell
          by_cases hu : 0 ≤ u ∧ u < (Ai : Int)
          · skip
            have HN := Lib.hid (hnext.out (joinB_f hu.1 (by rw [HAI.out]; exact hu.2)))
            obtain ⟨u0, u1⟩ := hu
            have d1 : decide (u < 0) = false := decide_eq_false (by omega)
            have d2 : decide ((Ai : Int) ≤ u) = false := decide_eq_false (by omega)
            clear hnext hhit
            go_wp2
            go_round
            case rel => exact ⟨i + 1, by omega, by go_num, HN.out⟩
            case measure => simp [intOf]; omega
          · skip
            have hi2 := hhit.out (joinB_t (by rw [HAI.out]; omega))
            have hd := hD.out
            rw [if_pos (by omega), hi2] at hd
            have ho : joinO (h : Int) cs = (0, 0, []) := by unfold joinO; rw [hd]; rfl
            have HOD := Lib.hid (And.intro ho hd)
            clear hd ho hi2 hhit hnext
            by_cases hu0 : u < 0
            · skip
              clear hu
              have sb0 : W.heap.size + 1 < Wb.heap.size := heap_ltT (T5.out.2)
              go_wp2_with fail
              refine (rawNew_fresh _ _ _ _ rfl).mono ?_; rintro e w8 ⟨b1, b2, rfl, lb1, lb2, hw8, hbw8⟩
              have T6 := T5.up hbw8
              clear T5
              obtain ⟨⟨q0, q1, q2⟩, f0, f1, f2⟩ := p_cells (T6.out.1.2)
              obtain ⟨⟨q3, q4, q5⟩, f3, f4, f5⟩ := p_cells (T6.out.2)
              obtain ⟨w9, e9, e9b, ⟨⟨r0, r1, r2⟩, r3, r4, r5⟩, hret⟩ := pr_err (show W.heap.size ≠ W.heap.size + 1 by omega) (T6.out.1.2) (T6.out.2) (Nat.le_refl _) (show W.heap.size ≤ W.heap.size + 1 by omega) (T6.out.1.1.1.2) (B := W.heap.size + 1 + 1) (by omega) (by omega) (fr_some (by omega)) (fr_some (by omega)) (wc_want hw8) rfl
              have HRET := Lib.hid hret
              have HE9 := Lib.hid (And.intro e9 e9b)
              have HR9 := Lib.hid (And.intro r0 (And.intro r1 (And.intro r2 (And.intro r3 (And.intro r4 r5)))))
              clear hret e9 e9b r0 r1 r2 r3 r4 r5
              clear hw8 lb1 lb2 sb0
              go_wp2
              first | rw [HE9.out.1] | rw [HE9.out.2]
              have r0 := HR9.out.1
              have r1 := HR9.out.2.1
              have r2 := HR9.out.2.2.1
              have r3 := HR9.out.2.2.2.1
              have r4 := HR9.out.2.2.2.2.1
              have r5 := HR9.out.2.2.2.2.2
              refine bodyPost_ret (v := .tuple #[patV 0 0 none 0 0, .agg #[.int .i64 3, .slice (some ⟨b1, 0, none⟩) 1 1, .slice (some ⟨b2, 0, none⟩) 1 1]]) (by simp [results, Tryd.results30, go_sem, r0, r1, r2, r3, r4, r5]) rfl ?_
              rw [HOD.out.1, HOD.out.2]
              exact HRET.out
            · skip
              have u0 : 0 ≤ u := by omega
              have u1 : (Ai : Int) ≤ u := by omega
              clear hu hu0
              have sb0 : W.heap.size + 1 < Wb.heap.size := heap_ltT (T5.out.2)
              go_wp2_with fail
              refine (rawNew_fresh _ _ _ _ rfl).mono ?_; rintro e w8 ⟨b1, b2, rfl, lb1, lb2, hw8, hbw8⟩
              have T6 := T5.up hbw8
              clear T5
              obtain ⟨⟨q0, q1, q2⟩, f0, f1, f2⟩ := p_cells (T6.out.1.2)
              obtain ⟨⟨q3, q4, q5⟩, f3, f4, f5⟩ := p_cells (T6.out.2)
              obtain ⟨w9, e9, e9b, ⟨⟨r0, r1, r2⟩, r3, r4, r5⟩, hret⟩ := pr_err (show W.heap.size ≠ W.heap.size + 1 by omega) (T6.out.1.2) (T6.out.2) (Nat.le_refl _) (show W.heap.size ≤ W.heap.size + 1 by omega) (T6.out.1.1.1.2) (B := W.heap.size + 1 + 1) (by omega) (by omega) (fr_some (by omega)) (fr_some (by omega)) (wc_want hw8) rfl
              have HRET := Lib.hid hret
              have HE9 := Lib.hid (And.intro e9 e9b)
              have HR9 := Lib.hid (And.intro r0 (And.intro r1 (And.intro r2 (And.intro r3 (And.intro r4 r5)))))
              clear hret e9 e9b r0 r1 r2 r3 r4 r5
              clear hw8 lb1 lb2 sb0
              go_wp2
              first | rw [HE9.out.1] | rw [HE9.out.2]
              have r0 := HR9.out.1
              have r1 := HR9.out.2.1
              have r2 := HR9.out.2.2.1
              have r3 := HR9.out.2.2.2.1
              have r4 := HR9.out.2.2.2.2.1
              have r5 := HR9.out.2.2.2.2.2
              refine bodyPost_ret (v := .tuple #[patV 0 0 none 0 0, .agg #[.int .i64 3, .slice (some ⟨b1, 0, none⟩) 1 1, .slice (some ⟨b2, 0, none⟩) 1 1]]) (by simp [results, Tryd.results30, go_sem, r0, r1, r2, r3, r4, r5]) rfl ?_
              rw [HOD.out.1, HOD.out.2]
              exact HRET.out
        · skip
          obtain rfl : n = i := by omega
          have hno : idxI (joinB h) cs = -1 := findIdx_none fun x hx => HA.out x (by rw [List.take_of_length_le (by have := HNL.out; omega)]; exact hx)
          have hd := hD.out
          rw [if_neg (by omega)] at hd
          obtain ⟨h9, hh9, hj⟩ := joinD_none hd
          obtain rfl : h = h9 := by omega
          have ho : joinO (h : Int) cs = ((n : Int), (h : Int), joinL h cs) := by unfold joinO; rw [if_pos hd, ← HNL.out]; simp only [Int.toNat_natCast]
          have HOD := Lib.hid (And.intro ho hd)
          have HJ := Lib.hid hj
          obtain ⟨LL, hLL⟩ : ∃ LL, joinL h cs = LL := ⟨_, rfl⟩
          have HLL := Lib.hid hLL
          have hlen : LL.length = n * h := by rw [← hLL, HNL.out]; exact madeL_len _ _ _
          obtain ⟨K, hK⟩ : ∃ K, n * h = K := ⟨_, rfl⟩
          have hK4 : K ≤ 4096 := by rw [← hK]; exact Nat.mul_le_mul hnb (show h ≤ 64 by omega)
          rw [hK] at hlen
          have HK := Lib.hid hK
          have HLEN := Lib.hid hlen
          clear hd ho hno hh9 hj hLL hlen hK
          go_wp2_with fail
          obtain ⟨wv, hwv⟩ : ∃ wv, Wb.alloc (.cells #[.int .i64 n, .int .i64 h, .slice none 0 0] 24) = wv := ⟨_, rfl⟩
          obtain ⟨v, hv⟩ : ∃ v, Wb.heap.size = v := ⟨_, rfl⟩
          have hh0 : wv.heap[v]? = some (.cells #[.int .i64 n, .int .i64 h, .slice none 0 0] 24) := by rw [← hwv, ← hv]; exact heap_alloc_new Wb _
          have hb0 : Below v Wb wv := by rw [← hwv, ← hv]; exact balloc (bnil Wb) _
          have HH0 := Lib.hid hh0
          have HB0 := Lib.hid hb0
          have HV := Lib.hid hv
          rw [hwv, hv]
          clear hh0 hb0 hwv hv
          go_loopw [10, 11] (fun lv jx wr => ∃ (r s : Nat) (aa : Option Addr) (cc : Nat), r ≤ h ∧ s = 0 ∧ lv = .int .i64 ((2 ^ r : Nat) : Int) ∧ jx = .int .i64 (r : Nat) ∧ wr.heap[v]? = some (.cells #[.int .i64 n, .int .i64 h, .slice aa (r * n + s) cc] 24) ∧ OwI wr (v + 1) aa (r * n + s) cc (LL.take (r * n + s)) ∧ Below v Wb wr) (fun _ jx _ => h - (intOf jx).toNat)
          case atStart => exact ⟨0, 0, none, 0, by omega, by omega, rfl, rfl, by simpa using HH0.out, by simpa using OwI.nil _ _, HB0.out⟩
          case round =>
            obtain ⟨r, s0, aa, cc, hr, rfl, rfl, rfl, hh, ho, hb⟩ := hrel
            obtain ⟨Ln, hLn⟩ : ∃ Ln, 2 ^ r = Ln := ⟨_, rfl⟩
            have hL1 : 1 ≤ Ln := by rw [← hLn]; exact Nat.one_le_two_pow
            have hL2 : Ln ≤ 65536 := by rw [← hLn]; exact Nat.pow_le_pow_right (n := 2) (by omega) (show r ≤ 16 by omega)
            rw [hLn]
            have HLN := Lib.hid hLn
            clear hLn
            have HH := Lib.hid hh
            have HO := Lib.hid ho
            have HB := Lib.hid hb
            clear hh ho hb
            generalize wr = wo at *
            by_cases hrq : r < h
            · skip
              have j1 : (r : Int) < (h : Int) := by omega
              go_wp2_with fail
              go_loopw [12] (fun ix wr => ∃ (r1 s : Nat) (aa : Option Addr) (cc : Nat), r1 = r ∧ s ≤ n ∧ ix = .int .i64 (s : Nat) ∧ wr.heap[v]? = some (.cells #[.int .i64 n, .int .i64 h, .slice aa (r1 * n + s) cc] 24) ∧ OwI wr (v + 1) aa (r1 * n + s) cc (LL.take (r1 * n + s)) ∧ Below v Wb wr) (fun ix _ => n - (intOf ix).toNat)
              case atStart => exact ⟨r, 0, aa, cc, rfl, by omega, rfl, HH.out, HO.out, HB.out⟩
              case round =>
                obtain ⟨r1, s, a3, c3, rfl, hs, rfl, hh3, ho3, hb3⟩ := hrel
                have HH3 := Lib.hid hh3
                have HO3 := Lib.hid ho3
                have HB3 := Lib.hid hb3
                by_cases hsp : s < n
                · skip
                  have hbw := HB3.out
                  rw [← HV.out] at hbw
                  clear hb3
                  have T6 := T5.up hbw
                  clear T5
                  obtain ⟨k, hk⟩ : ∃ k, r1 * n + s = k := ⟨_, rfl⟩
                  have hkK : k < K := by have h1 := place_lt hsp hrq; rw [hk] at h1; have := HK.out; omega
                  obtain ⟨ab, ao, hab0, hab, hcell⟩ := (T6.out.1.1.2).addr (by omega)
                  subst hab0
                  have z0 := hcell s hsp
                  obtain ⟨cu, cv, hcu, hcu2, hcv, hcq, hcf⟩ := joinF_nat HJ.out (x := s) (by have := HNL.out; omega) r1
                  rw [hcu] at z0
                  have hval : LL.getD k 0 = ((cv % 2 : Nat) : Int) := by
                    rw [← HLL.out, ← hk, ← hcf, HNL.out]
                    exact madeL_getD (by have := HNL.out; omega) hrq
                  rw [HLN.out] at hcv
                  have hqd : (cu : Int).tdiv (Ln : Int) = (cv : Int) := by rw [Int.tdiv_eq_ediv_of_nonneg (by omega), ← Int.natCast_ediv, hcv]
                  have hqe : (cu : Int) / (Ln : Int) = (cv : Int) := by rw [← Int.natCast_ediv, hcv]
                  have hcvb : cv < 65536 := by rw [hcv]; exact Nat.lt_of_le_of_lt (Nat.div_le_self _ _) hcu2
                  have hqw : IntKind.i64.wrap ((cu : Int).tdiv (Ln : Int)) = (cv : Int) := by rw [hqd]; exact IntWalk.i64_in _ (by omega)
                  have hqw2 : IntKind.i64.wrap (cv : Int) = (cv : Int) := IntWalk.i64_in _ (by omega)
                  have htm : (cv : Int).tmod 2 = LL.getD k 0 := by rw [hval, Int.tmod_eq_emod_of_nonneg (by omega)]; omega
                  have hte : (cv : Int) % 2 = LL.getD k 0 := by rw [hval]; omega
                  have hbw0 : IntKind.i64.wrap (LL.getD k 0) = LL.getD k 0 := by rw [hval]; exact IntWalk.i64_in _ (by omega)
                  have hLz : ((Ln : Int) == 0) = false := by rw [beq_eq_false_iff_ne]; omega
                  have hLn0 : ¬ Ln = 0 := by omega
                  have s0 : (0 : Int) ≤ (s : Int) := by omega
                  have s1 : (s : Int) < (n : Int) := by omega
                  clear hcell hcu hcv hcq hcf hval
                  rw [hk] at hh3 ho3
                  have hsn := take_snoc (l := LL) (k := k) (by have := HLEN.out; have := HK.out; omega)
                  have HKE := Lib.hid hk
                  generalize LL.getD k 0 = u at *
                  obtain ⟨⟨u0, u1, u2⟩, g0, g1, g2⟩ := p_cells hh3
                  have hvs : v + 1 ≤ wr.heap.size := heap_ltT hh3
                  have i1 : (s : Int) < (n : Int) := by omega
                  have HSN := Lib.hid hsn
                  have hO3 := Lib.hid ho3
                  have HH4 := Lib.hid hh3
                  clear hsn ho3 hh3 hk u1 g0 g1 HH3 HO3
                  have y3 : (wr.alloc (.cells #[.int .i64 u] 3)).cell? ⟨v, 2, none⟩ = some (.slice a3 k c3) := al000 u2
                  clear u0
                  go_wp2_with fail
                  go_region_law (first
                    | (refine step_app_lit (by rfl) _ _ _ (by rfl) (v + 1) et_int _ k _ hO3.out.own (by rfl) 1 _ _ (by rfl) (by simp) (by rfl) (by rfl) (by unfold maxLen; omega) (by omega) hvs ?_; intro a5 c5 w5 ho5 hg5 hb5 hs5; have y5 : w5.cell? ⟨v, 2, none⟩ = some (.slice a3 k c3) := (hb5.cell (p := ⟨v, 2, none⟩) (Nat.lt_succ_self v)).trans u2; have q5 := (hb5.frozen (p := ⟨v, 2, none⟩) (Nat.lt_succ_self v)).trans g2))
                  all_goals
                    have hh5 := (hb5.block v (Nat.lt_succ_self v)).trans HH4.out
                    have HH6 := Lib.hid (set2q hh5 (.slice a5 (k + 1) c5))
                    rw [HSN.out] at ho5
                    have HO6 : Hid (OwI (w5.setCell ⟨v, 2, none⟩ (.slice a5 (k + 1) c5)) (v + 1) a5 (k + 1) c5 (LL.take (k + 1))) :=
                      ⟨own_of_heap' ho5 fun b hb => Below.heap_setCell _ _ _ _ (by have := (ho5.lt b hb).1; show b ≠ v; omega)⟩
                    have HB6 := Lib.hid ((HB3.out.trans (hb5.mono (Nat.le_succ v))).setCell (p := ⟨v, 2, none⟩) (Nat.le_refl v) (.slice a5 (k + 1) c5))
                    have HK1 : Hid (r1 * n + (s + 1) = k + 1) := by show _ = _; have := HKE.out; omega
                    clear hh5 ho5 hg5 hb5 hs5 y5 q5 y3 u2 g2 hbw hqd hqe hqw hqw2 htm hte hbw0 hLz hLn0 s0 s1 z0
                    go_wp2
                    go_roundw
                    case rel => exact ⟨r1, s + 1, a5, c5, rfl, by omega, by go_num, by rw [HK1.out]; exact HH6.out, by rw [HK1.out]; exact HO6.out, HB6.out⟩
                    case measure => simp [intOf]; omega
                · skip
                  obtain rfl : n = s := by omega
                  have i2 : ¬ (n : Int) < (n : Int) := by omega
                  have HK1 : Hid ((r1 + 1) * n + 0 = r1 * n + n) := by show _ = _; rw [Nat.add_mul]; omega
                  clear hh3 ho3 hb3
                  go_wp2
                  go_roundw
                  case rel => exact ⟨r1 + 1, 0, a3, c3, by omega, rfl, congrArg (Value.int .i64) (by rw [Nat.pow_succ, HLN.out]; omega), by go_num, by rw [HK1.out]; exact HH3.out, by rw [HK1.out]; exact HO3.out, HB3.out⟩
                  case measure => simp [intOf]; omega
            · skip
              obtain rfl : h = r := by omega
              have j2 : ¬ (h : Int) < (h : Int) := by omega
              have hkk : h * n + 0 = K := by have := HK.out; rw [Nat.mul_comm]; omega
              have hh := HH.out
              have ho := HO.out
              rw [hkk, List.take_of_length_le (by have := HLEN.out; have := HK.out; omega)] at ho
              rw [hkk] at hh
              have HO9 := Lib.hid ho
              have HH9 := Lib.hid hh
              obtain ⟨⟨u0, u1, u2⟩, g0, g1, g2⟩ := p_cells hh
              have hbw := HB.out
              rw [← HV.out] at hbw
              clear HO HH hkk ho hh
              have T6 := T5.up hbw
              clear T5
              have hv2 : W.heap.size + 1 + 1 = v := by have h1 := HSZ.out; have h2 := HV.out; omega
              obtain ⟨⟨q0, q1, q2⟩, f0, f1, f2⟩ := p_cells (T6.out.1.2)
              obtain ⟨⟨q3, q4, q5⟩, f3, f4, f5⟩ := p_cells (T6.out.2)
              obtain ⟨w9, e9, e9b, ⟨⟨r0, r1, r2⟩, r3, r4, r5⟩, hret⟩ := pr_ok (H := (n : Int)) (K := (h : Int)) (show W.heap.size ≠ W.heap.size + 1 by omega) (T6.out.1.2) (T6.out.2) (Nat.le_refl _) (show W.heap.size ≤ W.heap.size + 1 by omega) (T6.out.1.1.1.2) (show W.heap.size < v + 1 by omega) (show W.heap.size + 1 < v + 1 by omega) HO9.out
              rw [← HLL.out] at hret
              have ne1 : ¬ v = W.heap.size + 1 := by omega
              have ne2 : ¬ W.heap.size + 1 = v := by omega
              have ne3 : ¬ v = W.heap.size := by omega
              have ne4 : ¬ W.heap.size = v := by omega
              clear hbw hv2
              have HRET := Lib.hid hret
              have HE9 := Lib.hid (And.intro e9 e9b)
              have HR9 := Lib.hid (And.intro r0 (And.intro r1 (And.intro r2 (And.intro r3 (And.intro r4 r5)))))
              clear hret e9 e9b r0 r1 r2 r3 r4 r5
              go_wp2_with fail
              first
                | (go_region; all_goals go_wp2; all_goals (first | rw [HE9.out.1] | rw [HE9.out.2]))
                | rw [HE9.out.1]
                | rw [HE9.out.2]
              all_goals
                have r0 := HR9.out.1
                have r1 := HR9.out.2.1
                have r2 := HR9.out.2.2.1
                have r3 := HR9.out.2.2.2.1
                have r4 := HR9.out.2.2.2.2.1
                have r5 := HR9.out.2.2.2.2.2
                refine bodyPost_ret (v := .tuple #[patV n h aa K cc, .agg #[.int .i64 0, .slice none 0 0, .slice none 0 0]]) (by simp [results, Tryd.results30, go_sem, r0, r1, r2, r3, r4, r5]) rfl ?_
                rw [HOD.out.1, HOD.out.2]
                first | exact HRET.out | exact HRET.out.drew
end Go.Proofs.YtnlpobkmjhajcaaDoor
namespace Go.Proofs.YtnlpobkmjhajcaaDoor
open Go.RowKit
set_option linter.unusedVariables false
set_option maxRecDepth 100000

theorem joinF_left {A B : List Int} {x y : Nat} (hx : x < A.length) : joinF (A ++ B) x y = joinF A x y := by
  unfold joinF
  rw [List.getD_eq_getElem?_getD, List.getElem?_append_left hx, ← List.getD_eq_getElem?_getD]
theorem joinF_right {A B : List Int} {x y : Nat} : joinF (A ++ B) (A.length + x) y = joinF B x y := by
  unfold joinF
  rw [List.getD_eq_getElem?_getD, List.getElem?_append_right (by omega), Nat.add_sub_cancel_left, ← List.getD_eq_getElem?_getD]
theorem join_left {h w m : Nat} {A B : List Int} (hA : A.length = w) (hB : B.length = m) (hw : 1 ≤ w) : cutL (w + m) (joinL h (A ++ B)) 0 0 w h = joinL h A := by
  unfold cutL joinL
  rw [List.length_append, hA, hB]
  refine madeL_congr (by omega) fun x y hx hy => ?_
  rw [Nat.zero_add, Nat.zero_add, atL_made (by omega) hy, joinF_left (by omega)]
theorem join_right {h w m : Nat} {A B : List Int} (hA : A.length = w) (hB : B.length = m) (hm : 1 ≤ m) : cutL (w + m) (joinL h (A ++ B)) w 0 m h = joinL h B := by
  unfold cutL joinL
  rw [List.length_append, hA, hB]
  refine madeL_congr (by omega) fun x y hx hy => ?_
  rw [Nat.zero_add, atL_made (by omega) hy]
  rw [← hA]
  exact joinF_right
theorem joinOk_app {h : Nat} {A B : List Int} (hA : JoinOk h A) (hB : JoinOk h B) (hl : A.length + B.length ≤ 64) : JoinOk h (A ++ B) :=
  ⟨hA.h1, hA.h16, by rw [List.length_append]; have := hA.n1; omega, by rw [List.length_append]; exact hl, fun x hx => by
    rcases List.mem_append.1 hx with hx | hx
    · exact hA.sym x hx
    · exact hB.sym x hx⟩
theorem columns_erQ (w h : Int) (a : Option Addr) (n c : Nat) (l : List Int) (W : World) (R : Nat → Addr) (hS : Sent W R) (hR : RK .i64 W a n l) (hm : n ≤ maxLen) (hx : I64 l) (hd : colD w h l ≠ none) :
    Calls Tryd.prog 15 #[patV w h a n c] W fun e w' => ∃ a1 c1 t p, e = .returned (.tuple #[.slice a1 0 c1, .iface t p]) ∧ Below W.heap.size W w' := by
  have ho : colO w h l = [] := by unfold colO; rw [if_neg hd]
  cases he : colD w h l with
  | none => exact absurd he hd
  | some x =>
    refine (columns_any w h a n c l W R hS hR hm hx).mono ?_
    rw [he, ho]
    rintro e w' ⟨a1, n1, c1, ev, rfl, h1, h2, hb⟩
    obtain ⟨t, p, rfl⟩ := Chain.iface h2
    obtain rfl : n1 = 0 := h1.len
    exact ⟨a1, c1, t, _, rfl, hb⟩
theorem colD_none {w h : Int} {l : List Int} (hd : colD w h l = none) : ∃ w' h' : Nat, w = w' ∧ h = h' ∧ IsPatch w' h' l ∧ h' ≤ 16 := by
  unfold colD at hd
  cases he : patchErr w h l with
  | some e => rw [he] at hd; cases hd
  | none =>
    rw [he] at hd
    obtain ⟨w', h', rfl, rfl, hp⟩ := patchErr_none he
    refine ⟨w', h', rfl, rfl, hp, ?_⟩
    by_cases h16 : 16 < (h' : Int)
    · have hd2 : (if 16 < (h' : Int) then (some ([(opPatch, 2)], 4) : ErrD) else none) = none := hd
      rw [if_pos h16] at hd2
      cases hd2
    · omega
theorem cut_okL (w h p q K : Nat) (a : Option Addr) (n c : Nat) (l L : List Int) (W : World) (R : Nat → Addr) (hS : Sent W R) (hR : RK .i64 W a n l) (hm : n ≤ maxLen) (hp : IsPatch w h l) (p1 : 1 ≤ p) (q1 : 1 ≤ q) (h3 : p ≤ w) (h4 : q ≤ h) (hK : p * q = K) (hL : cutL w l 0 0 p q = L) :
    Calls Tryd.prog 13 #[patV w h a n c, .int .i64 0, .int .i64 0, .int .i64 p, .int .i64 q] W fun e w' => ∃ g c', e = .returned (.tuple #[patV p q (some ⟨g, 0, none⟩) K c', .nilIface]) ∧ OwI w' W.heap.size (some ⟨g, 0, none⟩) K c' L ∧ Below W.heap.size W w' := by
  have h := cut_okP w h 0 0 p q a n c l W R hS hR hm hp.i64 hp p1 q1 (by omega) (by omega)
  rw [hL, hK] at h
  exact h
theorem cut_okR (w h x p q K : Nat) (a : Option Addr) (n c : Nat) (l L : List Int) (W : World) (R : Nat → Addr) (hS : Sent W R) (hR : RK .i64 W a n l) (hm : n ≤ maxLen) (hp : IsPatch w h l) (p1 : 1 ≤ p) (q1 : 1 ≤ q) (h3 : x + p ≤ w) (h4 : q ≤ h) (hK : p * q = K) (hL : cutL w l x 0 p q = L) :
    Calls Tryd.prog 13 #[patV w h a n c, .int .i64 x, .int .i64 0, .int .i64 p, .int .i64 q] W fun e w' => ∃ g c', e = .returned (.tuple #[patV p q (some ⟨g, 0, none⟩) K c', .nilIface]) ∧ OwI w' W.heap.size (some ⟨g, 0, none⟩) K c' L ∧ Below W.heap.size W w' := by
  have h := cut_okP w h x 0 p q a n c l W R hS hR hm hp.i64 hp p1 q1 h3 (by omega)
  rw [hL, hK] at h
  exact h
theorem OwI.lmT {w : World} {B : Nat} {a : Option Addr} {n c : Nat} {l : List Int} (h : OwI w B a n c l) : n ≤ maxLen ∧ l.length ≤ maxLen := by
  have h1 := h.rk.len
  have h2 := h.nnc
  omega
set_option maxHeartbeats 16000000 in
theorem patch_columns (w h : Int) (a : Option Addr) (n c : Nat) (l : List Int) (q : Int) (aC : Option Addr) (cC : Nat) (cs : List Int) (W : World) (R : Nat → Addr) (hE : Env W R) (m : Int) (hm : W.cell? ⟨13, 0, none⟩ = some (.int .i64 m)) (hR : SlI W a n c l) (hx : I64 l)
    (hC : Rd W aC cs.length 1 (cs.map (Value.int .i64))) (hCl : cs.length ≤ cC) (hC8 : cC * 8 ≤ 140737488351232) (hCn : aC = none → cC = 0) (hCx : ∀ x ∈ cs, -9223372036854775808 ≤ x ∧ x ≤ 9223372036854775807) :
    Calls Tryd.prog 8 #[patV w h a n c, .int .i64 q, .slice aC cs.length cC] W (TrueBelow W) := by
  have hnm := hR.nm
  have HI6 := Lib.hid hx
  obtain ⟨N, hN⟩ : ∃ N, cs.length = N := ⟨_, rfl⟩
  have hN8 : N * 8 ≤ 140737488351232 := by omega
  have hNm : N ≤ maxLen := by unfold maxLen; omega
  have hNC : N ≤ cC := by omega
  have HNN := Lib.hid hN
  have hRK : RK .i64 W aC N cs := ⟨hN.symm, by rw [← hN]; exact hC⟩
  rw [hN]
  clear hC hCl hC8 hCx
  have T0 := Tk.nil W
  have T1 := T0.add (fun wv => Below W.heap.size W wv) (bnil W)
  clear T0
  have T2 := T1.add (fun wv => Env wv R) (hE)
  clear T1
  have T3 := T2.add (fun wv => wv.cell? ⟨13, 0, none⟩ = some (.int .i64 m)) (hm)
  clear T2
  have T4 := T3.add (fun wv => SlI wv a n c l) (hR)
  clear T3
  have T5 := T4.add (fun wv => RK .i64 wv aC N cs) (hRK)
  clear T4
  have HCN := Lib.hid hCn
  clear hE hR hm hx hN hRK hCn
  obtain ⟨Wb, hWb⟩ : ∃ Wb, W.alloc (.cells #[.int .i64 w, .int .i64 h, .slice a n c] 24) = Wb := ⟨_, rfl⟩
  have hbWb : Below W.heap.size W Wb := by rw [← hWb]; exact balloc (bnil W) _
  have T6 := T5.up hbWb
  clear T5
  have T7 := T6.add (fun wv => wv.cell? ⟨W.heap.size, 0, none⟩ = some (.int .i64 w) ∧ wv.cell? ⟨W.heap.size, 1, none⟩ = some (.int .i64 h) ∧ wv.cell? ⟨W.heap.size, 2, none⟩ = some (.slice a n c)) (by rw [← hWb]; exact ⟨cnw (by simp) rfl, cnw (by simp) rfl, cnw (by simp) rfl⟩)
  clear T6
  have HWb := Lib.hid hWb
  clear hWb hbWb
  go_enter Tryd.func8, Tryd.ntmps8
  go_wp2_with fail
  rw [HWb.out]
  refine (awake21 Wb R (T7.out.1.1.1.1.2).sent m T7.out.1.1.1.2).mono ?_; rintro e w1 ⟨rfl, hbw1⟩
  have T8 := T7.up hbw1
  clear T7
  go_wp2_with fail
  refine (lent_ex aC N cC cs w1 T8.out.1.2 hN8).mono ?_; rintro e w2 ⟨gv, cv, rfl, hcv, hov, hbw2⟩
  have T9 := T8.up hbw2
  clear T8
  have T10 := T9.add (fun wv => RK .i64 wv (some ⟨gv, 0, none⟩) (N + 2) (cs ++ marksI)) (hov.rk)
  clear T9
  have T11 := T10.add (fun wv => RK .i64 wv (some ⟨gv, 0, none⟩) N cs) (rk_prefix hov.rk HNN.out.symm)
  clear T10
  have hcv2 : N + 2 ≤ cv := by omega
  have hcv3 : cv ≤ maxLen := by unfold maxLen; omega
  clear hov hcv
  cases hjd : joinD q cs with
  | some D0 =>
    obtain ⟨D, hD⟩ : ∃ D : ErrD, some D0 = D := ⟨_, rfl⟩
    have ho : joinO q cs = (0, 0, []) := by unfold joinO; rw [hjd]; rfl
    have c1 := fun W S (hR : RK .i64 W (some ⟨gv, 0, none⟩) N cs) => join_any q (some ⟨gv, 0, none⟩) N cv cs W R S hR hNm
    have c2 := fun W (hR : RK .i64 W aC N cs) => refjoin_any q aC N cC cs W hR hNm
    rw [ho, hjd, hD] at c1 c2
    have HC := Lib.hid (And.intro c1 c2)
    have HD := Lib.hid hD
    clear c1 c2 ho hjd hD
    go_wp2_with fail
    refine (HC.out.1 w2 (T11.out.1.1.1.1.1.1.2).sent T11.out.2).mono ?_; rintro e w3 ⟨a2, n2, c2, ev2, rfl, ho2, he2, hbw3⟩
    have T12 := T11.up hbw3
    clear T11
    have he2b := he2
    rw [← HD.out] at he2b
    obtain ⟨t1, p1, rfl⟩ := Chain.iface he2b
    clear he2b
    have T13 := T12.add (fun wv => EC R wv (.iface t1 (.pointer (some p1))) D) (he2)
    clear T12
    have T14 := T13.add (fun wv => RK .i64 wv a2 n2 []) (ho2.rk)
    clear T13
    clear he2 ho2
    obtain ⟨w4, hw4⟩ : ∃ w4, w3.alloc (.cells #[.int .i64 0, .int .i64 0, .slice a2 n2 c2] 24) = w4 := ⟨_, rfl⟩
    have hbw4 : Below w3.heap.size w3 w4 := by rw [← hw4]; exact balloc (bnil w3) _
    have T15 := T14.up hbw4
    clear T14
    have T16 := T15.add (fun wv => wv.cell? ⟨w3.heap.size, 0, none⟩ = some (.int .i64 0) ∧ wv.cell? ⟨w3.heap.size, 1, none⟩ = some (.int .i64 0) ∧ wv.cell? ⟨w3.heap.size, 2, none⟩ = some (.slice a2 n2 c2)) (by rw [← hw4]; exact ⟨cnw (by simp) rfl, cnw (by simp) rfl, cnw (by simp) rfl⟩)
    clear T15
    have Hw4 := Lib.hid hw4
    clear hw4 hbw4
    go_wp2_with fail
    rw [Hw4.out]
    refine (HC.out.2 w4 T16.out.1.1.1.1.1.1.2).mono ?_; rintro e w5 ⟨a4, n4, c4, N4, a41, n41, c41, a42, n42, c42, rfl, ho4, hw4, hn4, hbw5⟩
    have T17 := T16.up hbw5
    clear T16
    have T18 := T17.add (fun wv => RK .i64 wv a4 n4 []) (ho4)
    clear T17
    have T19 := T18.add (fun wv => WC wv (.agg #[.int .i64 N4, .slice a41 n41 c41, .slice a42 n42 c42]) D) (hw4)
    clear T18
    clear ho4 hw4 hn4
    obtain ⟨w6, hw6⟩ : ∃ w6, (w5.alloc (.cells #[.int .i64 0, .int .i64 0, .slice a4 n4 c4] 24)).alloc (.cells #[.int .i64 N4, .slice a41 n41 c41, .slice a42 n42 c42] 47) = w6 := ⟨_, rfl⟩
    have hbw6 : Below w5.heap.size w5 w6 := by rw [← hw6]; exact balloc (balloc (bnil w5) _) _
    have T20 := T19.up hbw6
    clear T19
    have T21 := T20.add (fun wv => wv.cell? ⟨w5.heap.size, 0, none⟩ = some (.int .i64 0) ∧ wv.cell? ⟨w5.heap.size, 1, none⟩ = some (.int .i64 0) ∧ wv.cell? ⟨w5.heap.size, 2, none⟩ = some (.slice a4 n4 c4)) (by rw [← hw6]; exact ⟨al000 (cnw (by simp) rfl), al000 (cnw (by simp) rfl), al000 (cnw (by simp) rfl)⟩)
    clear T20
    have T22 := T21.add (fun wv => wv.cell? ⟨w5.heap.size + 1, 0, none⟩ = some (.int .i64 N4) ∧ wv.cell? ⟨w5.heap.size + 1, 1, none⟩ = some (.slice a41 n41 c41) ∧ wv.cell? ⟨w5.heap.size + 1, 2, none⟩ = some (.slice a42 n42 c42)) (by rw [← hw6]; exact ⟨cnw (by simp) rfl, cnw (by simp) rfl, cnw (by simp) rfl⟩)
    clear T21
    have Hw6 := Lib.hid hw6
    clear hw6 hbw6
    have v_x0 : ((w5.alloc (.cells #[.int .i64 0, .int .i64 0, .slice a4 n4 c4] 24)).alloc (.cells #[.int .i64 N4, .slice a41 n41 c41, .slice a42 n42 c42] 47)).cell? ⟨w3.heap.size, 0, none⟩ = some (.int .i64 0) := by rw [Hw6.out]; exact T22.out.1.1.1.1.2.1
    have v_x1 : ((w5.alloc (.cells #[.int .i64 0, .int .i64 0, .slice a4 n4 c4] 24)).alloc (.cells #[.int .i64 N4, .slice a41 n41 c41, .slice a42 n42 c42] 47)).cell? ⟨w3.heap.size, 1, none⟩ = some (.int .i64 0) := by rw [Hw6.out]; exact T22.out.1.1.1.1.2.2.1
    have v_x2 : ((w5.alloc (.cells #[.int .i64 0, .int .i64 0, .slice a4 n4 c4] 24)).alloc (.cells #[.int .i64 N4, .slice a41 n41 c41, .slice a42 n42 c42] 47)).cell? ⟨w3.heap.size, 2, none⟩ = some (.slice a2 n2 c2) := by rw [Hw6.out]; exact T22.out.1.1.1.1.2.2.2
    have v_y0 : ((w5.alloc (.cells #[.int .i64 0, .int .i64 0, .slice a4 n4 c4] 24)).alloc (.cells #[.int .i64 N4, .slice a41 n41 c41, .slice a42 n42 c42] 47)).cell? ⟨w5.heap.size, 0, none⟩ = some (.int .i64 0) := by rw [Hw6.out]; exact T22.out.1.2.1
    have v_y1 : ((w5.alloc (.cells #[.int .i64 0, .int .i64 0, .slice a4 n4 c4] 24)).alloc (.cells #[.int .i64 N4, .slice a41 n41 c41, .slice a42 n42 c42] 47)).cell? ⟨w5.heap.size, 1, none⟩ = some (.int .i64 0) := by rw [Hw6.out]; exact T22.out.1.2.2.1
    have v_y2 : ((w5.alloc (.cells #[.int .i64 0, .int .i64 0, .slice a4 n4 c4] 24)).alloc (.cells #[.int .i64 N4, .slice a41 n41 c41, .slice a42 n42 c42] 47)).cell? ⟨w5.heap.size, 2, none⟩ = some (.slice a4 n4 c4) := by rw [Hw6.out]; exact T22.out.1.2.2.2
    go_wp2_with fail
    rw [Hw6.out]
    refine (patches_eq 0 0 a2 a4 n2 n4 c2 c4 [] w6 T22.out.1.1.1.1.1.2 T22.out.1.1.1.2 (Nat.zero_le _)).mono ?_; rintro e w7 ⟨rfl, hbw7⟩
    clear v_x0 v_x1 v_x2 v_y0 v_y1 v_y2
    have T23 := T22.up hbw7
    clear T22
    have v_f0 : w7.cell? ⟨w5.heap.size + 1, 0, none⟩ = some (.int .i64 N4) := T23.out.2.1
    have v_f1 : w7.cell? ⟨w5.heap.size + 1, 1, none⟩ = some (.slice a41 n41 c41) := T23.out.2.2.1
    have v_f2 : w7.cell? ⟨w5.heap.size + 1, 2, none⟩ = some (.slice a42 n42 c42) := T23.out.2.2.2
    go_wp2_with fail
    refine (rawIs_ch _ (.agg #[.int .i64 N4, .slice a41 n41 c41, .slice a42 n42 c42]) D w7 R T23.out.1.1.1.1.1.1.1.1.1.1.1.1.1.2 T23.out.1.1.1.1.1.1.2 T23.out.1.1.2).mono ?_; rintro e w8 ⟨rfl, hbw8⟩
    clear v_f0 v_f1 v_f2
    have T24 := T23.up hbw8
    clear T23
    go_wp2_with fail
    refine (kept_any gv N cv cC aC cs w8 T24.out.1.1.1.1.1.1.1.1.2 hcv2 hcv3 T24.out.1.1.1.1.1.1.1.1.1.1.2 hN8).mono ?_; rintro e w9 ⟨rfl, hbw9⟩
    have T25 := T24.up hbw9
    clear T24
    by_cases hcd : colD w h l = none
    rotate_left
    · skip
      have HCD := Lib.hid hcd
      clear hcd
      have v_p0 : w9.cell? ⟨W.heap.size, 0, none⟩ = some (.int .i64 w) := T25.out.1.1.1.1.1.1.1.1.1.2.1
      have v_p1 : w9.cell? ⟨W.heap.size, 1, none⟩ = some (.int .i64 h) := T25.out.1.1.1.1.1.1.1.1.1.2.2.1
      have v_p2 : w9.cell? ⟨W.heap.size, 2, none⟩ = some (.slice a n c) := T25.out.1.1.1.1.1.1.1.1.1.2.2.2
      go_wp2_with fail
      refine (columns_erQ w h a n c l w9 R (T25.out.1.1.1.1.1.1.1.1.1.1.1.1.1.2).sent (T25.out.1.1.1.1.1.1.1.1.1.1.1.2).rk hnm HI6.out HCD.out).mono ?_; rintro e x1 ⟨a8, c8, t8, p8, rfl, hbx1⟩
      clear v_p0 v_p1 v_p2
      have T26 := T25.up hbx1
      clear T25
      go_wp2
      go_ret
      exact ⟨rfl, T26.out.1.1.1.1.1.1.1.1.1.1.1.1.1.1.2⟩
    · skip
      obtain ⟨w, h, rfl, rfl, hp, h16⟩ := colD_none hcd
      have HPP := Lib.hid hp
      obtain ⟨K, hK⟩ : ∃ K, w * h = K := ⟨_, rfl⟩
      have HK := Lib.hid hK
      obtain ⟨A, hA⟩ : ∃ A, colL w h l = A := ⟨_, rfl⟩
      have hAl : A.length = w := by rw [← hA]; exact colL_len w h l
      have hAj : JoinOk h A := by rw [← hA]; exact colL_ok hp h16
      have hAc : joinL h A = l := by rw [← hA]; exact join_col hp h16
      have HA := Lib.hid hA
      have HAL := Lib.hid hAl
      have HAJ := Lib.hid hAj
      have HAC := Lib.hid hAc
      have hpw1 := hp.w1
      have hpw := hp.w2
      have hph := hp.h2
      have hph1 := hp.h1
      clear hcd hp hK hA hAl hAj hAc
      have v_p0 : w9.cell? ⟨W.heap.size, 0, none⟩ = some (.int .i64 w) := T25.out.1.1.1.1.1.1.1.1.1.2.1
      have v_p1 : w9.cell? ⟨W.heap.size, 1, none⟩ = some (.int .i64 h) := T25.out.1.1.1.1.1.1.1.1.1.2.2.1
      have v_p2 : w9.cell? ⟨W.heap.size, 2, none⟩ = some (.slice a n c) := T25.out.1.1.1.1.1.1.1.1.1.2.2.2
      go_wp2_with fail
      refine (columns_okZ w h a n c l w9 R (T25.out.1.1.1.1.1.1.1.1.1.1.1.1.1.2).sent (T25.out.1.1.1.1.1.1.1.1.1.1.1.2).rk hnm HPP.out h16).mono ?_; rintro e x1 ⟨gc, cc, rfl, ho8, hbx1⟩
      clear v_p0 v_p1 v_p2
      have T26 := T25.up hbx1
      clear T25
      have T27 := T26.add (fun wv => RK .i64 wv (some ⟨gc, 0, none⟩) w A) (by rw [← HA.out]; exact ho8.rk)
      clear T26
      clear ho8
      have v_p1 : x1.cell? ⟨W.heap.size, 1, none⟩ = some (.int .i64 h) := T27.out.1.1.1.1.1.1.1.1.1.1.2.2.1
      go_wp2_with fail
      refine (join_okZ h 0 K (some ⟨gc, 0, none⟩) w cc A l x1 R (T27.out.1.1.1.1.1.1.1.1.1.1.1.1.1.1.2).sent T27.out.2 (by unfold maxLen; omega) HAJ.out HK.out HAC.out).mono ?_; rintro e x2 ⟨gq, cq, rfl, ho9, hbx2⟩
      clear v_p1
      have T28 := T27.up hbx2
      clear T27
      have T29 := T28.add (fun wv => RK .i64 wv (some ⟨gq, 0, none⟩) K l) (ho9.rk)
      clear T28
      have hl9 := ho9.lmT.2
      clear ho9
      obtain ⟨x3, hx3⟩ : ∃ x3, x2.alloc (.cells #[.int .i64 w, .int .i64 h, .slice (some ⟨gq, 0, none⟩) K cq] 24) = x3 := ⟨_, rfl⟩
      have hbx3 : Below x2.heap.size x2 x3 := by rw [← hx3]; exact balloc (bnil x2) _
      have T30 := T29.up hbx3
      clear T29
      have T31 := T30.add (fun wv => wv.cell? ⟨x2.heap.size, 0, none⟩ = some (.int .i64 w) ∧ wv.cell? ⟨x2.heap.size, 1, none⟩ = some (.int .i64 h) ∧ wv.cell? ⟨x2.heap.size, 2, none⟩ = some (.slice (some ⟨gq, 0, none⟩) K cq)) (by rw [← hx3]; exact ⟨cnw (by simp) rfl, cnw (by simp) rfl, cnw (by simp) rfl⟩)
      clear T30
      have Hx3 := Lib.hid hx3
      clear hx3 hbx3
      have v_q0 : (x2.alloc (.cells #[.int .i64 w, .int .i64 h, .slice (some ⟨gq, 0, none⟩) K cq] 24)).cell? ⟨x2.heap.size, 0, none⟩ = some (.int .i64 w) := by rw [Hx3.out]; exact T31.out.2.1
      have v_q1 : (x2.alloc (.cells #[.int .i64 w, .int .i64 h, .slice (some ⟨gq, 0, none⟩) K cq] 24)).cell? ⟨x2.heap.size, 1, none⟩ = some (.int .i64 h) := by rw [Hx3.out]; exact T31.out.2.2.1
      have v_q2 : (x2.alloc (.cells #[.int .i64 w, .int .i64 h, .slice (some ⟨gq, 0, none⟩) K cq] 24)).cell? ⟨x2.heap.size, 2, none⟩ = some (.slice (some ⟨gq, 0, none⟩) K cq) := by rw [Hx3.out]; exact T31.out.2.2.2
      have v_p0 : (x2.alloc (.cells #[.int .i64 w, .int .i64 h, .slice (some ⟨gq, 0, none⟩) K cq] 24)).cell? ⟨W.heap.size, 0, none⟩ = some (.int .i64 w) := by rw [Hx3.out]; exact T31.out.1.1.1.1.1.1.1.1.1.1.1.1.2.1
      have v_p1 : (x2.alloc (.cells #[.int .i64 w, .int .i64 h, .slice (some ⟨gq, 0, none⟩) K cq] 24)).cell? ⟨W.heap.size, 1, none⟩ = some (.int .i64 h) := by rw [Hx3.out]; exact T31.out.1.1.1.1.1.1.1.1.1.1.1.1.2.2.1
      have v_p2 : (x2.alloc (.cells #[.int .i64 w, .int .i64 h, .slice (some ⟨gq, 0, none⟩) K cq] 24)).cell? ⟨W.heap.size, 2, none⟩ = some (.slice a n c) := by rw [Hx3.out]; exact T31.out.1.1.1.1.1.1.1.1.1.1.1.1.2.2.2
      go_wp2_with fail
      rw [Hx3.out]
      refine (patches_eq w h (some ⟨gq, 0, none⟩) a K n cq c l x3 T31.out.1.2 (T31.out.1.1.1.1.1.1.1.1.1.1.1.1.1.1.2).rk hl9).mono ?_; rintro e x4 ⟨rfl, hbx4⟩
      clear v_q0 v_q1 v_q2 v_p0 v_p1 v_p2
      have T32 := T31.up hbx4
      clear T31
      have v_p1 : x4.cell? ⟨W.heap.size, 1, none⟩ = some (.int .i64 h) := T32.out.1.1.1.1.1.1.1.1.1.1.1.1.2.2.1
      go_wp2
      go_ret
      exact ⟨rfl, T32.out.1.1.1.1.1.1.1.1.1.1.1.1.1.1.1.1.1.2⟩
  | none =>
    obtain ⟨q0, rfl, hj⟩ := joinD_none hjd
    obtain ⟨LX, hLX⟩ : ∃ LX, joinL q0 cs = LX := ⟨_, rfl⟩
    have ho : joinO (q0 : Int) cs = ((N : Int), (q0 : Int), LX) := by unfold joinO; rw [if_pos hjd, HNN.out, ← hLX]; simp only [Int.toNat_natCast]
    have c1 := fun W S (hR : RK .i64 W (some ⟨gv, 0, none⟩) N cs) => join_any q0 (some ⟨gv, 0, none⟩) N cv cs W R S hR hNm
    have c2 := fun W (hR : RK .i64 W aC N cs) => refjoin_any q0 aC N cC cs W hR hNm
    rw [ho, hjd] at c1 c2
    have hip := join_patch hj
    rw [HNN.out, hLX] at hip
    have hcj := col_join hj
    rw [HNN.out, hLX] at hcj
    have HC := Lib.hid (And.intro c1 c2)
    have HJ := Lib.hid hj
    have HLX := Lib.hid hLX
    have HIP := Lib.hid hip
    have HCJ := Lib.hid hcj
    have hq16 := hj.h16
    have hxw := hip.w2
    clear c1 c2 ho hjd hj hLX hip hcj
    go_wp2_with fail
    refine (HC.out.1 w2 (T11.out.1.1.1.1.1.1.2).sent T11.out.2).mono ?_; rintro e w3 ⟨a2, n2, c2, ev2, rfl, ho2, he2, hbw3⟩
    have T12 := T11.up hbw3
    clear T11
    obtain rfl : ev2 = .nilIface := he2
    have hn2 := ho2.lmT.1
    have hl2 := ho2.lmT.2
    have T13 := T12.add (fun wv => RK .i64 wv a2 n2 LX) (ho2.rk)
    clear T12
    clear ho2
    obtain ⟨w4, hw4⟩ : ∃ w4, w3.alloc (.cells #[.int .i64 N, .int .i64 q0, .slice a2 n2 c2] 24) = w4 := ⟨_, rfl⟩
    have hbw4 : Below w3.heap.size w3 w4 := by rw [← hw4]; exact balloc (bnil w3) _
    have T14 := T13.up hbw4
    clear T13
    have T15 := T14.add (fun wv => wv.cell? ⟨w3.heap.size, 0, none⟩ = some (.int .i64 N) ∧ wv.cell? ⟨w3.heap.size, 1, none⟩ = some (.int .i64 q0) ∧ wv.cell? ⟨w3.heap.size, 2, none⟩ = some (.slice a2 n2 c2)) (by rw [← hw4]; exact ⟨cnw (by simp) rfl, cnw (by simp) rfl, cnw (by simp) rfl⟩)
    clear T14
    have Hw4 := Lib.hid hw4
    clear hw4 hbw4
    go_wp2_with fail
    rw [Hw4.out]
    refine (HC.out.2 w4 T15.out.1.1.1.1.1.2).mono ?_; rintro e w5 ⟨a4, n4, c4, N4, a41, n41, c41, a42, n42, c42, rfl, ho4, hw4, hn4, hbw5⟩
    have T16 := T15.up hbw5
    clear T15
    have T17 := T16.add (fun wv => RK .i64 wv a4 n4 LX) (ho4)
    clear T16
    have T18 := T17.add (fun wv => WC wv (.agg #[.int .i64 N4, .slice a41 n41 c41, .slice a42 n42 c42]) none) (hw4)
    clear T17
    clear ho4 hw4 hn4
    obtain ⟨w6, hw6⟩ : ∃ w6, (w5.alloc (.cells #[.int .i64 N, .int .i64 q0, .slice a4 n4 c4] 24)).alloc (.cells #[.int .i64 N4, .slice a41 n41 c41, .slice a42 n42 c42] 47) = w6 := ⟨_, rfl⟩
    have hbw6 : Below w5.heap.size w5 w6 := by rw [← hw6]; exact balloc (balloc (bnil w5) _) _
    have T19 := T18.up hbw6
    clear T18
    have T20 := T19.add (fun wv => wv.cell? ⟨w5.heap.size, 0, none⟩ = some (.int .i64 N) ∧ wv.cell? ⟨w5.heap.size, 1, none⟩ = some (.int .i64 q0) ∧ wv.cell? ⟨w5.heap.size, 2, none⟩ = some (.slice a4 n4 c4)) (by rw [← hw6]; exact ⟨al000 (cnw (by simp) rfl), al000 (cnw (by simp) rfl), al000 (cnw (by simp) rfl)⟩)
    clear T19
    have T21 := T20.add (fun wv => wv.cell? ⟨w5.heap.size + 1, 0, none⟩ = some (.int .i64 N4) ∧ wv.cell? ⟨w5.heap.size + 1, 1, none⟩ = some (.slice a41 n41 c41) ∧ wv.cell? ⟨w5.heap.size + 1, 2, none⟩ = some (.slice a42 n42 c42)) (by rw [← hw6]; exact ⟨cnw (by simp) rfl, cnw (by simp) rfl, cnw (by simp) rfl⟩)
    clear T20
    have Hw6 := Lib.hid hw6
    clear hw6 hbw6
    have v_x0 : ((w5.alloc (.cells #[.int .i64 N, .int .i64 q0, .slice a4 n4 c4] 24)).alloc (.cells #[.int .i64 N4, .slice a41 n41 c41, .slice a42 n42 c42] 47)).cell? ⟨w3.heap.size, 0, none⟩ = some (.int .i64 N) := by rw [Hw6.out]; exact T21.out.1.1.1.1.2.1
    have v_x1 : ((w5.alloc (.cells #[.int .i64 N, .int .i64 q0, .slice a4 n4 c4] 24)).alloc (.cells #[.int .i64 N4, .slice a41 n41 c41, .slice a42 n42 c42] 47)).cell? ⟨w3.heap.size, 1, none⟩ = some (.int .i64 q0) := by rw [Hw6.out]; exact T21.out.1.1.1.1.2.2.1
    have v_x2 : ((w5.alloc (.cells #[.int .i64 N, .int .i64 q0, .slice a4 n4 c4] 24)).alloc (.cells #[.int .i64 N4, .slice a41 n41 c41, .slice a42 n42 c42] 47)).cell? ⟨w3.heap.size, 2, none⟩ = some (.slice a2 n2 c2) := by rw [Hw6.out]; exact T21.out.1.1.1.1.2.2.2
    have v_y0 : ((w5.alloc (.cells #[.int .i64 N, .int .i64 q0, .slice a4 n4 c4] 24)).alloc (.cells #[.int .i64 N4, .slice a41 n41 c41, .slice a42 n42 c42] 47)).cell? ⟨w5.heap.size, 0, none⟩ = some (.int .i64 N) := by rw [Hw6.out]; exact T21.out.1.2.1
    have v_y1 : ((w5.alloc (.cells #[.int .i64 N, .int .i64 q0, .slice a4 n4 c4] 24)).alloc (.cells #[.int .i64 N4, .slice a41 n41 c41, .slice a42 n42 c42] 47)).cell? ⟨w5.heap.size, 1, none⟩ = some (.int .i64 q0) := by rw [Hw6.out]; exact T21.out.1.2.2.1
    have v_y2 : ((w5.alloc (.cells #[.int .i64 N, .int .i64 q0, .slice a4 n4 c4] 24)).alloc (.cells #[.int .i64 N4, .slice a41 n41 c41, .slice a42 n42 c42] 47)).cell? ⟨w5.heap.size, 2, none⟩ = some (.slice a4 n4 c4) := by rw [Hw6.out]; exact T21.out.1.2.2.2
    go_wp2_with fail
    rw [Hw6.out]
    refine (patches_eq N q0 a2 a4 n2 n4 c2 c4 LX w6 T21.out.1.1.1.1.1.2 T21.out.1.1.1.2 hl2).mono ?_; rintro e w7 ⟨rfl, hbw7⟩
    clear v_x0 v_x1 v_x2 v_y0 v_y1 v_y2
    have T22 := T21.up hbw7
    clear T21
    have v_f0 : w7.cell? ⟨w5.heap.size + 1, 0, none⟩ = some (.int .i64 N4) := T22.out.2.1
    have v_f1 : w7.cell? ⟨w5.heap.size + 1, 1, none⟩ = some (.slice a41 n41 c41) := T22.out.2.2.1
    have v_f2 : w7.cell? ⟨w5.heap.size + 1, 2, none⟩ = some (.slice a42 n42 c42) := T22.out.2.2.2
    go_wp2_with fail
    refine (rawIs_ch .nilIface (.agg #[.int .i64 N4, .slice a41 n41 c41, .slice a42 n42 c42]) none w7 R T22.out.1.1.1.1.1.1.1.1.1.1.1.1.2 rfl T22.out.1.1.2).mono ?_; rintro e w8 ⟨rfl, hbw8⟩
    clear v_f0 v_f1 v_f2
    have T23 := T22.up hbw8
    clear T22
    go_wp2_with fail
    refine (kept_any gv N cv cC aC cs w8 T23.out.1.1.1.1.1.1.1.2 hcv2 hcv3 T23.out.1.1.1.1.1.1.1.1.1.2 hN8).mono ?_; rintro e w9 ⟨rfl, hbw9⟩
    have T24 := T23.up hbw9
    clear T23
    have v_x0 : w9.cell? ⟨w3.heap.size, 0, none⟩ = some (.int .i64 N) := T24.out.1.1.1.1.2.1
    have v_x1 : w9.cell? ⟨w3.heap.size, 1, none⟩ = some (.int .i64 q0) := T24.out.1.1.1.1.2.2.1
    have v_x2 : w9.cell? ⟨w3.heap.size, 2, none⟩ = some (.slice a2 n2 c2) := T24.out.1.1.1.1.2.2.2
    go_wp2_with fail
    refine (columns_okZ N q0 a2 n2 c2 LX w9 R (T24.out.1.1.1.1.1.1.1.1.1.1.1.1.2).sent T24.out.1.1.1.1.1.2 hn2 HIP.out hq16).mono ?_; rintro e w10 ⟨gd, cd, rfl, ho5, hbw10⟩
    clear v_x0 v_x1 v_x2
    have T25 := T24.up hbw10
    clear T24
    have T26 := T25.add (fun wv => RK .i64 wv (some ⟨gd, 0, none⟩) N cs) (by have h5 := ho5.rk; rw [HCJ.out] at h5; exact h5)
    clear T25
    clear ho5
    go_wp2_with fail
    refine (ints_eqB (some ⟨gd, 0, none⟩) aC N N cd cC cs w10 T26.out.2 T26.out.1.1.1.1.1.1.1.1.1.1.2 (by rw [HNN.out]; exact hNm)).mono ?_; rintro e w11 ⟨rfl, hbw11⟩
    have T27 := T26.up hbw11
    clear T26
    by_cases hcd : colD w h l = none
    rotate_left
    · skip
      have HCD := Lib.hid hcd
      clear hcd
      have v_p0 : w11.cell? ⟨W.heap.size, 0, none⟩ = some (.int .i64 w) := T27.out.1.1.1.1.1.1.1.1.1.2.1
      have v_p1 : w11.cell? ⟨W.heap.size, 1, none⟩ = some (.int .i64 h) := T27.out.1.1.1.1.1.1.1.1.1.2.2.1
      have v_p2 : w11.cell? ⟨W.heap.size, 2, none⟩ = some (.slice a n c) := T27.out.1.1.1.1.1.1.1.1.1.2.2.2
      go_wp2_with fail
      refine (columns_erQ w h a n c l w11 R (T27.out.1.1.1.1.1.1.1.1.1.1.1.1.1.2).sent (T27.out.1.1.1.1.1.1.1.1.1.1.1.2).rk hnm HI6.out HCD.out).mono ?_; rintro e x1 ⟨a8, c8, t8, p8, rfl, hbx1⟩
      clear v_p0 v_p1 v_p2
      have T28 := T27.up hbx1
      clear T27
      go_wp2
      go_ret
      exact ⟨rfl, T28.out.1.1.1.1.1.1.1.1.1.1.1.1.1.1.2⟩
    · skip
      obtain ⟨w, h, rfl, rfl, hp, h16⟩ := colD_none hcd
      have HPP := Lib.hid hp
      obtain ⟨K, hK⟩ : ∃ K, w * h = K := ⟨_, rfl⟩
      have HK := Lib.hid hK
      obtain ⟨A, hA⟩ : ∃ A, colL w h l = A := ⟨_, rfl⟩
      have hAl : A.length = w := by rw [← hA]; exact colL_len w h l
      have hAj : JoinOk h A := by rw [← hA]; exact colL_ok hp h16
      have hAc : joinL h A = l := by rw [← hA]; exact join_col hp h16
      have HA := Lib.hid hA
      have HAL := Lib.hid hAl
      have HAJ := Lib.hid hAj
      have HAC := Lib.hid hAc
      have hpw1 := hp.w1
      have hpw := hp.w2
      have hph := hp.h2
      have hph1 := hp.h1
      clear hcd hp hK hA hAl hAj hAc
      have v_p0 : w11.cell? ⟨W.heap.size, 0, none⟩ = some (.int .i64 w) := T27.out.1.1.1.1.1.1.1.1.1.2.1
      have v_p1 : w11.cell? ⟨W.heap.size, 1, none⟩ = some (.int .i64 h) := T27.out.1.1.1.1.1.1.1.1.1.2.2.1
      have v_p2 : w11.cell? ⟨W.heap.size, 2, none⟩ = some (.slice a n c) := T27.out.1.1.1.1.1.1.1.1.1.2.2.2
      go_wp2_with fail
      refine (columns_okZ w h a n c l w11 R (T27.out.1.1.1.1.1.1.1.1.1.1.1.1.1.2).sent (T27.out.1.1.1.1.1.1.1.1.1.1.1.2).rk hnm HPP.out h16).mono ?_; rintro e x1 ⟨gc, cc, rfl, ho8, hbx1⟩
      clear v_p0 v_p1 v_p2
      have T28 := T27.up hbx1
      clear T27
      have T29 := T28.add (fun wv => RK .i64 wv (some ⟨gc, 0, none⟩) w A) (by rw [← HA.out]; exact ho8.rk)
      clear T28
      clear ho8
      have v_p1 : x1.cell? ⟨W.heap.size, 1, none⟩ = some (.int .i64 h) := T29.out.1.1.1.1.1.1.1.1.1.1.2.2.1
      go_wp2_with fail
      refine (join_okZ h 0 K (some ⟨gc, 0, none⟩) w cc A l x1 R (T29.out.1.1.1.1.1.1.1.1.1.1.1.1.1.1.2).sent T29.out.2 (by unfold maxLen; omega) HAJ.out HK.out HAC.out).mono ?_; rintro e x2 ⟨gq, cq, rfl, ho9, hbx2⟩
      clear v_p1
      have T30 := T29.up hbx2
      clear T29
      have T31 := T30.add (fun wv => RK .i64 wv (some ⟨gq, 0, none⟩) K l) (ho9.rk)
      clear T30
      have hl9 := ho9.lmT.2
      clear ho9
      obtain ⟨x3, hx3⟩ : ∃ x3, x2.alloc (.cells #[.int .i64 w, .int .i64 h, .slice (some ⟨gq, 0, none⟩) K cq] 24) = x3 := ⟨_, rfl⟩
      have hbx3 : Below x2.heap.size x2 x3 := by rw [← hx3]; exact balloc (bnil x2) _
      have T32 := T31.up hbx3
      clear T31
      have T33 := T32.add (fun wv => wv.cell? ⟨x2.heap.size, 0, none⟩ = some (.int .i64 w) ∧ wv.cell? ⟨x2.heap.size, 1, none⟩ = some (.int .i64 h) ∧ wv.cell? ⟨x2.heap.size, 2, none⟩ = some (.slice (some ⟨gq, 0, none⟩) K cq)) (by rw [← hx3]; exact ⟨cnw (by simp) rfl, cnw (by simp) rfl, cnw (by simp) rfl⟩)
      clear T32
      have Hx3 := Lib.hid hx3
      clear hx3 hbx3
      have v_q0 : (x2.alloc (.cells #[.int .i64 w, .int .i64 h, .slice (some ⟨gq, 0, none⟩) K cq] 24)).cell? ⟨x2.heap.size, 0, none⟩ = some (.int .i64 w) := by rw [Hx3.out]; exact T33.out.2.1
      have v_q1 : (x2.alloc (.cells #[.int .i64 w, .int .i64 h, .slice (some ⟨gq, 0, none⟩) K cq] 24)).cell? ⟨x2.heap.size, 1, none⟩ = some (.int .i64 h) := by rw [Hx3.out]; exact T33.out.2.2.1
      have v_q2 : (x2.alloc (.cells #[.int .i64 w, .int .i64 h, .slice (some ⟨gq, 0, none⟩) K cq] 24)).cell? ⟨x2.heap.size, 2, none⟩ = some (.slice (some ⟨gq, 0, none⟩) K cq) := by rw [Hx3.out]; exact T33.out.2.2.2
      have v_p0 : (x2.alloc (.cells #[.int .i64 w, .int .i64 h, .slice (some ⟨gq, 0, none⟩) K cq] 24)).cell? ⟨W.heap.size, 0, none⟩ = some (.int .i64 w) := by rw [Hx3.out]; exact T33.out.1.1.1.1.1.1.1.1.1.1.1.1.2.1
      have v_p1 : (x2.alloc (.cells #[.int .i64 w, .int .i64 h, .slice (some ⟨gq, 0, none⟩) K cq] 24)).cell? ⟨W.heap.size, 1, none⟩ = some (.int .i64 h) := by rw [Hx3.out]; exact T33.out.1.1.1.1.1.1.1.1.1.1.1.1.2.2.1
      have v_p2 : (x2.alloc (.cells #[.int .i64 w, .int .i64 h, .slice (some ⟨gq, 0, none⟩) K cq] 24)).cell? ⟨W.heap.size, 2, none⟩ = some (.slice a n c) := by rw [Hx3.out]; exact T33.out.1.1.1.1.1.1.1.1.1.1.1.1.2.2.2
      go_wp2_with fail
      rw [Hx3.out]
      refine (patches_eq w h (some ⟨gq, 0, none⟩) a K n cq c l x3 T33.out.1.2 (T33.out.1.1.1.1.1.1.1.1.1.1.1.1.1.1.2).rk hl9).mono ?_; rintro e x4 ⟨rfl, hbx4⟩
      clear v_q0 v_q1 v_q2 v_p0 v_p1 v_p2
      have T34 := T33.up hbx4
      clear T33
      by_cases hqh : q0 ≠ h
      · skip
        have hq1 : ((q0 : Int) != (h : Int)) = true := by rw [bne_iff_ne]; omega
        clear hqh
        have v_p1 : x4.cell? ⟨W.heap.size, 1, none⟩ = some (.int .i64 h) := T34.out.1.1.1.1.1.1.1.1.1.1.1.1.2.2.1
        go_wp2
        go_ret
        exact ⟨rfl, T34.out.1.1.1.1.1.1.1.1.1.1.1.1.1.1.1.1.1.2⟩
      obtain rfl : h = q0 := by omega
      clear hqh
      by_cases h64 : 64 < w + N
      · skip
        have h64I : (64 : Int) < (w : Int) + (N : Int) := by omega
        have v_p1 : x4.cell? ⟨W.heap.size, 1, none⟩ = some (.int .i64 h) := T34.out.1.1.1.1.1.1.1.1.1.1.1.1.2.2.1
        go_wp2
        go_ret
        exact ⟨rfl, T34.out.1.1.1.1.1.1.1.1.1.1.1.1.1.1.1.1.1.2⟩
      have h64I : ¬ (64 : Int) < (w : Int) + (N : Int) := by omega
      obtain ⟨Z, hZ⟩ : ∃ Z, w + N = Z := ⟨_, rfl⟩
      obtain ⟨K2, hK2⟩ : ∃ K2, Z * h = K2 := ⟨_, rfl⟩
      obtain ⟨K3, hK3⟩ : ∃ K3, N * h = K3 := ⟨_, rfl⟩
      have hJ2 : JoinOk h (A ++ cs) := joinOk_app HAJ.out HJ.out (by rw [HAL.out, HNN.out]; omega)
      obtain ⟨LW, hLW⟩ : ∃ LW, joinL h (A ++ cs) = LW := ⟨_, rfl⟩
      have hIW : IsPatch Z h LW := by
        have := join_patch hJ2
        rw [List.length_append, HAL.out, HNN.out, hLW, hZ] at this
        exact this
      have hle := join_left (h := h) HAL.out HNN.out hpw1
      have hri := join_right (h := h) HAL.out HNN.out (by have := HJ.out.n1; have := HNN.out; omega)
      rw [hLW, HAC.out, hZ] at hle
      rw [hLW, HLX.out, hZ] at hri
      have HW2 := Lib.hid (And.intro hJ2 (And.intro hIW (And.intro hle (And.intro hri (And.intro hK2 (And.intro hK3 hLW))))))
      have hN1 : 1 ≤ N := by have := HJ.out.n1; have := HNN.out; omega
      have hN64 : N ≤ 64 := by omega
      have hZ64 : Z ≤ 64 := by omega
      have hwZ : w ≤ Z := by omega
      have hwNZ : w + N ≤ Z := by omega
      have HZ := Lib.hid hZ
      have hK2b : K2 ≤ 4096 := by rw [← hK2]; exact Nat.mul_le_mul hZ64 hph
      have hK3b : K3 ≤ 4096 := by rw [← hK3]; exact Nat.mul_le_mul hN64 hph
      clear hJ2 hIW hle hri hK2 hK3 hLW h64 hZ
      have v_p1 : x4.cell? ⟨W.heap.size, 1, none⟩ = some (.int .i64 h) := T34.out.1.1.1.1.1.1.1.1.1.1.1.1.2.2.1
      go_wp2_with fail
      refine (copy_any (some ⟨gc, 0, none⟩) w cc A _ T34.out.1.1.2 (by omega) (fun h => by cases h)).mono ?_; rintro e x5 ⟨a5, c5, rfl, ho5, hbx5⟩
      clear v_p1
      have TX := T34
      have T35 := T34.up hbx5
      clear T34
      have HO5 := Lib.hid ho5
      have HRC := Lib.hid (T35.out.1.1.1.1.1.1.1.1.1.1.1.1.1.2).2
      have hz5 : x4.heap.size ≤ x5.heap.size := hbx5.size
      have HB5 := Lib.hid hbx5
      clear ho5 hbx5
      go_wp2_with (first
        | (at_builtin; refine apx rfl _ _ _ rfl x4.heap.size et_int _ w _ HO5.out rfl aC N cC _ rfl HCN.out HRC.out (nums_one _ _) (by unfold maxLen; omega) (by omega) hz5 ?_; intro a6 c6 x6 h6; have o6 := h6.own; have hb6 := h6.below))
      rw [← List.map_append] at o6
      rw [HZ.out] at o6
      rw [HZ.out]
      have hbx6 := HB5.out.trans hb6
      have ho6 : OwI x6 x4.heap.size a6 Z c6 (A ++ cs) := ⟨o6⟩
      clear T35
      have T36 := TX.up hbx6
      have T37 := T36.add (fun wv => RK .i64 wv a6 Z (A ++ cs)) (ho6.rk)
      clear T36
      clear TX o6 ho6 hb6 h6 hbx6 hz5
      refine (join_okZ h 0 K2 a6 Z c6 (A ++ cs) LW x6 R (T37.out.1.1.1.1.1.1.1.1.1.1.1.1.1.1.1.1.1.2).sent T37.out.2 (by unfold maxLen; omega) HW2.out.1 HW2.out.2.2.2.2.1 HW2.out.2.2.2.2.2.2).mono ?_; rintro e x7 ⟨gw, cw, rfl, how, hbx7⟩
      have T38 := T37.up hbx7
      clear T37
      have T39 := T38.add (fun wv => RK .i64 wv (some ⟨gw, 0, none⟩) K2 LW) (how.rk)
      clear T38
      clear how
      obtain ⟨x8, hx8⟩ : ∃ x8, x7.alloc (.cells #[.int .i64 Z, .int .i64 h, .slice (some ⟨gw, 0, none⟩) K2 cw] 24) = x8 := ⟨_, rfl⟩
      have hbx8 : Below x7.heap.size x7 x8 := by rw [← hx8]; exact balloc (bnil x7) _
      have T40 := T39.up hbx8
      clear T39
      have T41 := T40.add (fun wv => wv.cell? ⟨x7.heap.size, 0, none⟩ = some (.int .i64 Z) ∧ wv.cell? ⟨x7.heap.size, 1, none⟩ = some (.int .i64 h) ∧ wv.cell? ⟨x7.heap.size, 2, none⟩ = some (.slice (some ⟨gw, 0, none⟩) K2 cw)) (by rw [← hx8]; exact ⟨cnw (by simp) rfl, cnw (by simp) rfl, cnw (by simp) rfl⟩)
      clear T40
      have Hx8 := Lib.hid hx8
      clear hx8 hbx8
      have v_w0 : (x7.alloc (.cells #[.int .i64 Z, .int .i64 h, .slice (some ⟨gw, 0, none⟩) K2 cw] 24)).cell? ⟨x7.heap.size, 0, none⟩ = some (.int .i64 Z) := by rw [Hx8.out]; exact T41.out.2.1
      have v_w1 : (x7.alloc (.cells #[.int .i64 Z, .int .i64 h, .slice (some ⟨gw, 0, none⟩) K2 cw] 24)).cell? ⟨x7.heap.size, 1, none⟩ = some (.int .i64 h) := by rw [Hx8.out]; exact T41.out.2.2.1
      have v_w2 : (x7.alloc (.cells #[.int .i64 Z, .int .i64 h, .slice (some ⟨gw, 0, none⟩) K2 cw] 24)).cell? ⟨x7.heap.size, 2, none⟩ = some (.slice (some ⟨gw, 0, none⟩) K2 cw) := by rw [Hx8.out]; exact T41.out.2.2.2
      have v_p0 : (x7.alloc (.cells #[.int .i64 Z, .int .i64 h, .slice (some ⟨gw, 0, none⟩) K2 cw] 24)).cell? ⟨W.heap.size, 0, none⟩ = some (.int .i64 w) := by rw [Hx8.out]; exact T41.out.1.1.1.1.1.1.1.1.1.1.1.1.1.1.1.2.1
      go_wp2_with fail
      rw [Hx8.out]
      refine (cut_okL Z h w h K (some ⟨gw, 0, none⟩) K2 cw LW l x8 R (T41.out.1.1.1.1.1.1.1.1.1.1.1.1.1.1.1.1.1.1.1.2).sent T41.out.1.2 (by unfold maxLen; omega) HW2.out.2.1 hpw1 hph1 (by omega) (Nat.le_refl _) HK.out HW2.out.2.2.1).mono ?_; rintro e x9 ⟨gl, cl, rfl, hol, hbx9⟩
      clear v_w0 v_w1 v_w2 v_p0
      have T42 := T41.up hbx9
      clear T41
      have T43 := T42.add (fun wv => RK .i64 wv (some ⟨gl, 0, none⟩) K l) (hol.rk)
      clear T42
      have hll := hol.lmT.2
      clear hol
      obtain ⟨x10, hx10⟩ : ∃ x10, x9.alloc (.cells #[.int .i64 w, .int .i64 h, .slice (some ⟨gl, 0, none⟩) K cl] 24) = x10 := ⟨_, rfl⟩
      have hbx10 : Below x9.heap.size x9 x10 := by rw [← hx10]; exact balloc (bnil x9) _
      have T44 := T43.up hbx10
      clear T43
      have T45 := T44.add (fun wv => wv.cell? ⟨x9.heap.size, 0, none⟩ = some (.int .i64 w) ∧ wv.cell? ⟨x9.heap.size, 1, none⟩ = some (.int .i64 h) ∧ wv.cell? ⟨x9.heap.size, 2, none⟩ = some (.slice (some ⟨gl, 0, none⟩) K cl)) (by rw [← hx10]; exact ⟨cnw (by simp) rfl, cnw (by simp) rfl, cnw (by simp) rfl⟩)
      clear T44
      have Hx10 := Lib.hid hx10
      clear hx10 hbx10
      have v_w0 : (x9.alloc (.cells #[.int .i64 w, .int .i64 h, .slice (some ⟨gl, 0, none⟩) K cl] 24)).cell? ⟨x7.heap.size, 0, none⟩ = some (.int .i64 Z) := by rw [Hx10.out]; exact T45.out.1.1.2.1
      have v_w1 : (x9.alloc (.cells #[.int .i64 w, .int .i64 h, .slice (some ⟨gl, 0, none⟩) K cl] 24)).cell? ⟨x7.heap.size, 1, none⟩ = some (.int .i64 h) := by rw [Hx10.out]; exact T45.out.1.1.2.2.1
      have v_w2 : (x9.alloc (.cells #[.int .i64 w, .int .i64 h, .slice (some ⟨gl, 0, none⟩) K cl] 24)).cell? ⟨x7.heap.size, 2, none⟩ = some (.slice (some ⟨gw, 0, none⟩) K2 cw) := by rw [Hx10.out]; exact T45.out.1.1.2.2.2
      have v_p0 : (x9.alloc (.cells #[.int .i64 w, .int .i64 h, .slice (some ⟨gl, 0, none⟩) K cl] 24)).cell? ⟨W.heap.size, 0, none⟩ = some (.int .i64 w) := by rw [Hx10.out]; exact T45.out.1.1.1.1.1.1.1.1.1.1.1.1.1.1.1.1.1.2.1
      have v_x0 : (x9.alloc (.cells #[.int .i64 w, .int .i64 h, .slice (some ⟨gl, 0, none⟩) K cl] 24)).cell? ⟨w3.heap.size, 0, none⟩ = some (.int .i64 N) := by rw [Hx10.out]; exact T45.out.1.1.1.1.1.1.1.1.1.1.1.1.1.2.1
      go_wp2_with fail
      rw [Hx10.out]
      refine (cut_okR Z h w N h K3 (some ⟨gw, 0, none⟩) K2 cw LW LX x10 R (T45.out.1.1.1.1.1.1.1.1.1.1.1.1.1.1.1.1.1.1.1.1.1.2).sent T45.out.1.1.1.2 (by unfold maxLen; omega) HW2.out.2.1 hN1 hph1 (by omega) (Nat.le_refl _) HW2.out.2.2.2.2.2.1 HW2.out.2.2.2.1).mono ?_; rintro e x11 ⟨gr, cr, rfl, hor, hbx11⟩
      clear v_w0 v_w1 v_w2 v_p0 v_x0
      have T46 := T45.up hbx11
      clear T45
      have T47 := T46.add (fun wv => RK .i64 wv (some ⟨gr, 0, none⟩) K3 LX) (hor.rk)
      clear T46
      clear hor
      obtain ⟨x12, hx12⟩ : ∃ x12, x11.alloc (.cells #[.int .i64 N, .int .i64 h, .slice (some ⟨gr, 0, none⟩) K3 cr] 24) = x12 := ⟨_, rfl⟩
      have hbx12 : Below x11.heap.size x11 x12 := by rw [← hx12]; exact balloc (bnil x11) _
      have T48 := T47.up hbx12
      clear T47
      have T49 := T48.add (fun wv => wv.cell? ⟨x11.heap.size, 0, none⟩ = some (.int .i64 N) ∧ wv.cell? ⟨x11.heap.size, 1, none⟩ = some (.int .i64 h) ∧ wv.cell? ⟨x11.heap.size, 2, none⟩ = some (.slice (some ⟨gr, 0, none⟩) K3 cr)) (by rw [← hx12]; exact ⟨cnw (by simp) rfl, cnw (by simp) rfl, cnw (by simp) rfl⟩)
      clear T48
      have Hx12 := Lib.hid hx12
      clear hx12 hbx12
      have v_l0 : (x11.alloc (.cells #[.int .i64 N, .int .i64 h, .slice (some ⟨gr, 0, none⟩) K3 cr] 24)).cell? ⟨x9.heap.size, 0, none⟩ = some (.int .i64 w) := by rw [Hx12.out]; exact T49.out.1.1.2.1
      have v_l1 : (x11.alloc (.cells #[.int .i64 N, .int .i64 h, .slice (some ⟨gr, 0, none⟩) K3 cr] 24)).cell? ⟨x9.heap.size, 1, none⟩ = some (.int .i64 h) := by rw [Hx12.out]; exact T49.out.1.1.2.2.1
      have v_l2 : (x11.alloc (.cells #[.int .i64 N, .int .i64 h, .slice (some ⟨gr, 0, none⟩) K3 cr] 24)).cell? ⟨x9.heap.size, 2, none⟩ = some (.slice (some ⟨gl, 0, none⟩) K cl) := by rw [Hx12.out]; exact T49.out.1.1.2.2.2
      have v_p0 : (x11.alloc (.cells #[.int .i64 N, .int .i64 h, .slice (some ⟨gr, 0, none⟩) K3 cr] 24)).cell? ⟨W.heap.size, 0, none⟩ = some (.int .i64 w) := by rw [Hx12.out]; exact T49.out.1.1.1.1.1.1.1.1.1.1.1.1.1.1.1.1.1.1.1.2.1
      have v_p1 : (x11.alloc (.cells #[.int .i64 N, .int .i64 h, .slice (some ⟨gr, 0, none⟩) K3 cr] 24)).cell? ⟨W.heap.size, 1, none⟩ = some (.int .i64 h) := by rw [Hx12.out]; exact T49.out.1.1.1.1.1.1.1.1.1.1.1.1.1.1.1.1.1.1.1.2.2.1
      have v_p2 : (x11.alloc (.cells #[.int .i64 N, .int .i64 h, .slice (some ⟨gr, 0, none⟩) K3 cr] 24)).cell? ⟨W.heap.size, 2, none⟩ = some (.slice a n c) := by rw [Hx12.out]; exact T49.out.1.1.1.1.1.1.1.1.1.1.1.1.1.1.1.1.1.1.1.2.2.2
      go_wp2_with fail
      rw [Hx12.out]
      refine (patches_eq w h (some ⟨gl, 0, none⟩) a K n cl c l x12 T49.out.1.1.1.2 (T49.out.1.1.1.1.1.1.1.1.1.1.1.1.1.1.1.1.1.1.1.1.1.2).rk hll).mono ?_; rintro e x13 ⟨rfl, hbx13⟩
      clear v_l0 v_l1 v_l2 v_p0 v_p1 v_p2
      have T50 := T49.up hbx13
      clear T49
      have v_r0 : x13.cell? ⟨x11.heap.size, 0, none⟩ = some (.int .i64 N) := T50.out.2.1
      have v_r1 : x13.cell? ⟨x11.heap.size, 1, none⟩ = some (.int .i64 h) := T50.out.2.2.1
      have v_r2 : x13.cell? ⟨x11.heap.size, 2, none⟩ = some (.slice (some ⟨gr, 0, none⟩) K3 cr) := T50.out.2.2.2
      have v_x0 : x13.cell? ⟨w3.heap.size, 0, none⟩ = some (.int .i64 N) := T50.out.1.1.1.1.1.1.1.1.1.1.1.1.1.1.1.2.1
      have v_x1 : x13.cell? ⟨w3.heap.size, 1, none⟩ = some (.int .i64 h) := T50.out.1.1.1.1.1.1.1.1.1.1.1.1.1.1.1.2.2.1
      have v_x2 : x13.cell? ⟨w3.heap.size, 2, none⟩ = some (.slice a2 n2 c2) := T50.out.1.1.1.1.1.1.1.1.1.1.1.1.1.1.1.2.2.2
      go_wp2_with fail
      refine (patches_eq N h (some ⟨gr, 0, none⟩) a2 K3 n2 cr c2 LX x13 T50.out.1.2 T50.out.1.1.1.1.1.1.1.1.1.1.1.1.1.1.1.1.2 hl2).mono ?_; rintro e x14 ⟨rfl, hbx14⟩
      clear v_r0 v_r1 v_r2 v_x0 v_x1 v_x2
      have T51 := T50.up hbx14
      clear T50
      go_wp2
      go_ret
      exact ⟨rfl, T51.out.1.1.1.1.1.1.1.1.1.1.1.1.1.1.1.1.1.1.1.1.1.1.1.1.2⟩
end Go.Proofs.YtnlpobkmjhajcaaDoor
