/- edenref01.finds, first, Code over nodes. -/
import Derived.Test.YtckipboebllkhaaDoorFChB
namespace Go.Proofs.YtckipboebllkhaaDoor
open Go.RowKit Go.Extern.Stop Go.Stop Go.Extern
set_option linter.unusedVariables false
set_option maxRecDepth 100000

/-- an error of errors.New is none of the listed ones -/
def Fresh (R E : Nat → Addr) (N : Nat → Nd) (n : Nat) : Prop := ∀ i, i < n → nkind N i = 1 → ∀ k, k < 12 → E i ≠ R k
theorem finds_new {w : World} {R : Nat → Addr} (hS : Sent w R) (op : ByteArray) (at_ n : Int) {j : Nat} (h1 : 1 ≤ j) (h2 : j ≤ 11) : finds (R (rix (j : Int))) (newT R op at_ n) = (!decide (n = 0) && decide (known n = j)) := by
  unfold newT
  split
  · rename_i h; simp [finds, h]
  · rename_i h
    show finds (R (rix (j : Int))) (.root (R (rix n))) = _
    rw [root_finds hS n h1 h2]
    simp [h]
theorem finds_under (b : Addr) (op : ByteArray) (at_ : Int) (t : ErrT) : finds b (underT op at_ t) = finds b t := by cases t <;> rfl
theorem firstF_under (op : ByteArray) (at_ : Int) {t : ErrT} (h : isN t = false) : firstF (underT op at_ t) = some (op, at_, t) := by
  cases t <;> first | rfl | (simp [isN] at h)
theorem firstF_underN (op : ByteArray) (at_ : Int) {t : ErrT} (h : isN t = true) : firstF (underT op at_ t) = none := by
  cases t <;> first | rfl | (simp [isN] at h)
theorem firstF_new (R : Nat → Addr) (op : ByteArray) (at_ : Int) {n : Int} (h : n ≠ 0) : firstF (newT R op at_ n) = some (op, at_, .root (R (rix n))) := by unfold newT; rw [if_neg h]; rfl
set_option maxHeartbeats 16000000 in
theorem finds_any (R E : Nat → Addr) (s : Option Addr) (n c : Nat) (N : Nat → Nd) (hn : n ≤ 12) (w0 : World) (hS : Sent w0 R) (hE : Fresh R E N n) (q : Nat) (hq1 : 1 ≤ q) (hq2 : q ≤ 11) : ∀ i, i < n → ∀ w : World, NdR w s n N →
    Calls Tryd.prog 44 #[.slice s n c, .int .i64 (i : Nat), .int .i64 (q : Nat)] w (BoolPost w (finds (R (rix (q : Int))) (ndT R E N i))) := by
  have HS := Lib.hid hS
  have HE := Lib.hid hE
  clear hS hE
  intro i
  induction i using Nat.strongRecOn with
  | ind i ih =>
    intro hi w h
    obtain ⟨rs, hrs⟩ : ∃ rs, finds (R (rix (q : Int))) (ndT R E N i) = rs := ⟨_, rfl⟩
    have HRS := Lib.hid hrs
    rw [hrs]
    clear hrs
    have IH := Lib.hid ih
    have HN := Lib.hid h
    clear ih h
    have hk := kinds N i
    go_enter Tryd.func44, Tryd.ntmps44
    go_wp2_with fail
    refine (norm_pos s n c i N _ HN.out hi hn).mono ?_; rintro e w1 ⟨A, B, rfl, hab, hb1⟩
    obtain ⟨k, hkk⟩ : ∃ k, nkind N i = k := ⟨_, rfl⟩
    have HKK := Lib.hid hkk
    rw [hkk] at hk
    try rw [hkk]
    have HB1 := Lib.hid hb1
    have HAB := Lib.hid hab
    clear hb1 hab hkk
    obtain ⟨nm, hnm⟩ : ∃ nm, (N i).num = nm := ⟨_, rfl⟩
    rw [hnm]
    have HNM := Lib.hid hnm
    clear hnm
    obtain ⟨atx, hax⟩ : ∃ atx, (N i).at_ = atx := ⟨_, rfl⟩
    obtain ⟨opx, hox⟩ : ∃ opx, (N i).op = opx := ⟨_, rfl⟩
    rw [hax, hox]
    have HAX := Lib.hid hax
    have HOX := Lib.hid hox
    clear hax hox
    rcases hk with rfl | rfl | rfl | rfl | rfl | rfl | rfl
    · have hr : rs = decide (known nm = q) := by rw [← HRS.out, ndT_0 HKK.out, root_finds HS.out _ hq1 hq2, HNM.out]
      have hnl : isN (ndT R E N i) = false := by rw [ndT_0 HKK.out]; rfl
      have HR := Lib.hid hr
      have HNL := Lib.hid hnl
      clear hr hnl
      go_wp2_with fail
      refine (nil_any R E s n c N hn i hi _ (HN.out.up (balloc HB1.out _))).mono ?_; rintro e w2 ⟨rfl, hb2⟩
      rw [HNL.out]
      have hb2' := bstep (balloc HB1.out _) hb2
      have HB2 := Lib.hid hb2'
      have c2 := cpF hb2 (show (w1.alloc (.cells #[.int .i64 0, .int .i64 nm, .int .i64 atx, .int .i64 A, .int .i64 B, .string opx] 88)).cell? ⟨w1.heap.size, 1, none⟩ = some (.int .i64 nm) by simp)
      clear hb2 hb2'
      go_wp2_with fail
      refine (known_int nm _).mono ?_; rintro e w3 ⟨rfl, rfl⟩
      by_cases hz : known nm = q
      · have hz2 : (((known nm : Nat) : Int) == (q : Int)) = true := by simp [hz]
        have HZ := Lib.hid hz
        clear hz
        go_wp2
        go_ret
        exact ⟨by rw [HR.out, decide_eq_true HZ.out]; rfl, HB2.out⟩
      · have hz2 : (((known nm : Nat) : Int) == (q : Int)) = false := by rw [beq_eq_false_iff_ne]; omega
        have HZ := Lib.hid hz
        clear hz
        go_wp2
        go_ret
        exact ⟨by rw [HR.out, decide_eq_false HZ.out]; rfl, HB2.out⟩
    · have hr : rs = false := by
        rw [← HRS.out, ndT_1 HKK.out]
        exact decide_eq_false (HE.out i hi HKK.out _ (rix_ltF _))
      have HR := Lib.hid hr
      clear hr
      go_wp2
      go_ret
      exact ⟨by rw [HR.out]; rfl, balloc HB1.out _⟩
    · have hr : rs = (!decide (nm = 0) && decide (known nm = q)) := by rw [← HRS.out, ndT_2 HKK.out, finds_new HS.out _ _ _ hq1 hq2, HNM.out]
      have hnl : isN (ndT R E N i) = decide (nm = 0) := by rw [ndT_2 HKK.out, isN_new, HNM.out]
      have HR := Lib.hid hr
      have HNL := Lib.hid hnl
      clear hr hnl
      go_wp2_with fail
      refine (nil_any R E s n c N hn i hi _ (HN.out.up (balloc HB1.out _))).mono ?_; rintro e w2 ⟨rfl, hb2⟩
      rw [HNL.out]
      have hb2' := bstep (balloc HB1.out _) hb2
      have HB2 := Lib.hid hb2'
      have c2 := cpF hb2 (show (w1.alloc (.cells #[.int .i64 2, .int .i64 nm, .int .i64 atx, .int .i64 A, .int .i64 B, .string opx] 88)).cell? ⟨w1.heap.size, 1, none⟩ = some (.int .i64 nm) by simp)
      clear hb2 hb2'
      by_cases hz0 : nm = 0
      · rw [decide_eq_true hz0]
        have HZ0 := Lib.hid hz0
        clear hz0
        go_wp2
        go_ret
        exact ⟨by rw [HR.out, decide_eq_true HZ0.out]; rfl, HB2.out⟩
      · rw [decide_eq_false hz0]
        have HZ0 := Lib.hid hz0
        clear hz0
        go_wp2_with fail
        refine (known_int nm _).mono ?_; rintro e w3 ⟨rfl, rfl⟩
        by_cases hz : known nm = q
        · have hz2 : (((known nm : Nat) : Int) == (q : Int)) = true := by simp [hz]
          have HZ := Lib.hid hz
          clear hz
          go_wp2
          go_ret
          exact ⟨by rw [HR.out, decide_eq_true HZ.out, decide_eq_false HZ0.out]; rfl, HB2.out⟩
        · have hz2 : (((known nm : Nat) : Int) == (q : Int)) = false := by rw [beq_eq_false_iff_ne]; omega
          have HZ := Lib.hid hz
          clear hz
          go_wp2
          go_ret
          exact ⟨by rw [HR.out, decide_eq_false HZ.out, decide_eq_false HZ0.out]; rfl, HB2.out⟩
    · have hr : rs = finds (R (rix (q : Int))) (ndT R E N (pa N i)) := by rw [← HRS.out, ndT_3 HKK.out, finds_under]
      have h0 := kind_pos (N := N) (i := i) (by rw [HKK.out]; omega)
      obtain ⟨rfl, rfl⟩ := HAB.out h0
      have hlt := (pa_lt (N := N) h0).2
      have HR := Lib.hid hr
      clear hr
      go_wp2_with fail
      refine (IH.out (pa N i) hlt (by omega) _ (HN.out.up (balloc HB1.out _))).mono ?_; rintro e w2 ⟨rfl, hb2⟩
      rw [← HR.out]
      go_wp2
      go_ret
      exact ⟨rfl, bstep (balloc HB1.out _) hb2⟩
    · have hr : rs = finds (R (rix (q : Int))) (ndT R E N (pa N i)) := by rw [← HRS.out, ndT_4 HKK.out]; rfl
      have h0 := kind_pos (N := N) (i := i) (by rw [HKK.out]; omega)
      obtain ⟨rfl, rfl⟩ := HAB.out h0
      have hlt := (pa_lt (N := N) h0).2
      have HR := Lib.hid hr
      clear hr
      go_wp2_with fail
      refine (IH.out (pa N i) hlt (by omega) _ (HN.out.up (balloc HB1.out _))).mono ?_; rintro e w2 ⟨rfl, hb2⟩
      rw [← HR.out]
      go_wp2
      go_ret
      exact ⟨rfl, bstep (balloc HB1.out _) hb2⟩
    · have hr : rs = false := by rw [← HRS.out, ndT_5 HKK.out]; rfl
      have HR := Lib.hid hr
      clear hr
      go_wp2
      go_ret
      exact ⟨by rw [HR.out]; rfl, balloc HB1.out _⟩
    · have hr : rs = (finds (R (rix (q : Int))) (ndT R E N (pa N i)) || finds (R (rix (q : Int))) (ndT R E N (pb N i))) := by rw [← HRS.out, ndT_6 HKK.out]; rfl
      have h0 := kind_pos (N := N) (i := i) (by rw [HKK.out]; omega)
      obtain ⟨rfl, rfl⟩ := HAB.out h0
      have hlt := (pa_lt (N := N) h0).2
      have hlt2 := (pb_lt (N := N) h0).2
      have HR := Lib.hid hr
      clear hr
      go_wp2_with fail
      refine (IH.out (pa N i) hlt (by omega) _ (HN.out.up (balloc HB1.out _))).mono ?_; rintro e w2 ⟨rfl, hb2⟩
      have c4 := cpF hb2 (show (w1.alloc (.cells #[.int .i64 6, .int .i64 nm, .int .i64 atx, .int .i64 (pa N i : Nat), .int .i64 (pb N i : Nat), .string opx] 88)).cell? ⟨w1.heap.size, 4, none⟩ = some (.int .i64 (pb N i : Nat)) by simp)
      have HB2 := Lib.hid (bstep (balloc HB1.out _) hb2)
      clear hb2
      obtain ⟨ra, hra⟩ : ∃ ra, finds (R (rix (q : Int))) (ndT R E N (pa N i)) = ra := ⟨_, rfl⟩
      rw [hra]
      have HRA := Lib.hid hra
      clear hra
      cases ra with
      | true =>
        go_wp2
        go_ret
        exact ⟨by rw [HR.out, HRA.out]; rfl, HB2.out⟩
      | false =>
        go_wp2_with fail
        refine (IH.out (pb N i) hlt2 (by omega) _ (HN.out.up HB2.out)).mono ?_; rintro e w3 ⟨rfl, hb3⟩
        have hr2 : finds (R (rix (q : Int))) (ndT R E N (pb N i)) = rs := by rw [HR.out, HRA.out, Bool.false_or]
        rw [hr2]
        go_wp2
        go_ret
        exact ⟨rfl, bstep HB2.out hb3⟩
def FirstPost (W : World) (R E : Nat → Addr) (N : Nat → Nd) (i : Nat) (e : Ending) (w' : World) : Prop := Below W.heap.size W w' ∧
  ((e = .returned (.int .i64 (-1)) ∧ firstF (ndT R E N i) = none) ∨
   ∃ m : Nat, e = .returned (.int .i64 (m : Nat)) ∧ m ≤ i ∧ firstF (ndT R E N i) = firstF (ndT R E N m) ∧ (nkind N m = 2 ∧ firstF (ndT R E N m) = some ((N m).op, (N m).at_, .root (R (rix (N m).num))) ∨ nkind N m = 3 ∧ firstF (ndT R E N m) = some ((N m).op, (N m).at_, ndT R E N (pa N m))))
set_option maxHeartbeats 16000000 in
theorem first_any (R E : Nat → Addr) (s : Option Addr) (n c : Nat) (N : Nat → Nd) (hn : n ≤ 12) : ∀ i, i < n → ∀ w : World, NdR w s n N →
    Calls Tryd.prog 43 #[.slice s n c, .int .i64 (i : Nat)] w (FirstPost w R E N i) := by
  intro i
  induction i using Nat.strongRecOn with
  | ind i ih =>
    intro hi w h
    have IH := Lib.hid ih
    have HN := Lib.hid h
    clear ih h
    have hk := kinds N i
    go_enter Tryd.func43, Tryd.ntmps43
    go_wp2_with fail
    refine (norm_pos s n c i N _ HN.out hi hn).mono ?_; rintro e w1 ⟨A, B, rfl, hab, hb1⟩
    obtain ⟨k, hkk⟩ : ∃ k, nkind N i = k := ⟨_, rfl⟩
    have HKK := Lib.hid hkk
    rw [hkk] at hk
    try rw [hkk]
    have HB1 := Lib.hid hb1
    have HAB := Lib.hid hab
    clear hb1 hab hkk
    obtain ⟨nm, hnm⟩ : ∃ nm, (N i).num = nm := ⟨_, rfl⟩
    rw [hnm]
    have HNM := Lib.hid hnm
    clear hnm
    obtain ⟨atx, hax⟩ : ∃ atx, (N i).at_ = atx := ⟨_, rfl⟩
    obtain ⟨opx, hox⟩ : ∃ opx, (N i).op = opx := ⟨_, rfl⟩
    rw [hax, hox]
    have HAX := Lib.hid hax
    have HOX := Lib.hid hox
    clear hax hox
    rcases hk with rfl | rfl | rfl | rfl | rfl | rfl | rfl
    · have hr : firstF (ndT R E N i) = none := by rw [ndT_0 HKK.out]; rfl
      have HR := Lib.hid hr
      clear hr
      go_wp2
      go_ret
      exact ⟨balloc HB1.out _, .inl ⟨rfl, HR.out⟩⟩
    · have hr : firstF (ndT R E N i) = none := by rw [ndT_1 HKK.out]; rfl
      have HR := Lib.hid hr
      clear hr
      go_wp2
      go_ret
      exact ⟨balloc HB1.out _, .inl ⟨rfl, HR.out⟩⟩
    · have hnl : isN (ndT R E N i) = decide (nm = 0) := by rw [ndT_2 HKK.out, isN_new, HNM.out]
      have HNL := Lib.hid hnl
      clear hnl
      go_wp2_with fail
      refine (nil_any R E s n c N hn i hi _ (HN.out.up (balloc HB1.out _))).mono ?_; rintro e w2 ⟨rfl, hb2⟩
      rw [HNL.out]
      have HB2 := Lib.hid (bstep (balloc HB1.out _) hb2)
      clear hb2
      by_cases hz : nm = 0
      · rw [decide_eq_true hz]
        have hr : firstF (ndT R E N i) = none := by rw [ndT_2 HKK.out, HNM.out, hz]; rfl
        have HR := Lib.hid hr
        clear hr hz
        go_wp2
        go_ret
        exact ⟨HB2.out, .inl ⟨rfl, HR.out⟩⟩
      · rw [decide_eq_false hz]
        have hr : firstF (ndT R E N i) = some ((N i).op, (N i).at_, .root (R (rix (N i).num))) := by rw [ndT_2 HKK.out]; exact firstF_new R _ _ (by rw [HNM.out]; exact hz)
        have HR := Lib.hid hr
        clear hr hz
        go_wp2
        go_ret
        exact ⟨HB2.out, .inr ⟨i, rfl, Nat.le_refl _, rfl, .inl ⟨HKK.out, HR.out⟩⟩⟩
    · have h0 := kind_pos (N := N) (i := i) (by rw [HKK.out]; omega)
      obtain ⟨rfl, rfl⟩ := HAB.out h0
      go_wp2_with fail
      refine (nil_any R E s n c N hn i hi _ (HN.out.up (balloc HB1.out _))).mono ?_; rintro e w2 ⟨rfl, hb2⟩
      have HB2 := Lib.hid (bstep (balloc HB1.out _) hb2)
      clear hb2
      obtain ⟨z, hz⟩ : ∃ z, isN (ndT R E N i) = z := ⟨_, rfl⟩
      rw [hz]
      have HZ := Lib.hid hz
      clear hz
      cases z with
      | true =>
        have hr : firstF (ndT R E N i) = none := by
          have h := HZ.out
          rw [ndT_3 HKK.out] at h ⊢
          rw [isN_under] at h
          exact firstF_underN _ _ h
        have HR := Lib.hid hr
        clear hr
        go_wp2
        go_ret
        exact ⟨HB2.out, .inl ⟨rfl, HR.out⟩⟩
      | false =>
        have hr : firstF (ndT R E N i) = some ((N i).op, (N i).at_, ndT R E N (pa N i)) := by
          have h := HZ.out
          rw [ndT_3 HKK.out] at h ⊢
          rw [isN_under] at h
          exact firstF_under _ _ h
        have HR := Lib.hid hr
        clear hr
        go_wp2
        go_ret
        exact ⟨HB2.out, .inr ⟨i, rfl, Nat.le_refl _, rfl, .inr ⟨HKK.out, HR.out⟩⟩⟩
    · have hr : firstF (ndT R E N i) = firstF (ndT R E N (pa N i)) := by rw [ndT_4 HKK.out]; rfl
      have h0 := kind_pos (N := N) (i := i) (by rw [HKK.out]; omega)
      obtain ⟨rfl, rfl⟩ := HAB.out h0
      have hlt := (pa_lt (N := N) h0).2
      have HR := Lib.hid hr
      clear hr
      go_wp2_with fail
      refine (IH.out (pa N i) hlt (by omega) _ (HN.out.up (balloc HB1.out _))).mono ?_
      rintro e w2 ⟨hb2, h2⟩
      obtain ⟨v2, rfl⟩ : ∃ v2, e = .returned (.int .i64 v2) := by
        rcases h2 with ⟨h, _⟩ | ⟨m, h, _⟩
        · exact ⟨_, h⟩
        · exact ⟨_, h⟩
      have HB2 := Lib.hid (bstep (balloc HB1.out _) hb2)
      have H2 := Lib.hid h2
      clear hb2 h2
      go_wp2
      go_ret
      refine ⟨HB2.out, ?_⟩
      rcases H2.out with ⟨h, h3⟩ | ⟨m, h, hm, h3, h4⟩
      · exact .inl ⟨h, HR.out.trans h3⟩
      · exact .inr ⟨m, h, by omega, HR.out.trans h3, h4⟩
    · have hr : firstF (ndT R E N i) = none := by rw [ndT_5 HKK.out]; rfl
      have HR := Lib.hid hr
      clear hr
      go_wp2
      go_ret
      exact ⟨balloc HB1.out _, .inl ⟨rfl, HR.out⟩⟩
    · have hr : firstF (ndT R E N i) = (firstF (ndT R E N (pa N i))).or (firstF (ndT R E N (pb N i))) := by rw [ndT_6 HKK.out]; rfl
      have h0 := kind_pos (N := N) (i := i) (by rw [HKK.out]; omega)
      obtain ⟨rfl, rfl⟩ := HAB.out h0
      have hlt := (pa_lt (N := N) h0).2
      have hlt2 := (pb_lt (N := N) h0).2
      have HR := Lib.hid hr
      clear hr
      go_wp2_with fail
      refine (IH.out (pa N i) hlt (by omega) _ (HN.out.up (balloc HB1.out _))).mono ?_
      rintro e w2 ⟨hb2, h2⟩
      have c4 := cpF hb2 (show (w1.alloc (.cells #[.int .i64 6, .int .i64 nm, .int .i64 atx, .int .i64 (pa N i : Nat), .int .i64 (pb N i : Nat), .string opx] 88)).cell? ⟨w1.heap.size, 4, none⟩ = some (.int .i64 (pb N i : Nat)) by simp)
      have HB2 := Lib.hid (bstep (balloc HB1.out _) hb2)
      clear hb2
      rcases h2 with ⟨rfl, h3⟩ | ⟨m, rfl, hm, h3, h4⟩
      · have hr2 : firstF (ndT R E N i) = firstF (ndT R E N (pb N i)) := by rw [HR.out, h3]; rfl
        have HR2 := Lib.hid hr2
        clear hr2 h3
        go_wp2_with fail
        refine (IH.out (pb N i) hlt2 (by omega) _ (HN.out.up HB2.out)).mono ?_
        rintro e w3 ⟨hb3, h5⟩
        obtain ⟨v3, rfl⟩ : ∃ v3, e = .returned (.int .i64 v3) := by
          rcases h5 with ⟨h, _⟩ | ⟨m, h, _⟩
          · exact ⟨_, h⟩
          · exact ⟨_, h⟩
        have HB3 := Lib.hid (bstep HB2.out hb3)
        have H5 := Lib.hid h5
        clear hb3 h5
        go_wp2
        go_ret
        refine ⟨HB3.out, ?_⟩
        rcases H5.out with ⟨h, h3⟩ | ⟨m, h, hm, h3, h4⟩
        · exact .inl ⟨h, HR2.out.trans h3⟩
        · exact .inr ⟨m, h, by omega, HR2.out.trans h3, h4⟩
      · have hr2 : firstF (ndT R E N i) = firstF (ndT R E N m) := by
          rw [HR.out, h3]
          rcases h4 with ⟨_, h⟩ | ⟨_, h⟩
          · rw [h]; rfl
          · rw [h]; rfl
        have HR2 := Lib.hid (And.intro hr2 h4)
        clear hr2 h3 h4
        have m0 : (0 : Int) ≤ (m : Int) := by omega
        go_wp2
        go_ret
        exact ⟨HB2.out, .inr ⟨m, rfl, by omega, HR2.out.1, HR2.out.2⟩⟩
set_option maxHeartbeats 8000000 in
theorem refCode_any (R E : Nat → Addr) (s : Option Addr) (n c i : Nat) (N : Nat → Nd) (hn : n ≤ 12) (hi : i < n) (w : World) (hS : Sent w R) (hE : Fresh R E N n) (h : NdR w s n N) :
    Calls Tryd.prog 20 #[.slice s n c, .int .i64 (i : Nat)] w fun e w' => e = .returned (.int .i64 (codeF R (ndT R E N i) : Nat)) ∧ Below w.heap.size w w' := by
  have HF := Lib.hid fun q h1 h2 w' (hb : Below w.heap.size w w') => finds_any R E s n c N hn w hS hE q h1 h2 i hi w' (h.up hb)
  have HNL := Lib.hid (nil_any R E s n c N hn i hi w h)
  clear hS hE h
  generalize ndT R E N i = T at *
  go_enter Tryd.func20, Tryd.ntmps20
  go_wp2_with fail
  refine HNL.out.mono ?_; rintro e w1 ⟨rfl, hb1⟩
  have HB1 := Lib.hid hb1
  clear hb1 HNL
  obtain ⟨z, hz⟩ : ∃ z, isN T = z := ⟨_, rfl⟩
  rw [hz]
  cases z with
  | true =>
    have ht : T = .none := by cases T <;> first | rfl | (simp [isN] at hz)
    have HT := Lib.hid ht
    clear ht hz
    go_wp2
    go_ret
    exact ⟨by rw [HT.out]; rfl, HB1.out⟩
  | false =>
    have hne : T ≠ .none := fun e => by rw [e] at hz; simp [isN] at hz
    have hcd := codeF_some R hne
    have HCD := Lib.hid hcd
    clear hne hcd hz
    go_wp2_with fail
    go_loopw [5] (fun nv wr => ∃ k : Nat, k ≤ 11 ∧ nv = .int .i64 (k + 1 : Nat) ∧ codeF R T = codeG (fun n => finds (R (rix (n : Int))) T) (11 - k) (k + 1) ∧ Below w.heap.size w wr) (fun nv _ => 12 - (intOf nv).toNat)
    case atStart => exact ⟨0, by omega, rfl, HCD.out, HB1.out⟩
    case round =>
      clear HCD HB1
      obtain ⟨k, hk, rfl, hcd, hb⟩ := hrel
      have HCD := Lib.hid hcd
      have HB := Lib.hid hb
      clear hcd hb
      obtain ⟨q, hq⟩ : ∃ q, k + 1 = q := ⟨_, rfl⟩
      rw [hq]
      have hq0 : 1 ≤ q := by omega
      have hk1 : k = q - 1 := by omega
      subst hk1
      clear hq
      by_cases hin : q ≤ 11
      · have i1 : (q : Int) ≤ 11 := by omega
        go_wp2_with fail
        refine (HF.out q hq0 hin _ HB.out).mono ?_; rintro e w2 ⟨rfl, hb2⟩
        have HB2 := Lib.hid (HB.out.trans (hb2.mono HB.out.size))
        clear hb2
        have hcn : codeF R T = if finds (R (rix (q : Int))) T = true then q else codeG (fun n => finds (R (rix (n : Int))) T) (11 - q) (q + 1) := by
          have := HCD.out
          rw [show 11 - (q - 1) = 11 - q + 1 from by omega, show q - 1 + 1 = q from by omega] at this
          exact this
        obtain ⟨b, hb⟩ : ∃ b, finds (R (rix (q : Int))) T = b := ⟨_, rfl⟩
        rw [hb] at hcn ⊢
        have HCN := Lib.hid hcn
        clear hcn hb
        have iw : IntKind.i64.wrap ((q : Int) + 1) = ((q + 1 : Nat) : Int) := by rw [IntWalk.i64_in _ (by omega)]; rfl
        cases b with
        | true =>
          go_wp2
          go_ret
          exact ⟨by rw [HCN.out]; rfl, HB2.out⟩
        | false =>
          go_wp2
          go_roundw
          case rel => exact ⟨q, hin, rfl, HCN.out, HB2.out⟩
          case measure => simp [intOf]; omega
      · have i1 : ¬ (q : Int) ≤ 11 := by omega
        have hz : codeF R T = 99 := by
          rw [HCD.out, show 11 - (q - 1) = 0 from by omega]; rfl
        have HZ := Lib.hid hz
        clear hz
        go_wp2
        go_ret
        exact ⟨by rw [HZ.out]; rfl, HB.out⟩
end Go.Proofs.YtckipboebllkhaaDoor
