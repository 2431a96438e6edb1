/- edenlaw06.awake. -/
import Derived.Test.YtjgblanpaanglaaDoorRngO
import Derived.Test.YtjgblanpaanglaaDoorRngT
namespace Go.Proofs.YtjgblanpaanglaaDoor
open Go.RowKit
set_option linter.unusedVariables false
set_option maxRecDepth 100000

def tb06 : List Int := [0, 1, 0, 1, 1, 0, 1, 0]
theorem rule06 : IsRule 2 1 tb06 := ⟨by decide, by decide, by decide, by decide, by decide⟩
theorem ring5 : IsRing 2 [0, 0, 1, 0, 0] := ⟨by decide, by decide, by decide⟩
theorem ring4 : IsRing 2 [0, 0, 1, 0] := ⟨by decide, by decide, by decide⟩
theorem step06 : ringL 2 1 tb06 [0, 0, 1, 0, 0] = [0, 1, 0, 1, 0] := by decide +kernel
theorem it0 : itR 2 1 tb06 0 [0, 0, 1, 0] = [0, 0, 1, 0] := rfl
theorem it1 : itR 2 1 tb06 1 [0, 0, 1, 0] = [0, 1, 0, 1] := by decide +kernel
theorem it2 : itR 2 1 tb06 2 [0, 0, 1, 0] = [0, 0, 0, 0] := by decide +kernel
theorem it3 : itR 2 1 tb06 3 [0, 0, 1, 0] = [0, 0, 0, 0] := by decide +kernel
/-- the one orbit -/
theorem orb06 {m p : Nat} (h1 : 1 ≤ p) (he : itR 2 1 tb06 (m + p) [0, 0, 1, 0] = itR 2 1 tb06 m [0, 0, 1, 0]) (hd : ∀ i j, i < j → j < m + p → itR 2 1 tb06 i [0, 0, 1, 0] ≠ itR 2 1 tb06 j [0, 0, 1, 0]) : m = 2 ∧ p = 1 := by
  have h3 : m + p ≤ 3 := by
    rcases Nat.lt_or_ge 3 (m + p) with h | h
    · exact absurd (by rw [it2, it3]) (hd 2 3 (by omega) h)
    · exact h
  have hm : m = 0 ∨ m = 1 ∨ m = 2 := by omega
  have hp : p = 1 ∨ p = 2 ∨ p = 3 := by omega
  rcases hm with rfl | rfl | rfl <;> rcases hp with rfl | rfl | rfl
  · rw [it1, it0] at he; exact absurd he (by decide)
  · rw [it2, it0] at he; exact absurd he (by decide)
  · rw [it3, it0] at he; exact absurd he (by decide)
  · rw [it2, it1] at he; exact absurd he (by decide)
  · rw [it3, it1] at he; exact absurd he (by decide)
  · omega
  · exact ⟨rfl, rfl⟩
  · omega
  · omega
set_option maxHeartbeats 8000000 in
theorem awake06_any (W : World) (R : Nat → Addr) (hG : Glob W R) : Calls Tryd.prog 9 #[] W fun e w' => e = .returned (.bool true) ∧ Below W.heap.size W w' := by
  have HG := Lib.hid hG
  clear hG
  have T0 := Tk.nil W
  have T1 := T0.add (fun wv => Below W.heap.size W wv) (bnil W)
  clear T0
  obtain ⟨Wb, hWb⟩ : ∃ Wb, ((W.alloc (.cells #[.int .i64 0, .int .i64 1, .int .i64 0, .int .i64 1, .int .i64 1, .int .i64 0, .int .i64 1, .int .i64 0] 3)).alloc (.cells #[.int .i64 2, .int .i64 1, .slice (some ⟨W.heap.size, 0, none⟩) 8 8] 24)).alloc (.cells #[.int .i64 0, .int .i64 0, .int .i64 1, .int .i64 0, .int .i64 0] 3) = Wb := ⟨_, rfl⟩
  have hbWb : Below W.heap.size W Wb := by rw [← hWb]; exact balloc (balloc (balloc (bnil W) _) _) _
  have T2 := T1.up hbWb
  clear T1
  have T3 := T2.add (fun wv => wv.cell? ⟨W.heap.size + 1, 0, none⟩ = some (.int .i64 2) ∧ wv.cell? ⟨W.heap.size + 1, 1, none⟩ = some (.int .i64 1) ∧ wv.cell? ⟨W.heap.size + 1, 2, none⟩ = some (.slice (some ⟨W.heap.size, 0, none⟩) 8 8)) (by rw [← hWb]; exact ⟨al000 (cnw (by simp) rfl), al000 (cnw (by simp) rfl), al000 (cnw (by simp) rfl)⟩)
  clear T2
  have HWb := Lib.hid hWb
  clear hWb hbWb
  have hrt : RK .i64 Wb (some ⟨W.heap.size, 0, none⟩) 8 tb06 := by rw [← HWb.out]; exact ((rk_new (l := tb06) rfl rfl rfl).al _).al _
  have hrw : RK .i64 Wb (some ⟨W.heap.size + 1 + 1, 0, none⟩) 5 [0, 0, 1, 0, 0] := by rw [← HWb.out]; exact rk_new (l := [0, 0, 1, 0, 0]) (by simp) rfl rfl
  have T4 := T3.add (fun wv => RK .i64 wv (some ⟨W.heap.size, 0, none⟩) 8 tb06) (hrt)
  clear T3
  have T5 := T4.add (fun wv => RK .i64 wv (some ⟨W.heap.size + 1 + 1, 0, none⟩) 5 [0, 0, 1, 0, 0]) (hrw)
  clear T4
  clear hrt hrw
  go_enter Tryd.func9, Tryd.ntmps9
  have v_p0 : (((W.alloc (.cells #[.int .i64 0, .int .i64 1, .int .i64 0, .int .i64 1, .int .i64 1, .int .i64 0, .int .i64 1, .int .i64 0] 3)).alloc (.cells #[.int .i64 2, .int .i64 1, .slice (some ⟨W.heap.size, 0, none⟩) 8 8] 24)).alloc (.cells #[.int .i64 0, .int .i64 0, .int .i64 1, .int .i64 0, .int .i64 0] 3)).cell? ⟨W.heap.size + 1, 0, none⟩ = some (.int .i64 2) := by rw [HWb.out]; exact T5.out.1.1.2.1
  have v_p1 : (((W.alloc (.cells #[.int .i64 0, .int .i64 1, .int .i64 0, .int .i64 1, .int .i64 1, .int .i64 0, .int .i64 1, .int .i64 0] 3)).alloc (.cells #[.int .i64 2, .int .i64 1, .slice (some ⟨W.heap.size, 0, none⟩) 8 8] 24)).alloc (.cells #[.int .i64 0, .int .i64 0, .int .i64 1, .int .i64 0, .int .i64 0] 3)).cell? ⟨W.heap.size + 1, 1, none⟩ = some (.int .i64 1) := by rw [HWb.out]; exact T5.out.1.1.2.2.1
  have v_p2 : (((W.alloc (.cells #[.int .i64 0, .int .i64 1, .int .i64 0, .int .i64 1, .int .i64 1, .int .i64 0, .int .i64 1, .int .i64 0] 3)).alloc (.cells #[.int .i64 2, .int .i64 1, .slice (some ⟨W.heap.size, 0, none⟩) 8 8] 24)).alloc (.cells #[.int .i64 0, .int .i64 0, .int .i64 1, .int .i64 0, .int .i64 0] 3)).cell? ⟨W.heap.size + 1, 2, none⟩ = some (.slice (some ⟨W.heap.size, 0, none⟩) 8 8) := by rw [HWb.out]; exact T5.out.1.1.2.2.2
  go_wp2_with fail
  rw [HWb.out]
  refine (ringstep_ok 2 1 (some ⟨W.heap.size, 0, none⟩) 8 8 tb06 (some ⟨W.heap.size + 1 + 1, 0, none⟩) 5 5 [0, 0, 1, 0, 0] Wb T5.out.1.2 T5.out.2 rule06 ring5).mono ?_; rintro e w2 ⟨a2, c2, rfl, ho2, hbw2⟩
  clear v_p0 v_p1 v_p2
  have T6 := T5.up hbw2
  clear T5
  rw [step06] at ho2
  have T7 := T6.add (fun wv => RK .i64 wv a2 5 [0, 1, 0, 1, 0]) (ho2.rk)
  clear T6
  clear ho2
  have v_p0 : w2.cell? ⟨W.heap.size + 1, 0, none⟩ = some (.int .i64 2) := T7.out.1.1.1.2.1
  have v_p1 : w2.cell? ⟨W.heap.size + 1, 1, none⟩ = some (.int .i64 1) := T7.out.1.1.1.2.2.1
  have v_p2 : w2.cell? ⟨W.heap.size + 1, 2, none⟩ = some (.slice (some ⟨W.heap.size, 0, none⟩) 8 8) := T7.out.1.1.1.2.2.2
  obtain ⟨w3, hw3⟩ : ∃ w3, w2.alloc (.cells #[.int .i64 0, .int .i64 0, .int .i64 1, .int .i64 0] 3) = w3 := ⟨_, rfl⟩
  have hbw3 : Below w2.heap.size w2 w3 := by rw [← hw3]; exact balloc (bnil w2) _
  have T8 := T7.up hbw3
  clear T7
  have Hw3 := Lib.hid hw3
  clear hw3 hbw3
  have hrw : RK .i64 w3 (some ⟨w2.heap.size, 0, none⟩) 4 [0, 0, 1, 0] := by rw [← Hw3.out]; exact rk_new (l := [0, 0, 1, 0]) rfl rfl rfl
  have T9 := T8.add (fun wv => RK .i64 wv (some ⟨w2.heap.size, 0, none⟩) 4 [0, 0, 1, 0]) (hrw)
  clear T8
  clear hrw
  go_wp2_with fail
  rw [Hw3.out]
  refine (orbit_any 2 1 (some ⟨W.heap.size, 0, none⟩) 8 8 tb06 (some ⟨w2.heap.size, 0, none⟩) 4 4 [0, 0, 1, 0] w3 R (HG.out.up T9.out.1.1.1.1.1.2) T9.out.1.1.1.2 T9.out.2 rule06 ring4 (by omega)).mono ?_; rintro e w4 ⟨hbw4, hor⟩
  clear v_p0 v_p1 v_p2
  have T10 := T9.up hbw4
  clear T9
  obtain ⟨m, p, hp1, _, heq, hds, rfl⟩ : ∃ m p : Nat, 1 ≤ p ∧ m + p ≤ 4096 ∧ itR 2 1 tb06 (m + p) [0, 0, 1, 0] = itR 2 1 tb06 m [0, 0, 1, 0] ∧ (∀ i j, i < j → j < m + p → itR 2 1 tb06 i [0, 0, 1, 0] ≠ itR 2 1 tb06 j [0, 0, 1, 0]) ∧ e = .returned (.tuple #[.int .i64 m, .int .i64 p, .nilIface]) := by
    rcases hor with h | ⟨h, _⟩
    · exact h
    · exact absurd (by rw [it2, it3]) (h 2 3 (by omega) (by omega))
  obtain ⟨rfl, rfl⟩ := orb06 hp1 heq hds
  clear hp1 heq hds hor
  obtain ⟨w5, hw5⟩ : ∃ w5, w4.alloc (.cells #[.int .i64 0, .int .i64 1, .int .i64 0, .int .i64 1, .int .i64 0] 3) = w5 := ⟨_, rfl⟩
  have hbw5 : Below w4.heap.size w4 w5 := by rw [← hw5]; exact balloc (bnil w4) _
  have T11 := T10.up hbw5
  clear T10
  have Hw5 := Lib.hid hw5
  clear hw5 hbw5
  have hrw : RK .i64 w5 (some ⟨w4.heap.size, 0, none⟩) 5 [0, 1, 0, 1, 0] := by rw [← Hw5.out]; exact rk_new (l := [0, 1, 0, 1, 0]) rfl rfl rfl
  have T12 := T11.add (fun wv => RK .i64 wv (some ⟨w4.heap.size, 0, none⟩) 5 [0, 1, 0, 1, 0]) (hrw)
  clear T11
  clear hrw
  go_wp2_with fail
  rw [Hw5.out]
  refine (ints_eqB a2 (some ⟨w4.heap.size, 0, none⟩) 5 5 c2 5 [0, 1, 0, 1, 0] w5 T12.out.1.1.2 T12.out.2 (by decide)).mono ?_; rintro e w6 ⟨rfl, hbw6⟩
  have T13 := T12.up hbw6
  clear T12
  go_wp2
  go_ret
  exact ⟨rfl, T13.out.1.1.1.1.1.1.2⟩
end Go.Proofs.YtjgblanpaanglaaDoor
