/- The contract of edenraw.Patches; an argument of the type api.Patch, opened. -/
import Derived.Test.YtocfkmdoalhjmaaDoorPatC
import Derived.Test.YtocfkmdoalhjmaaDoorOpenInts
import Derived.Lib.SmallJoins
namespace Go.Proofs.YtocfkmdoalhjmaaDoor
open Go.RowKit Go.ChangeShapes Go.WideShapes Go.Deep
set_option linter.unusedVariables false
set_option maxRecDepth 100000

set_option maxHeartbeats 2000000 in
theorem patches_eq (w h : Int) (a1 a2 : Option Addr) (n1 n2 c1 c2 : Nat) (l : List Int) (W : World) (hR1 : RK .i64 W a1 n1 l) (hR2 : RK .i64 W a2 n2 l) (hm : l.length ≤ maxLen) :
    Calls Tryd.prog 23 #[patV w h a1 n1 c1, patV w h a2 n2 c2] W fun e w' => e = .returned (.bool true) ∧ Below W.heap.size W w' := by
  obtain ⟨Wb, hWb⟩ : ∃ Wb, (W.alloc (.cells #[.int .i64 w, .int .i64 h, .slice a1 n1 c1] 24)).alloc (.cells #[.int .i64 w, .int .i64 h, .slice a2 n2 c2] 24) = Wb := ⟨_, rfl⟩
  have HX : Hid (Wb.cell? ⟨W.heap.size, 0, none⟩ = some (.int .i64 w) ∧ Wb.cell? ⟨W.heap.size, 1, none⟩ = some (.int .i64 h) ∧ Wb.cell? ⟨W.heap.size, 2, none⟩ = some (.slice a1 n1 c1) ∧ Wb.cell? ⟨W.heap.size + 1, 0, none⟩ = some (.int .i64 w) ∧ Wb.cell? ⟨W.heap.size + 1, 1, none⟩ = some (.int .i64 h) ∧ Wb.cell? ⟨W.heap.size + 1, 2, none⟩ = some (.slice a2 n2 c2)) := by
    rw [← hWb]; exact ⟨al000 (cnw rfl rfl), al000 (cnw rfl rfl), al000 (cnw rfl rfl), cnw (by simp) rfl, cnw (by simp) rfl, cnw (by simp) rfl⟩
  have HBX : Hid (Below W.heap.size W Wb) := by rw [← hWb]; exact balloc (balloc (bnil W) _) _
  have HR1 := Lib.hid (hR1.up HBX.out)
  have HR2 := Lib.hid (hR2.up HBX.out)
  clear hR1 hR2
  obtain ⟨x0, x1, x2, z0, z1, z2⟩ := HX.out
  have HWB := Lib.hid hWb; clear hWb
  go_enter Tryd.func23, Tryd.ntmps23
  go_wp2_with fail
  rw [HWB.out]
  go_wp2_with (first
    | (go_at_call 20; refine (ints_eqB a1 a2 n1 n2 c1 c2 _ _ HR1.out HR2.out hm).mono ?_; rintro e w' ⟨rfl, hb⟩))
  go_ret
  exact ⟨rfl, HBX.out.trans (hb.mono HBX.out.size)⟩

theorem patch_under : Tryd.prog.underlying 24 = some (.struct #[⟨ "W", 3, 0, false, "", "", 0⟩, ⟨ "H", 3, 1, false, "", "", 8⟩, ⟨ "Cells", 22, 2, false, "", "", 16⟩]) := by kernel_rfl
theorem open_patch {H : Type} {enc : TypeId × Value → H} {w : World} {base : Nat} {spare : Nat → Bool} {held : Bool} {r : Reach} {b0 : Nat} {v : Value} {d : DataW H} {p : List MemPlace}
    (hv : Value.okWide Tryd.prog w r b0 24 v) (h : DataW.Trod enc Tryd.prog w base spare held 24 v d p) :
    ∃ (k r : Int) (a : Option Addr) (n c : Nat) (l : List Int), v = patV k r a n c ∧ RK .i64 w a n l ∧ n ≤ c ∧ c ≤ maxLen ∧ I64 l := by
  obtain ⟨v0, v1, v2, y0, y1, y2, m, rfl, _, _, g0, g1, g2⟩ := Joins.open_agg3 patch_under (by kernel_rfl) (by kernel_rfl) hv h
  obtain ⟨n0, r0, _, _⟩ := DataW.trod_int Tryd.underlying3 (show DataW.trod enc Tryd.prog w base spare held m 3 [v0] = some y0 from g0)
  obtain ⟨n1, r1, _, _⟩ := DataW.trod_int Tryd.underlying3 (show DataW.trod enc Tryd.prog w base spare held m 3 [v1] = some y1 from g1)
  cases r0; cases r1
  have g3 : DataW.trod enc Tryd.prog w base spare held m 22 [v2] = some y2 := g2
  have key : ∃ a n c, v2 = .slice a n c := by
    rcases open_slice Tryd.underlying22 g3 with ⟨h0, _⟩ | ⟨ad, len, cap, _, _, _, _, h0, _⟩
    · cases h0; exact ⟨_, _, _, rfl⟩
    · cases h0; exact ⟨_, _, _, rfl⟩
  obtain ⟨a, n, c, rfl⟩ := key
  obtain ⟨l, e1, e2, e3, e4, e5⟩ := open_intsl g3
  exact ⟨n0, n1, a, n, c, l, rfl, ⟨e1.symm, e4⟩, e3, e2, e5⟩
end Go.Proofs.YtocfkmdoalhjmaaDoor
