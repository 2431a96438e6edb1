/- The contracts of patch.Parse (both ways), patch.Text refused, edenlaw21.awake. -/
import Derived.Test.YtnlpobkmjhajcaaDoorPatF
import Derived.Test.YtnlpobkmjhajcaaDoorPatH
namespace Go.Proofs.YtnlpobkmjhajcaaDoor
open Go.RowKit
set_option linter.unusedVariables false
set_option maxRecDepth 100000

theorem parse_ok (s : ByteArray) (W : World) (R : Nat → Addr) (hS : Sent W R) (m : Int) (hm : W.cell? ⟨13, 0, none⟩ = some (.int .i64 m)) (hp : parErrP s = none) :
    Calls Tryd.prog 19 #[.string s] W (ParOk W s) := by
  refine parse_q s W R hS m hm _ (fun x e w' h _ => ?_) (fun e w' _ h => h)
  rw [hp] at h
  cases h
theorem parse_er (s : ByteArray) (W : World) (R : Nat → Addr) (hS : Sent W R) (m : Int) (hm : W.cell? ⟨13, 0, none⟩ = some (.int .i64 m)) (x : Int × Int) (hp : parErrP s = some x) :
    Calls Tryd.prog 19 #[.string s] W (PatErr R (some ([(opPatch, x.1)], x.2)) W) := by
  refine parse_q s W R hS m hm _ (fun y e w' h h2 => ?_) (fun e w' h _ => ?_)
  · rw [hp] at h
    obtain rfl := Option.some.inj h
    exact h2
  · rw [hp] at h
    cases h
def awkS : ByteArray := ⟨#[46, 35, 46, 47, 46, 46, 35]⟩
theorem awk_none : parErrP awkS = none := by kernel_rfl
theorem awk_wid : wid awkS = 3 := by kernel_rfl
theorem awk_len : (lnsB awkS).length = 2 := by kernel_rfl
theorem awk_cells : parCells awkS = [0, 1, 0, 0, 0, 1] := by kernel_rfl
theorem awk_parse (W : World) (R : Nat → Addr) (hS : Sent W R) (m : Int) (hm : W.cell? ⟨13, 0, none⟩ = some (.int .i64 m)) :
    Calls Tryd.prog 19 #[.string ⟨#[46, 35, 46, 47, 46, 46, 35]⟩] W fun e w' => ∃ a c', e = .returned (.tuple #[patV 3 2 a 6 c', .nilIface]) ∧ OwI w' W.heap.size a 6 c' [0, 1, 0, 0, 0, 1] ∧ Below W.heap.size W w' := by
  refine (parse_ok awkS W R hS m hm awk_none).mono ?_
  rintro e w' ⟨a, c', rfl, ho, hb⟩
  rw [awk_wid, awk_len, awk_cells] at *
  exact ⟨a, c', rfl, ho, hb⟩
theorem awk_is : IsPatch 3 2 [0, 1, 0, 0, 0, 1] := ⟨by decide, by decide, by decide, by decide, rfl, by decide⟩
theorem awk_turn : turnL 3 2 [0, 1, 0, 0, 0, 1] 1 = [0, 0, 0, 1, 1, 0] := by decide
theorem awk_is2 : IsPatch 2 3 [0, 0, 0, 1, 1, 0] := ⟨by decide, by decide, by decide, by decide, rfl, by decide⟩
theorem awk_text : textP 2 3 [0, 0, 0, 1, 1, 0] = [46, 46, 47, 46, 35, 47, 35, 46] := by decide
theorem IsPatch.i64 {w h : Nat} {l : List Int} (hp : IsPatch w h l) : I64 l := fun x hx => by have := hp.sym x hx; omega
set_option maxHeartbeats 4000000 in
theorem awake21 (W : World) (R : Nat → Addr) (hS : Sent W R) (m : Int) (hm : W.cell? ⟨13, 0, none⟩ = some (.int .i64 m)) :
    Calls Tryd.prog 9 #[] W fun e w' => e = .returned (.bool true) ∧ Below W.heap.size W w' := by
  have HS := Lib.hid hS
  have HM := Lib.hid hm
  clear hS hm
  go_enter Tryd.func9, Tryd.ntmps9
  go_wp2_with fail
  refine (awk_parse W R HS.out m HM.out).mono ?_; rintro e w1 ⟨a1, c1, rfl, ho1, hb1⟩
  obtain ⟨w2, hw2⟩ : ∃ w2, w1.alloc (.cells #[.int .i64 3, .int .i64 2, .slice a1 6 c1] 24) = w2 := ⟨_, rfl⟩
  have HP2 : Hid (w2.cell? ⟨w1.heap.size, 0, none⟩ = some (.int .i64 3) ∧ w2.cell? ⟨w1.heap.size, 1, none⟩ = some (.int .i64 2)) := by rw [← hw2]; exact ⟨cnw rfl rfl, cnw rfl rfl⟩
  have HB2 : Hid (Below W.heap.size W w2) := by rw [← hw2]; exact balloc hb1 _
  have HR2 : Hid (RK .i64 w2 a1 6 [0, 1, 0, 0, 0, 1]) := by rw [← hw2]; exact ho1.rk.al _
  have HW2 := Lib.hid hw2
  clear hw2 ho1 hb1
  go_wp2_with fail
  rw [HW2.out]
  refine (turn_okP 3 2 1 a1 6 c1 _ w2 R (HS.out.up HB2.out) HR2.out (by decide) awk_is.i64 awk_is 1 (by decide)).mono ?_; rintro e w3 ⟨g3, c3, rfl, ho3, hb3⟩
  rw [show turnW 3 2 1 = 2 from rfl, show turnW 2 3 1 = 3 from rfl, show turnL 3 2 [0, 1, 0, 0, 0, 1] 1 = [0, 0, 0, 1, 1, 0] from awk_turn] at ho3
  rw [show turnW 3 2 1 = 2 from rfl, show turnW 2 3 1 = 3 from rfl]
  obtain ⟨w4, hw4⟩ : ∃ w4, w3.alloc (.cells #[.int .i64 2, .int .i64 3, .slice (some ⟨g3, 0, none⟩) 6 c3] 24) = w4 := ⟨_, rfl⟩
  have HB4 : Hid (Below w2.heap.size w2 w4) := by rw [← hw4]; exact balloc hb3 _
  have HR4 : Hid (RK .i64 w4 (some ⟨g3, 0, none⟩) 6 [0, 0, 0, 1, 1, 0]) := by rw [← hw4]; exact ho3.rk.al _
  have HW4 := Lib.hid hw4
  have HB24 := Lib.hid (HB2.out.trans (HB4.out.mono HB2.out.size))
  clear hw4 ho3 hb3
  go_wp2_with fail
  rw [HW4.out]
  refine (text_ok 2 3 (some ⟨g3, 0, none⟩) 6 c3 _ w4 R (HS.out.up HB24.out) HR4.out (by decide) awk_is2.i64 awk_is2).mono ?_; rintro e w5 ⟨rfl, hb5⟩
  rw [awk_text]
  have x0 := cpa (bstep HB4.out hb5) HP2.out.1
  have x1 := cpa (bstep HB4.out hb5) HP2.out.2
  have HB5 := Lib.hid hb5
  clear hb5
  go_wp2
  go_ret
  exact ⟨rfl, HB24.out.trans (HB5.out.mono HB24.out.size)⟩
end Go.Proofs.YtnlpobkmjhajcaaDoor
