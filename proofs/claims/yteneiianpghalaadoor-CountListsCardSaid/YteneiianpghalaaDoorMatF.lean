/- The contracts of fault.Under and of mat.Mul where it refuses. -/
import Derived.Test.YteneiianpghalaaDoorMatE
namespace Go.Proofs.YteneiianpghalaaDoor
open Go.RowKit
set_option linter.unusedVariables false
set_option maxRecDepth 100000

theorem under_err (op : ByteArray) (at_ : Int) (t : TypeId) (p : Value) (w : World) :
    Calls Tryd.prog 89 #[.string op, .int .i64 at_, .iface t p] w fun e w' =>
      e = .returned (.iface 120 (.pointer (some ⟨w.heap.size, 0, none⟩))) ∧ w' = w.alloc (faultObj op at_ (.iface t p)) := by
  go_enter Tryd.func89, Tryd.ntmps89
  go_wp2
  go_ret
  exact ⟨rfl, rfl⟩

/-- nothing but an error is answered -/
def ErrPair (W : World) (e : Ending) (w' : World) : Prop := ∃ g, e = .returned (.tuple #[.slice none 0 0, .iface 120 (.pointer (some ⟨g, 0, none⟩))]) ∧ Below W.heap.size W w'
theorem mmul_err (aa ab : Option Addr) (na nb ca cb : Nat) (ga gb : Nat → Nat) (A B : Nat → Nat → List Nat) (W : World) (R : Nat → Addr) (hG : Glob W R) (hA : MsR W aa na ga A) (hB : MsR W ab nb gb B) (hma : na ≤ maxLen) (hmb : nb ≤ maxLen) (hbad : ¬ (Square na ga ∧ Square nb gb ∧ na = nb)) :
    Calls Tryd.prog 39 #[.slice aa na ca, .slice ab nb cb] W (ErrPair W) := by
  have HG := Lib.hid hG; clear hG
  have HA := Lib.hid hA; clear hA
  have HB := Lib.hid hB; clear hB
  have HBAD := Lib.hid hbad; clear hbad
  rcases matBad_or na ga with hs | ⟨x, hx⟩
  · have HS := Lib.hid hs; clear hs
    rcases matBad_or nb gb with hs2 | ⟨x, hx⟩
    · have hne : na ≠ nb := fun e => HBAD.out ⟨HS.out, hs2, e⟩
      have hneb : ((na : Int) != (nb : Int)) = true := by simp; omega
      have HS2 := Lib.hid hs2; clear hs2 hne
      go_enter Tryd.func39, Tryd.ntmps39
      go_wp2_with fail
      refine (mcheck_ok aa na ca ga A _ HA.out HS.out).mono ?_; rintro e w' ⟨rfl, rfl⟩
      go_wp2_with fail
      refine (mcheck_ok ab nb cb gb B _ HB.out HS2.out).mono ?_; rintro e w' ⟨rfl, rfl⟩
      go_wp2_with fail
      refine (mat_wrong _ _ _ R HG.out rfl).mono ?_; rintro e w' ⟨rfl, rfl⟩
      go_wp2
      go_ret2
      exact ⟨_, rfl, balloc (bnil W) _⟩
    · have HX := Lib.hid hx; clear hx
      go_enter Tryd.func39, Tryd.ntmps39
      go_wp2_with fail
      refine (mcheck_ok aa na ca ga A _ HA.out HS.out).mono ?_; rintro e w' ⟨rfl, rfl⟩
      go_wp2_with fail
      refine (mcheck_err ab nb cb gb B _ R HG.out HB.out hmb x HX.out).mono ?_; rintro e w2 ⟨g, rfl, he, hb⟩
      clear he
      go_wp2_with fail
      refine (under_err _ _ _ _ _).mono ?_; rintro e w' ⟨rfl, rfl⟩
      go_wp2
      go_ret2
      exact ⟨_, rfl, balloc hb _⟩
  · have HX := Lib.hid hx; clear hx
    go_enter Tryd.func39, Tryd.ntmps39
    go_wp2_with fail
    refine (mcheck_err aa na ca ga A _ R HG.out HA.out hma x HX.out).mono ?_; rintro e w2 ⟨g, rfl, he, hb⟩
    clear he
    go_wp2
    go_ret2
    exact ⟨_, rfl, hb⟩
theorem vM_limbs (X : Mat) : vM (fun i j => limbs (X i j)) = X := by funext i j; exact val_limbs _
theorem cmpN_same (x : Nat) : cmpN x x = 0 := by unfold cmpN; simp
theorem bdM_of {w : World} {a : Option Addr} {n L : Nat} {M : Nat → Nat → List Nat} (hM : MsR w a n (fun _ => n) M) (hL : ∀ i j, i < n → j < n → (M i j).length ≤ L) : BdM n L (vM M) := fun i j hi hj => Nat.lt_of_lt_of_le (val_lt (hM.u32 i j hi hj)) (Nat.pow_le_pow_right (by decide) (hL i j hi hj))
theorem limbs_bd' {n L L' : Nat} {m : Mat} (h : BdM n L m) (hL : L ≤ L') : ∀ i j, i < n → j < n → (limbs (m i j)).length ≤ L' := fun i j hi hj => Nat.le_trans (limbs_bd h i j hi hj) hL
end Go.Proofs.YteneiianpghalaaDoor
