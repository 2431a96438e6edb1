/- Package mat: what each function answers, refused or not. -/
import Derived.Test.YteneiianpghalaaDoorR16D
import Derived.Test.YteneiianpghalaaDoorMatF
namespace Go.Proofs.YteneiianpghalaaDoor
open Go.RowKit
set_option linter.unusedVariables false
set_option maxRecDepth 100000

def ProMs (R : Nat → Addr) (W : World) (m : Nat) (F : Nat → Nat → List Nat) (f : ErrD) (e : Ending) (w' : World) : Prop :=
  ∃ a' c' ev, e = .returned (.tuple #[.slice a' m c', ev]) ∧ MsR w' a' m (fun _ => m) F ∧ EC R w' ev f ∧ Below W.heap.size W w'
def ProN (R : Nat → Addr) (W : World) (l : List Nat) (f : ErrD) (e : Ending) (w' : World) : Prop :=
  ∃ a' n' c' ev, e = .returned (.tuple #[.slice a' n' c', ev]) ∧ NR w' a' n' l ∧ n' ≤ l.length ∧ EC R w' ev f ∧ Below W.heap.size W w'
def ProNs (R : Nat → Addr) (W : World) (m : Nat) (F : Nat → List Nat) (f : ErrD) (e : Ending) (w' : World) : Prop :=
  ∃ a' c' ev, e = .returned (.tuple #[.slice a' m c', ev]) ∧ (∃ its, OwNs w' W.heap.size (.slice a' m c') m its F) ∧ EC R w' ev f ∧ Below W.heap.size W w'
theorem pcheck (a : Option Addr) (n c : Nat) (len : Nat → Nat) (F : Nat → Nat → List Nat) (W : World) (R : Nat → Addr) (hS : Sent W R) (hG : Glob W R) (hM : MsR W a n len F) (hm : n ≤ 96) (f : ErrD) (hf : MatErr n len f) :
    Calls Tryd.prog 46 #[.slice a n c] W fun e w' => ∃ ev, e = .returned ev ∧ EC R w' ev f ∧ Below W.heap.size W w' := by
  rcases hf with ⟨hs, rfl⟩ | ⟨x, hx, rfl⟩
  · refine (mcheck_ok a n c len F W hM hs).mono ?_; rintro e w' ⟨rfl, rfl⟩
    exact ⟨_, rfl, rfl, bnil _⟩
  · refine (mcheck_err a n c len F W R hG hM (by unfold maxLen; omega) x hx).mono ?_; rintro e w' ⟨g, rfl, he, hb⟩
    exact ⟨_, rfl, ec_err (hS.up hb) he, hb⟩

set_option maxHeartbeats 8000000 in
theorem pmul (aa : Option Addr) (na ca : Nat) (ga : Nat → Nat) (A : Nat → Nat → List Nat) (ab : Option Addr) (nb cb : Nat) (gb : Nat → Nat) (B : Nat → Nat → List Nat) (W : World) (R : Nat → Addr) (hS : Sent W R) (hG : Glob W R) (hA : MsR W aa na ga A) (hna : na ≤ 96) (hLA : ∀ i j, i < na → j < ga i → (A i j).length ≤ 90000) (hB : MsR W ab nb gb B) (hnb : nb ≤ 96) (hLB : ∀ i j, i < nb → j < gb i → (B i j).length ≤ 90000) (m : Nat) (f : ErrD) (hf : MulE na nb ga gb m f) :
    Calls Tryd.prog 39 #[.slice aa na ca, .slice ab nb cb] W (ProMs R W m (fun i j => limbs (mm m (vM A) (vM B) i j)) f) := by
  have HG := Lib.hid hG; clear hG
  have HS := Lib.hid hS; clear hS
  have HA := Lib.hid hA; clear hA
  have HLA := Lib.hid hLA; clear hLA
  have HB := Lib.hid hB; clear hB
  have HLB := Lib.hid hLB; clear hLB
  rcases hf with ⟨x, hx, rfl, rfl⟩ | ⟨hs, x, hx, rfl, rfl⟩ | ⟨hs, hs2, hne, rfl, rfl⟩ | ⟨hs, hs2, rfl, rfl, rfl⟩
  · have HX := Lib.hid hx
    clear hx
    go_enter Tryd.func39, Tryd.ntmps39
    go_wp2_with fail
    refine (mcheck_err aa na ca ga A _ R HG.out HA.out (by unfold maxLen; omega) x HX.out).mono ?_; rintro e w2 ⟨g, rfl, he, hb⟩
    have HE := Lib.hid (ec_err (HS.out.up hb) he)
    clear he
    go_wp2
    go_ret2
    exact ⟨none, 0, _, rfl, ms_zero, HE.out, hb⟩
  · have HX := Lib.hid hx
    have HQ := Lib.hid hs
    clear hx hs
    go_enter Tryd.func39, Tryd.ntmps39
    go_wp2_with fail
    refine (mcheck_ok aa na ca ga A _ HA.out HQ.out).mono ?_; rintro e w' ⟨rfl, rfl⟩
    go_wp2_with fail
    refine (mcheck_err ab nb cb gb B _ R HG.out HB.out (by unfold maxLen; omega) x HX.out).mono ?_; rintro e w2 ⟨g, rfl, he, hb⟩
    have HE := Lib.hid (ec_under opMat 1 (ec_err (HS.out.up hb) he))
    clear he
    go_wp2_with fail
    refine (under_err _ _ _ _ _).mono ?_; rintro e w' ⟨rfl, rfl⟩
    go_wp2
    go_ret2
    exact ⟨none, 0, _, rfl, ms_zero, HE.out, balloc hb _⟩
  · have HQ := Lib.hid hs
    have HQ2 := Lib.hid hs2
    have hneb : ((na : Int) != (nb : Int)) = true := by simp; omega
    clear hs hs2 hne
    go_enter Tryd.func39, Tryd.ntmps39
    go_wp2_with fail
    refine (mcheck_ok aa na ca ga A _ HA.out HQ.out).mono ?_; rintro e w' ⟨rfl, rfl⟩
    go_wp2_with fail
    refine (mcheck_ok ab nb cb gb B _ HB.out HQ2.out).mono ?_; rintro e w' ⟨rfl, rfl⟩
    go_wp2_with fail
    refine (mat_wrong _ _ _ R HG.out rfl).mono ?_; rintro e w' ⟨rfl, rfl⟩
    have HE := Lib.hid (ec_err (HS.out.up (balloc (bnil W) _)) (isErr_new (B := W.heap.size) (R := R) (op := opMat) (at_ := 1) (n := 3) (Nat.le_refl W.heap.size)))
    go_wp2
    go_ret2
    exact ⟨none, 0, _, rfl, ms_zero, HE.out, balloc (bnil W) _⟩
  · refine (mmul_ok aa ab m ca cb A B 90000 W (HA.out.square hs.2) (HB.out.square hs2.2) hna (fun i j hi hj => HLA.out i j hi (by rw [hs.2 i hi]; exact hj)) (fun i j hi hj => HLB.out i j hi (by rw [hs2.2 i hi]; exact hj)) (by omega)).mono ?_; rintro e w' ⟨a6, c6, rows, its, rfl, ho, hb⟩
    exact ⟨a6, c6, _, rfl, ho.msR, rfl, hb⟩

set_option maxHeartbeats 8000000 in
theorem ppow (aa : Option Addr) (na ca : Nat) (ga : Nat → Nat) (A : Nat → Nat → List Nat) (N : Int) (W : World) (R : Nat → Addr) (hS : Sent W R) (hG : Glob W R) (hA : MsR W aa na ga A) (hna : na ≤ 96) (hLA : ∀ i j, i < na → j < ga i → (A i j).length ≤ 80) (m : Nat) (f : ErrD) (hf : PowE na ga N m f) :
    Calls Tryd.prog 41 #[.slice aa na ca, .int .i64 N] W (ProMs R W m (fun i j => limbs (mpow m (vM A) N.toNat i j)) f) := by
  have HG := Lib.hid hG; clear hG
  have HS := Lib.hid hS; clear hS
  have HA := Lib.hid hA; clear hA
  have HLA := Lib.hid hLA; clear hLA
  rcases hf with ⟨x, hx, rfl, rfl⟩ | ⟨hs, hN1, rfl, rfl⟩ | ⟨hs, hN1, rfl, rfl⟩ | ⟨hs, hN0, hN1, rfl, rfl⟩
  · have HX := Lib.hid hx
    clear hx
    go_enter Tryd.func41, Tryd.ntmps41
    go_wp2_with fail
    refine (mcheck_err aa na ca ga A _ R HG.out HA.out (by unfold maxLen; omega) x HX.out).mono ?_; rintro e w2 ⟨g, rfl, he, hb⟩
    have HE := Lib.hid (ec_err (HS.out.up hb) he)
    clear he
    go_wp2
    go_ret2
    exact ⟨none, 0, _, rfl, ms_zero, HE.out, hb⟩
  · have HQ := Lib.hid hs
    clear hs
    go_enter Tryd.func41, Tryd.ntmps41
    go_wp2_with fail
    refine (mcheck_ok aa na ca ga A _ HA.out HQ.out).mono ?_; rintro e w' ⟨rfl, rfl⟩
    go_wp2_with fail
    refine (mat_wrong _ _ _ R HG.out rfl).mono ?_; rintro e w' ⟨rfl, rfl⟩
    have HE := Lib.hid (ec_err (HS.out.up (balloc (bnil W) _)) (isErr_new (B := W.heap.size) (R := R) (op := opMat) (at_ := 1) (n := 3) (Nat.le_refl W.heap.size)))
    go_wp2
    go_ret2
    exact ⟨none, 0, _, rfl, ms_zero, HE.out, balloc (bnil W) _⟩
  · have HQ := Lib.hid hs
    have hN2 : ¬ N < 0 := by omega
    have hN3 : (0 : Int) ≤ N := by omega
    clear hs
    go_enter Tryd.func41, Tryd.ntmps41
    go_wp2_with fail
    refine (mcheck_ok aa na ca ga A _ HA.out HQ.out).mono ?_; rintro e w' ⟨rfl, rfl⟩
    go_wp2_with fail
    refine (mat_wrong _ _ _ R HG.out rfl).mono ?_; rintro e w' ⟨rfl, rfl⟩
    have HE := Lib.hid (ec_err (HS.out.up (balloc (bnil W) _)) (isErr_new (B := W.heap.size) (R := R) (op := opMat) (at_ := 1) (n := 4) (Nat.le_refl W.heap.size)))
    go_wp2
    go_ret2
    exact ⟨none, 0, _, rfl, ms_zero, HE.out, balloc (bnil W) _⟩
  · obtain ⟨K, rfl⟩ : ∃ K : Nat, N = (K : Int) := ⟨N.toNat, by omega⟩
    refine (matPow_ok aa m ca K A 80 W (HA.out.square hs.2) hna (fun i j hi hj => HLA.out i j hi (by rw [hs.2 i hi]; exact hj)) (by omega) (by omega)).mono ?_; rintro e w' ⟨a6, c6, rows, its, rfl, ho, hb⟩
    exact ⟨a6, c6, _, rfl, ho.msR, rfl, hb⟩

set_option maxHeartbeats 8000000 in
theorem ptrace (aa : Option Addr) (na ca : Nat) (ga : Nat → Nat) (A : Nat → Nat → List Nat) (W : World) (R : Nat → Addr) (hS : Sent W R) (hG : Glob W R) (hA : MsR W aa na ga A) (hna : na ≤ 96) (hLA : ∀ i j, i < na → j < ga i → (A i j).length ≤ 90000) (l : List Nat) (f : ErrD) (hf : TraceE na ga A l f) :
    Calls Tryd.prog 43 #[.slice aa na ca] W (ProN R W l f) := by
  have HG := Lib.hid hG; clear hG
  have HS := Lib.hid hS; clear hS
  have HA := Lib.hid hA; clear hA
  have HLA := Lib.hid hLA; clear hLA
  rcases hf with ⟨x, hx, rfl, rfl⟩ | ⟨hs, rfl, rfl⟩
  · have HX := Lib.hid hx
    clear hx
    go_enter Tryd.func43, Tryd.ntmps43
    go_wp2_with fail
    refine (mcheck_err aa na ca ga A _ R HG.out HA.out (by unfold maxLen; omega) x HX.out).mono ?_; rintro e w2 ⟨g, rfl, he, hb⟩
    have HE := Lib.hid (ec_err (HS.out.up hb) he)
    clear he
    go_wp2
    go_ret2
    exact ⟨none, 0, 0, _, rfl, nr_nil _, Nat.le_refl _, HE.out, hb⟩
  · refine (mtrace_ok aa na ca A 90000 W (HA.out.square hs.2) hna (fun i j hi hj => HLA.out i j hi (by rw [hs.2 i hi]; exact hj)) (by omega)).mono ?_; rintro e w' ⟨a6, n6, c6, rfl, ho, hb⟩
    exact ⟨a6, n6, c6, _, rfl, ho.ns.nr, Nat.le_of_eq ho.ns.nr.len, rfl, hb⟩

set_option maxHeartbeats 8000000 in
theorem pgo (av : Option Addr) (nv cv : Nat) (V : Nat → List Nat) (aa : Option Addr) (na ca : Nat) (ga : Nat → Nat) (A : Nat → Nat → List Nat) (W : World) (R : Nat → Addr) (hS : Sent W R) (hG : Glob W R) (hA : MsR W aa na ga A) (hna : na ≤ 96) (hLA : ∀ i j, i < na → j < ga i → (A i j).length ≤ 80) (hV : NsR W av nv V) (hnv : nv ≤ 96) (hLV : ∀ i, i < nv → (V i).length ≤ 80) (m : Nat) (f : ErrD) (hf : GoE nv na ga m f) :
    Calls Tryd.prog 48 #[.slice av nv cv, .slice aa na ca] W (ProNs R W m (fun j => limbs (thr (vN V) (vM A) m j)) f) := by
  have HG := Lib.hid hG; clear hG
  have HS := Lib.hid hS; clear hS
  have HA := Lib.hid hA; clear hA
  have HLA := Lib.hid hLA; clear hLA
  have HV := Lib.hid hV; clear hV
  have HLV := Lib.hid hLV; clear hLV
  rcases hf with ⟨x, hx, rfl, rfl⟩ | ⟨hs, hne, rfl, rfl⟩ | ⟨hs, rfl, rfl, rfl⟩
  · have HX := Lib.hid hx
    clear hx
    go_enter Tryd.func48, Tryd.ntmps48
    go_wp2_with fail
    refine (mcheck_err aa na ca ga A _ R HG.out HA.out (by unfold maxLen; omega) x HX.out).mono ?_; rintro e w2 ⟨g, rfl, he, hb⟩
    have HE := Lib.hid (ec_err (HS.out.up hb) he)
    clear he
    go_wp2
    go_ret2
    exact ⟨none, 0, _, rfl, owns_zero, HE.out, hb⟩
  · have HQ := Lib.hid hs
    have hneb : ((nv : Int) != (na : Int)) = true := by simp; omega
    clear hs hne
    go_enter Tryd.func48, Tryd.ntmps48
    go_wp2_with fail
    refine (mcheck_ok aa na ca ga A _ HA.out HQ.out).mono ?_; rintro e w' ⟨rfl, rfl⟩
    go_wp2_with fail
    refine (mat_wrong _ _ _ R HG.out rfl).mono ?_; rintro e w' ⟨rfl, rfl⟩
    have HE := Lib.hid (ec_err (HS.out.up (balloc (bnil W) _)) (isErr_new (B := W.heap.size) (R := R) (op := opMat) (at_ := 0) (n := 3) (Nat.le_refl W.heap.size)))
    go_wp2
    go_ret2
    exact ⟨none, 0, _, rfl, owns_zero, HE.out, balloc (bnil W) _⟩
  · refine (mgo_ok av aa m cv ca V A 80 W HV.out (HA.out.square hs.2) hna HLV.out (fun i j hi hj => HLA.out i j hi (by rw [hs.2 i hi]; exact hj)) (by omega)).mono ?_; rintro e w' ⟨a6, c6, its, rfl, ho, hb⟩
    exact ⟨a6, c6, _, rfl, ⟨its, ho⟩, rfl, hb⟩
end Go.Proofs.YteneiianpghalaaDoor
