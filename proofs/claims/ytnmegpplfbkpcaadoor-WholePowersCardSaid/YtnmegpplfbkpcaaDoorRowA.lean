/- The contract of row.Check. -/
import Derived.Test.YtnmegpplfbkpcaaDoorIdx
import Derived.Test.YtnmegpplfbkpcaaDoorRowP
import Derived.Test.YtnmegpplfbkpcaaDoorUnder
import Derived.WalkKit
import Derived.Lib.Hide
namespace Go.Proofs.YtnmegpplfbkpcaaDoor
open Go.RowKit
set_option linter.unusedVariables false
set_option maxRecDepth 100000

/-- a row's value -/
abbrev rowV (p : Int) (aL : Option Addr) (nL cL : Nat) (aC : Option Addr) (nC cC : Nat) (aR : Option Addr) (nR cR : Nat) : Value := .agg #[.int .i64 p, .slice aL nL cL, .slice aC nC cC, .slice aR nR cR]
/-- a row's lists in memory -/
structure RowM (w : World) (aL : Option Addr) (nL cL : Nat) (L : List Int) (aC : Option Addr) (nC cC : Nat) (C : List Int) (aR : Option Addr) (nR cR : Nat) (Q : List Int) : Prop where
  l : SlI w aL nL cL L
  c : SlI w aC nC cC C
  r : SlI w aR nR cR Q
theorem RowM.up {w w' : World} {aL aC aR : Option Addr} {nL cL nC cC nR cR : Nat} {L C Q : List Int} (h : RowM w aL nL cL L aC nC cC C aR nR cR Q) (hb : Below w.heap.size w w') : RowM w' aL nL cL L aC nC cC C aR nR cR Q := ⟨h.l.up hb, h.c.up hb, h.r.up hb⟩

/-- a row's fault: place and number -/
def rowErr (k p : Int) (L C Q : List Int) : Option (Int × Int) :=
  if k < 1 ∨ 4 < k then some (0, 3) else if p < -4096 ∨ 4096 < p then some (1, 3) else if L.length = 0 then some (2, 3) else if Q.length = 0 then some (3, 3)
  else if 8192 < L.length then some (2, 4) else if 8192 < Q.length then some (3, 4) else if 16384 < C.length then some (4, 4)
  else if 0 ≤ idxI (badB k) (L ++ C ++ Q) then some (idxI (badB k) (L ++ C ++ Q), 2) else none
theorem rowErr_none {k p : Int} {L C Q : List Int} (h : rowErr k p L C Q = none) : ∃ kn : Nat, k = (kn : Int) ∧ IsRow kn p L C Q := by
  unfold rowErr at h
  (repeat' split at h) <;> first | (cases h; done) | skip
  rename_i h1 h2 h3 h4 h5 h6 h7 h8
  have hs : ∀ x ∈ L ++ C ++ Q, 0 ≤ x ∧ x < k := fun x hx => badB_false.1 (idxI_neg h8 x hx)
  obtain ⟨kn, rfl⟩ : ∃ kn : Nat, k = (kn : Int) := ⟨k.toNat, by omega⟩
  exact ⟨kn, rfl, by omega, by omega, by omega, by omega, by omega, by omega, by omega, by omega, by omega, fun x hx => hs x (by simp [hx]), fun x hx => hs x (by simp [hx]), fun x hx => hs x (by simp [hx])⟩
theorem rowErr_of {k : Nat} {p : Int} {L C Q : List Int} (h : IsRow k p L C Q) : rowErr (k : Int) p L C Q = none := by
  have := h.k1; have := h.k4; have := h.p1; have := h.p2; have := h.l1; have := h.l2; have := h.r1; have := h.r2; have := h.c2
  have hi : idxI (badB (k : Int)) (L ++ C ++ Q) = -1 := findIdx_none fun x hx => by
    rw [List.mem_append, List.mem_append] at hx
    rcases hx with (hx | hx) | hx
    · exact badB_false.2 (h.symL x hx)
    · exact badB_false.2 (h.symC x hx)
    · exact badB_false.2 (h.symR x hx)
  unfold rowErr
  rw [if_neg (by omega), if_neg (by omega), if_neg (by omega), if_neg (by omega), if_neg (by omega), if_neg (by omega), if_neg (by omega), if_neg (by rw [hi]; omega)]

/-! the three lists, one behind the other -/
def partL (L C Q : List Int) (q : Nat) : List Int := if q = 0 then L else if q = 1 then C else Q
def partO (L C Q : List Int) (q : Nat) : Nat := if q = 0 then 0 else if q = 1 then L.length else if q = 2 then L.length + C.length else L.length + C.length + Q.length
theorem partO_step {L C Q : List Int} {q : Nat} (h : q < 3) : partO L C Q (q + 1) = partO L C Q q + (partL L C Q q).length := by
  have : q = 0 ∨ q = 1 ∨ q = 2 := by omega
  rcases this with rfl | rfl | rfl <;> simp [partO, partL]
theorem partO_le {L C Q : List Int} {q : Nat} (h : q < 3) : partO L C Q q + (partL L C Q q).length ≤ (L ++ C ++ Q).length := by
  have : q = 0 ∨ q = 1 ∨ q = 2 := by omega
  rcases this with rfl | rfl | rfl <;> simp [partO, partL] <;> omega
theorem part_getD {L C Q : List Int} {q i : Nat} (h : q < 3) (hi : i < (partL L C Q q).length) : (L ++ C ++ Q).getD (partO L C Q q + i) 0 = (partL L C Q q).getD i 0 := by
  have : q = 0 ∨ q = 1 ∨ q = 2 := by omega
  rcases this with rfl | rfl | rfl
  · simp [partL] at hi
    simp [partO, partL, hi, List.getElem?_append_left hi]
  · simp [partL] at hi
    simp only [partO, partL, List.getD_eq_getElem?_getD, List.append_assoc]
    simp [List.getElem?_append_right, List.getElem?_append_left hi]
  · simp [partL] at hi
    simp only [partO, partL, List.getD_eq_getElem?_getD, List.append_assoc]
    rw [List.getElem?_append_right (by simp; omega), List.getElem?_append_right (by simp; omega)]
    congr 2
    simp; omega

def ChkRow (R : Nat → Addr) (W : World) (x : Option (Int × Int)) (e : Ending) (w' : World) : Prop :=
  Below W.heap.size W w' ∧ match x with
  | none => e = .returned .nilIface
  | some (at_, n) => ∃ g, e = .returned (.iface 100 (.pointer (some ⟨g, 0, none⟩))) ∧ IsErr W.heap.size R w' (.iface 100 (.pointer (some ⟨g, 0, none⟩))) opRow at_ n

set_option maxHeartbeats 8000000 in
theorem rowcheck_any (k p : Int) (aL aC aR : Option Addr) (nL cL nC cC nR cR : Nat) (L C Q : List Int) (W : World) (R : Nat → Addr) (hG : Glob W R) (hM : RowM W aL nL cL L aC nC cC C aR nR cR Q) :
    Calls Tryd.prog 10 #[.int .i64 k, rowV p aL nL cL aC nC cC aR nR cR] W (ChkRow R W (rowErr k p L C Q)) := by
  have mL := hM.l.nm
  have mC := hM.c.nm
  have mR := hM.r.nm
  unfold maxLen at mL mC mR
  have HLL := Lib.hid hM.l.rk.len
  have HLC := Lib.hid hM.c.rk.len
  have HLR := Lib.hid hM.r.rk.len
  have HG := Lib.hid hG; clear hG
  have HM := Lib.hid hM; clear hM
  have hbx := balloc (bnil W) (.cells #[.int .i64 p, .slice aL nL cL, .slice aC nC cC, .slice aR nR cR] 26)
  by_cases c0 : k < 1
  · have he : rowErr k p L C Q = some (0, 3) := by
      have := HLL.out; have := HLC.out; have := HLR.out
      unfold rowErr
      rw [if_pos (by omega)]
    rw [he]; clear he
    go_enter Tryd.func10, Tryd.ntmps10
    go_wp2_with fail
    refine (row_wrong _ _ _ R (HG.out.up hbx) (by rfl)).mono ?_; rintro e w' ⟨rfl, rfl⟩
    go_wp2
    go_ret
    exact ⟨balloc hbx _, _, rfl, isErr_at (by simp) hbx.size⟩
  by_cases c1 : 4 < k
  · have he : rowErr k p L C Q = some (0, 3) := by
      have := HLL.out; have := HLC.out; have := HLR.out
      unfold rowErr
      rw [if_pos (by omega)]
    rw [he]; clear he
    go_enter Tryd.func10, Tryd.ntmps10
    go_wp2_with fail
    refine (row_wrong _ _ _ R (HG.out.up hbx) (by rfl)).mono ?_; rintro e w' ⟨rfl, rfl⟩
    go_wp2
    go_ret
    exact ⟨balloc hbx _, _, rfl, isErr_at (by simp) hbx.size⟩
  by_cases c2 : p < -4096
  · have he : rowErr k p L C Q = some (1, 3) := by
      have := HLL.out; have := HLC.out; have := HLR.out
      unfold rowErr
      rw [if_neg (by omega), if_pos (by omega)]
    rw [he]; clear he
    go_enter Tryd.func10, Tryd.ntmps10
    go_wp2_with fail
    refine (row_wrong _ _ _ R (HG.out.up hbx) (by rfl)).mono ?_; rintro e w' ⟨rfl, rfl⟩
    go_wp2
    go_ret
    exact ⟨balloc hbx _, _, rfl, isErr_at (by simp) hbx.size⟩
  by_cases c3 : 4096 < p
  · have he : rowErr k p L C Q = some (1, 3) := by
      have := HLL.out; have := HLC.out; have := HLR.out
      unfold rowErr
      rw [if_neg (by omega), if_pos (by omega)]
    rw [he]; clear he
    go_enter Tryd.func10, Tryd.ntmps10
    go_wp2_with fail
    refine (row_wrong _ _ _ R (HG.out.up hbx) (by rfl)).mono ?_; rintro e w' ⟨rfl, rfl⟩
    go_wp2
    go_ret
    exact ⟨balloc hbx _, _, rfl, isErr_at (by simp) hbx.size⟩
  by_cases c4 : nL = 0
  · have he : rowErr k p L C Q = some (2, 3) := by
      have := HLL.out; have := HLC.out; have := HLR.out
      unfold rowErr
      rw [if_neg (by omega), if_neg (by omega), if_pos (by omega)]
    rw [he]; clear he
    subst c4
    go_enter Tryd.func10, Tryd.ntmps10
    go_wp2_with fail
    refine (row_wrong _ _ _ R (HG.out.up hbx) (by rfl)).mono ?_; rintro e w' ⟨rfl, rfl⟩
    go_wp2
    go_ret
    exact ⟨balloc hbx _, _, rfl, isErr_at (by simp) hbx.size⟩
  have czL : ((nL : Int) == 0) = false := by rw [beq_eq_false_iff_ne]; omega
  by_cases c5 : nR = 0
  · have he : rowErr k p L C Q = some (3, 3) := by
      have := HLL.out; have := HLC.out; have := HLR.out
      unfold rowErr
      rw [if_neg (by omega), if_neg (by omega), if_neg (by omega), if_pos (by omega)]
    rw [he]; clear he
    subst c5
    go_enter Tryd.func10, Tryd.ntmps10
    go_wp2_with fail
    refine (row_wrong _ _ _ R (HG.out.up hbx) (by rfl)).mono ?_; rintro e w' ⟨rfl, rfl⟩
    go_wp2
    go_ret
    exact ⟨balloc hbx _, _, rfl, isErr_at (by simp) hbx.size⟩
  have czR : ((nR : Int) == 0) = false := by rw [beq_eq_false_iff_ne]; omega
  by_cases c6 : 8192 < nL
  · have he : rowErr k p L C Q = some (2, 4) := by
      have := HLL.out; have := HLC.out; have := HLR.out
      unfold rowErr
      rw [if_neg (by omega), if_neg (by omega), if_neg (by omega), if_neg (by omega), if_pos (by omega)]
    rw [he]; clear he
    go_enter Tryd.func10, Tryd.ntmps10
    go_wp2_with fail
    refine (row_wrong _ _ _ R (HG.out.up hbx) (by rfl)).mono ?_; rintro e w' ⟨rfl, rfl⟩
    go_wp2
    go_ret
    exact ⟨balloc hbx _, _, rfl, isErr_at (by simp) hbx.size⟩
  by_cases c7 : 8192 < nR
  · have he : rowErr k p L C Q = some (3, 4) := by
      have := HLL.out; have := HLC.out; have := HLR.out
      unfold rowErr
      rw [if_neg (by omega), if_neg (by omega), if_neg (by omega), if_neg (by omega), if_neg (by omega), if_pos (by omega)]
    rw [he]; clear he
    go_enter Tryd.func10, Tryd.ntmps10
    go_wp2_with fail
    refine (row_wrong _ _ _ R (HG.out.up hbx) (by rfl)).mono ?_; rintro e w' ⟨rfl, rfl⟩
    go_wp2
    go_ret
    exact ⟨balloc hbx _, _, rfl, isErr_at (by simp) hbx.size⟩
  by_cases c8 : 16384 < nC
  · have he : rowErr k p L C Q = some (4, 4) := by
      have := HLL.out; have := HLC.out; have := HLR.out
      unfold rowErr
      rw [if_neg (by omega), if_neg (by omega), if_neg (by omega), if_neg (by omega), if_neg (by omega), if_neg (by omega), if_pos (by omega)]
    rw [he]; clear he
    go_enter Tryd.func10, Tryd.ntmps10
    go_wp2_with fail
    refine (row_wrong _ _ _ R (HG.out.up hbx) (by rfl)).mono ?_; rintro e w' ⟨rfl, rfl⟩
    go_wp2
    go_ret
    exact ⟨balloc hbx _, _, rfl, isErr_at (by simp) hbx.size⟩
  have he : rowErr k p L C Q = if 0 ≤ idxI (badB k) (L ++ C ++ Q) then some (idxI (badB k) (L ++ C ++ Q), 2) else none := by
    have := HLL.out; have := HLC.out; have := HLR.out
    unfold rowErr
    rw [if_neg (by omega), if_neg (by omega), if_neg (by omega), if_neg (by omega), if_neg (by omega), if_neg (by omega), if_neg (by omega)]
  have HE := Lib.hid he; clear he
  obtain ⟨Wb, hWb⟩ : ∃ Wb, W.alloc (.cells #[.int .i64 p, .slice aL nL cL, .slice aC nC cC, .slice aR nR cR] 26) = Wb := ⟨_, rfl⟩
  have HBX : Hid (Below W.heap.size W Wb) := by rw [← hWb]; exact hbx
  have hpl : ∀ q, q < 3 → ∃ a n c, (Wb.alloc (.cells #[.slice aL nL cL, .slice aC nC cC, .slice aR nR cR] 22)).cell? ⟨W.heap.size + 1, q, none⟩ = some (.slice a n c) ∧ SlI W a n c (partL L C Q q) := by
    have hwz : W.heap.size + 1 = Wb.heap.size := by rw [← hWb]; simp
    rw [hwz]
    intro q hq
    have : q = 0 ∨ q = 1 ∨ q = 2 := by omega
    rcases this with rfl | rfl | rfl
    · exact ⟨aL, nL, cL, by simp, HM.out.l⟩
    · exact ⟨aC, nC, cC, by simp, HM.out.c⟩
    · exact ⟨aR, nR, cR, by simp, HM.out.r⟩
  have HPL := Lib.hid hpl; clear hpl
  have hb2 := balloc HBX.out (.cells #[.slice aL nL cL, .slice aC nC cC, .slice aR nR cR] 22)
  obtain ⟨W2, hW2⟩ : ∃ W2, Wb.alloc (.cells #[.slice aL nL cL, .slice aC nC cC, .slice aR nR cR] 22) = W2 := ⟨_, rfl⟩
  rw [hW2] at hb2 HPL
  have HB2 := Lib.hid hb2
  have hlen : (L ++ C ++ Q).length ≤ 100000 := by have := HLL.out; have := HLC.out; have := HLR.out; simp; omega
  have HLEN := Lib.hid hlen
  have x0 : Wb.cell? ⟨W.heap.size, 0, none⟩ = some (.int .i64 p) := by rw [← hWb]; simp
  have x1 : Wb.cell? ⟨W.heap.size, 1, none⟩ = some (.slice aL nL cL) := by rw [← hWb]; simp
  have x2 : Wb.cell? ⟨W.heap.size, 2, none⟩ = some (.slice aC nC cC) := by rw [← hWb]; simp
  have x3 : Wb.cell? ⟨W.heap.size, 3, none⟩ = some (.slice aR nR cR) := by rw [← hWb]; simp
  have HWB := Lib.hid hWb
  have HW2 := Lib.hid hW2
  clear hWb hW2 hb2 hlen hbx
  go_enter Tryd.func10, Tryd.ntmps10
  go_wp2_with fail
  rw [HWB.out, HW2.out]
  go_loop [5, 66] (fun ax ix => ∃ q : Nat, q ≤ 3 ∧ ix = .int .i64 q ∧ ax = .int .i64 (partO L C Q q : Nat) ∧ Hid (∀ x ∈ (L ++ C ++ Q).take (partO L C Q q), badB k x = false)) (fun _ ix => 3 - (intOf ix).toNat)
  case atStart => exact ⟨0, by omega, rfl, rfl, fun x hx => by simp [partO] at hx⟩
  case round =>
    obtain ⟨q, hq, rfl, rfl, HT⟩ := hrel
    by_cases hq3 : q < 3
    · obtain ⟨a1, n1, c1, y0, hS⟩ := HPL.out q hq3
      have hlq := hS.rk.len
      have hst := partO_step (L := L) (C := C) (Q := Q) hq3
      have hle := partO_le (L := L) (C := C) (Q := Q) hq3
      have hgd := fun j hj => part_getD (L := L) (C := C) (Q := Q) (q := q) (i := j) hq3 hj
      rw [← hlq] at hst hle hgd
      have hlen := HLEN.out
      have hn1 : n1 ≤ 100000 := by omega
      have hO1 : partO L C Q q ≤ 100000 := by omega
      obtain ⟨O, hO⟩ : ∃ O, partO L C Q q = O := ⟨_, rfl⟩
      rw [hO] at hst hle hgd HT hO1
      simp only [hO]
      have HST := Lib.hid hst
      have HLN := Lib.hid hle
      have HGA := Lib.hid hgd
      have HS := Lib.hid (hS.up HB2.out)
      clear hst hle hgd hO hS hlq hlen
      have q0 : (0 : Int) ≤ (q : Int) := by omega
      have q1 : (q : Int) < 3 := by omega
      go_wp2_with fail
      go_loop [72] (fun jx => ∃ j : Nat, j ≤ n1 ∧ jx = .int .i64 j ∧ Hid (∀ x ∈ (L ++ C ++ Q).take (O + j), badB k x = false)) (fun jx => n1 - (intOf jx).toNat)
      case atStart => exact ⟨0, by omega, rfl, HT⟩
      case round =>
        obtain ⟨j, hj, rfl, HJ⟩ := hrel
        by_cases hjn : j < n1
        · obtain ⟨b, o, rfl, hbo, hc⟩ := HS.out.rk.addr (by omega)
          have z0 := hc j hjn
          have HGD := Lib.hid (HGA.out j hjn)
          clear hc
          generalize (partL L C Q q).getD j 0 = z at *
          have j0 : (0 : Int) ≤ (j : Int) := by omega
          have j1 : (j : Int) < (n1 : Int) := by omega
          by_cases hz0 : z < 0
          · have HX : Hid (idxI (badB k) (L ++ C ++ Q) = ((O + j : Nat) : Int)) := by
              refine findIdx_at (by have := HLN.out; omega) HJ.out ?_
              rw [HGD.out]
              exact badB_true.2 (.inl hz0)
            go_wp2_with fail
            refine (row_wrong _ _ _ R (HG.out.up HB2.out) (by rfl)).mono ?_; rintro e w' ⟨rfl, rfl⟩
            go_wp2
            go_ret
            show ChkRow R W (rowErr k p L C Q) _ _
            rw [HE.out, HX.out, if_pos (by omega), Int.natCast_add]
            exact ⟨balloc HB2.out _, _, rfl, isErr_at (by rfl) HB2.out.size⟩
          by_cases hzk : k ≤ z
          · have HX : Hid (idxI (badB k) (L ++ C ++ Q) = ((O + j : Nat) : Int)) := by
              refine findIdx_at (by have := HLN.out; omega) HJ.out ?_
              rw [HGD.out]
              exact badB_true.2 (.inr hzk)
            go_wp2_with fail
            refine (row_wrong _ _ _ R (HG.out.up HB2.out) (by rfl)).mono ?_; rintro e w' ⟨rfl, rfl⟩
            go_wp2
            go_ret
            show ChkRow R W (rowErr k p L C Q) _ _
            rw [HE.out, HX.out, if_pos (by omega), Int.natCast_add]
            exact ⟨balloc HB2.out _, _, rfl, isErr_at (by rfl) HB2.out.size⟩
          have HX : Hid (∀ x ∈ (L ++ C ++ Q).take (O + (j + 1)), badB k x = false) := by
            show ∀ x ∈ (L ++ C ++ Q).take (O + j + 1), badB k x = false
            refine all_take_succ (by have := HLN.out; omega) HJ.out ?_
            rw [HGD.out]
            exact badB_false.2 ⟨by omega, by omega⟩
          go_wp2
          go_round
          case rel => exact ⟨j + 1, by omega, by go_num, HX⟩
          case measure => simp [intOf]; omega
        · obtain rfl : j = n1 := by omega
          go_wp2
          go_round
          case rel => exact ⟨q + 1, by omega, by go_num, by rw [HST.out]; go_num, by rw [HST.out]; exact HJ⟩
          case measure => simp [intOf]; omega
    · obtain rfl : q = 3 := by omega
      have HX : Hid (idxI (badB k) (L ++ C ++ Q) = -1) := by
        refine findIdx_none ?_
        have := HT.out
        rw [List.take_of_length_le (by simp [partO]; omega)] at this
        exact this
      go_wp2
      go_ret
      show ChkRow R W (rowErr k p L C Q) _ _
      rw [HE.out, HX.out, if_neg (by omega)]
      exact ⟨HB2.out, rfl⟩

theorem rowcheck_ok (k : Nat) (p : Int) (aL aC aR : Option Addr) (nL cL nC cC nR cR : Nat) (L C Q : List Int) (W : World) (R : Nat → Addr) (hG : Glob W R) (hM : RowM W aL nL cL L aC nC cC C aR nR cR Q) (h : IsRow k p L C Q) :
    Calls Tryd.prog 10 #[.int .i64 (k : Int), rowV p aL nL cL aC nC cC aR nR cR] W fun e w' => e = .returned .nilIface ∧ Below W.heap.size W w' := by
  have := rowcheck_any k p aL aC aR nL cL nC cC nR cR L C Q W R hG hM
  rw [rowErr_of h] at this
  exact this.mono fun e w' h => ⟨h.2, h.1⟩
theorem rowcheck_err (k p : Int) (aL aC aR : Option Addr) (nL cL nC cC nR cR : Nat) (L C Q : List Int) (W : World) (R : Nat → Addr) (hG : Glob W R) (hM : RowM W aL nL cL L aC nC cC C aR nR cR Q) (x : Int × Int) (h : rowErr k p L C Q = some x) :
    Calls Tryd.prog 10 #[.int .i64 k, rowV p aL nL cL aC nC cC aR nR cR] W fun e w' => ∃ g, e = .returned (.iface 100 (.pointer (some ⟨g, 0, none⟩))) ∧ IsErr W.heap.size R w' (.iface 100 (.pointer (some ⟨g, 0, none⟩))) opRow x.1 x.2 ∧ Below W.heap.size W w' := by
  have := rowcheck_any k p aL aC aR nL cL nC cC nR cR L C Q W R hG hM
  rw [h] at this
  exact this.mono fun e w' h => by obtain ⟨h1, g, h2, h3⟩ := h; exact ⟨g, h2, h3, h1⟩
end Go.Proofs.YtnmegpplfbkpcaaDoor
