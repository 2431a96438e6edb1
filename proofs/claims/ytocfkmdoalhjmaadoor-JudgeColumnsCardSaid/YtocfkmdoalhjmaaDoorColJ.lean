/- judge.Column for all arguments. -/
import Derived.Test.YtocfkmdoalhjmaaDoorJdgX
import Derived.Test.YtocfkmdoalhjmaaDoorRjQ
import Derived.Test.YtocfkmdoalhjmaaDoorBitI
import Derived.Deep.QuietTactic
import Derived.BigQuiet
namespace Go.Proofs.YtocfkmdoalhjmaaDoor
open Go.RowKit
set_option linter.unusedVariables false
set_option maxRecDepth 100000

def jcB (h : Int) (x : Int) : Bool := decide (x < 0 ∨ 4 * 2 ^ h.toNat ≤ x)
def jcD (t : List Int) (h a b c : Int) : ErrD := match tabD t with
  | some e => some ((opJudge, 0) :: e.1, e.2)
  | none => if h < 1 ∨ 4 < h then some ([(opJudge, 1)], 3) else if 0 ≤ idxI (jcB h) [a, b, c] then some ([(opJudge, 2 + idxI (jcB h) [a, b, c])], 3) else none
def jcO (t : List Int) (h a b c : Int) : Nat := if jcD t h a b c = none then madeV t a.toNat b.toNat c.toNat h.toNat else 0
theorem jcO_er {t : List Int} {h a b c : Int} {x : List (ByteArray × Int) × Int} (hd : jcD t h a b c = some x) : jcO t h a b c = 0 := by unfold jcO; rw [if_neg (by rw [hd]; exact nofun)]
theorem jcD_none {t : List Int} {h a b c : Int} (hd : jcD t h a b c = none) : ∃ h' a' b' c' : Nat, h = h' ∧ a = a' ∧ b = b' ∧ c = c' ∧ IsTab t ∧ 1 ≤ h' ∧ h' ≤ 4 ∧ a' < 4 * 2 ^ h' ∧ b' < 4 * 2 ^ h' ∧ c' < 4 * 2 ^ h' := by
  unfold jcD at hd
  cases ht : tabD t with
  | some e => rw [ht] at hd; cases hd
  | none =>
    rw [ht] at hd
    simp only at hd
    split at hd
    · cases hd
    rename_i hh
    split at hd
    · cases hd
    rename_i hi
    have hall := idxI_neg hi
    obtain ⟨h', rfl⟩ : ∃ h' : Nat, h = (h' : Int) := ⟨h.toNat, by omega⟩
    have key : ∀ x : Int, x ∈ [a, b, c] → ∃ x' : Nat, x = (x' : Int) ∧ x' < 4 * 2 ^ h' := by
      intro x hx
      have hb := hall x hx
      unfold jcB at hb
      have hq := of_decide_eq_false hb
      rw [Int.toNat_natCast] at hq
      have hp : (4 : Int) * 2 ^ h' = ((4 * 2 ^ h' : Nat) : Int) := by rw [Int.natCast_mul, Int.natCast_pow]; rfl
      rw [hp] at hq
      exact ⟨x.toNat, by omega, by omega⟩
    obtain ⟨a', rfl, ha⟩ := key a (by simp)
    obtain ⟨b', rfl, hb⟩ := key b (by simp)
    obtain ⟨c', rfl, hc⟩ := key c (by simp)
    exact ⟨h', a', b', c', rfl, rfl, rfl, rfl, tabD_none ht, by omega, by omega, ha, hb, hc⟩
theorem litRK3 (w : World) (l : List Int) : RK .i64 (w.alloc (.cells (l.map (Value.int .i64)).toArray 3)) (some ⟨w.heap.size, 0, none⟩) l.length l :=
  ⟨rfl, by simpa using rd_new (w := w) (g := w.heap.size) (m := l.length) (sz := 1) (news := (l.map (Value.int .i64)).toArray) (e := 3) (fr := (0, 0)) rfl (by simp)⟩
set_option maxHeartbeats 4000000 in
theorem jcol1 (h bh : Nat) (W : World) (h4 : h ≤ 4) (ch : W.cell? ⟨bh, 0, none⟩ = some (.int .i64 h)) : PredOf 92 #[.pointer (some ⟨bh, 0, none⟩)] (jcB h) W := by
  intro W' x hb
  have y0 := cpa hb ch
  clear ch hb
  show Calls _ _ #[.int .i64 x, .pointer (some ⟨bh, 0, none⟩)] _ _
  obtain ⟨M, hM4⟩ : ∃ M, 4 * 2 ^ h = M := ⟨_, rfl⟩
  have hM64 : M ≤ 64 := by
    rw [← hM4]
    have := Nat.pow_le_pow_right (n := 2) (by omega) h4
    have h2 : (2 : Nat) ^ 4 = 16 := by decide
    omega
  have hMI : (4 : Int) * 2 ^ h = (M : Int) := by rw [← hM4, Int.natCast_mul, Int.natCast_pow]; rfl
  have hMw : IntKind.i64.wrap (M : Int) = (M : Int) := IntWalk.i64_in _ (by omega)
  have h0I : (0 : Int) ≤ (h : Int) := by omega
  have h64I : (h : Int) ≤ 64 := by omega
  have key : ∀ b, jcB h x = b → Calls Tryd.prog 92 #[.int .i64 x, .pointer (some ⟨bh, 0, none⟩)] W' fun e w' => e = .returned (.bool b) ∧ ∃ n, w' = W'.drewN n := by
    intro b hbx
    unfold jcB at hbx
    rw [Int.toNat_natCast, hMI] at hbx
    by_cases hx : x < 0
    · obtain rfl : true = b := by rw [← hbx]; exact (decide_eq_true (.inl hx)).symm
      clear hbx
      go_enter Tryd.func92, Tryd.ntmps92
      go_wp2
      go_ret
      exact ⟨rfl, 0, rfl⟩
    · have hd : decide ((M : Int) ≤ x) = b := by
        rw [← hbx]
        exact decide_eq_decide.2 ⟨.inr, fun hq => by rcases hq with hq | hq; exact absurd hq hx; exact hq⟩
      clear hbx
      subst hd
      go_enter Tryd.func92, Tryd.ntmps92
      go_wp2
      go_ret
      exact ⟨rfl, 0, rfl⟩
  exact key _ rfl
theorem symF_bit {t : List Int} (ht : IsTab t) (a b c y : Nat) : ∃ s : Nat, symF t a b c y = (s : Int) ∧ s ≤ 1 := by
  have hs : symF t a b c y = 0 ∨ symF t a b c y = 1 := by
    unfold symF
    have h9 := wixT_lt a b c y 3
    have h2 : (2 : Nat) ^ (3 * 3) = 512 := by decide
    refine ht.sym _ ?_
    rw [List.getD_eq_getElem?_getD, List.getElem?_eq_getElem (by rw [ht.len]; omega)]
    exact List.getElem_mem _
  rcases hs with h | h
  · exact ⟨0, h, by omega⟩
  · exact ⟨1, h, by omega⟩
theorem made_or {o s y : Nat} (ho : o < 2 ^ y) : o ||| s * 2 ^ y = o + s * 2 ^ y := by
  have h := Nat.two_pow_add_eq_or_of_lt ho s
  rw [Nat.or_comm, Nat.mul_comm s, Nat.add_comm]
  exact h.symm
/-- a number and an error -/
def NumRet (R : Nat → Addr) (W : World) (o : Nat) (x : ErrD) (e : Ending) (w' : World) : Prop := ∃ ev, e = .returned (.tuple #[.int .i64 (o : Nat), ev]) ∧ EC R w' ev x ∧ Below W.heap.size W w'
set_option maxHeartbeats 16000000 in
theorem jcolumn_any (h a b c : Int) (aT : Option Addr) (nT cT : Nat) (t : List Int) (W : World) (R : Nat → Addr) (hS : Sent W R) (hT : RK .i64 W aT nT t) (hmT : nT ≤ maxLen) :
    Calls Tryd.prog 48 #[.slice aT nT cT, .int .i64 h, .int .i64 a, .int .i64 b, .int .i64 c] W (NumRet R W (jcO t h a b c) (jcD t h a b c)) := by
  have T0 := Tk.nil W
  have T1 := T0.add (fun wv => Below W.heap.size W wv) (bnil W)
  clear T0
  have T2 := T1.add (fun wv => Sent wv R) (hS)
  clear T1
  have T3 := T2.add (fun wv => RK .i64 wv aT nT t) (hT)
  clear T2
  clear hS hT
  obtain ⟨Wb, hWb⟩ : ∃ Wb, W.alloc (.cells #[.int .i64 h] 3) = Wb := ⟨_, rfl⟩
  have hbWb : Below W.heap.size W Wb := by rw [← hWb]; exact balloc (bnil W) _
  have T4 := T3.up hbWb
  clear T3
  have T5 := T4.add (fun wv => wv.cell? ⟨W.heap.size, 0, none⟩ = some (.int .i64 h)) (by rw [← hWb]; exact cnw (by simp) rfl)
  clear T4
  have HWb := Lib.hid hWb
  clear hWb hbWb
  cases htd : tabD t with
  | some y0 =>
    have hod : jcD t h a b c = some ((opJudge, 0) :: y0.1, y0.2) := by unfold jcD; rw [htd]
    have HOD := Lib.hid (And.intro (jcO_er hod) hod)
    have htn : tabD t ≠ none := by rw [htd]; exact nofun
    have HTN := Lib.hid htn
    have HTD := Lib.hid htd
    clear hod htn htd
    go_enter Tryd.func48, Tryd.ntmps48
    go_wp2_with fail
    rw [HWb.out]
    refine (plcheck_er aT nT cT t Wb R T5.out.1.1.2 T5.out.1.2 hmT HTN.out).mono ?_; rintro e w1 ⟨g, rfl, he, hbw1⟩
    have T6 := T5.up hbw1
    clear T5
    rw [HTD.out] at he
    obtain ⟨es0, n0⟩ := y0
    have HE := Lib.hid he
    clear he
    go_wp2_with fail
    refine (plunder _ _ _ _ _).mono ?_; rintro e w2 ⟨rfl, hw3⟩
    have hb3 : Below w1.heap.size w1 w2 := by rw [hw3]; exact balloc (bnil w1) _
    have he3 : EC R w2 (.iface 117 (.pointer (some ⟨w1.heap.size, 0, none⟩))) (some ((opJudge, 0) :: es0, n0)) := by rw [hw3]; exact ec_under opJudge 0 HE.out
    clear hw3
    have T7 := T6.up hb3
    clear T6
    have HE3 := Lib.hid he3
    clear hb3 he3
    go_wp2
    go_ret2
    rw [HOD.out.1, HOD.out.2]
    exact ⟨_, rfl, HE3.out, T7.out.1.1.1.2⟩
  | none =>
    have HT := Lib.hid (tabD_none htd)
    by_cases hh : h < 1 ∨ 4 < h
    · skip
      have hod : jcD t h a b c = some ([(opJudge, 1)], 3) := by unfold jcD; rw [htd]; exact if_pos hh
      have HOD := Lib.hid (And.intro (jcO_er hod) hod)
      clear hod htd
      by_cases hh1 : h < 1
      · skip
        clear hh
        go_enter Tryd.func48, Tryd.ntmps48
        go_wp2_with fail
        rw [HWb.out]
        refine (plcheck_ok aT nT cT t Wb R T5.out.1.1.2 T5.out.1.2 hmT HT.out).mono ?_; rintro e w1 ⟨rfl, hbw1⟩
        have T6 := T5.up hbw1
        clear T5
        have v_h0 : w1.cell? ⟨W.heap.size, 0, none⟩ = some (.int .i64 h) := T6.out.2
        have hSn := T6.out.1.1.2
        go_wp2_with fail
        refine (judge_wrong _ _ _ R hSn.glob rfl).mono ?_; rintro e w2 ⟨rfl, hw3⟩
        have hb3 : Below w1.heap.size w1 w2 := by rw [hw3]; exact balloc (bnil w1) _
        have he3 : EC R w2 (.iface 117 (.pointer (some ⟨w1.heap.size, 0, none⟩))) (some ([(opJudge, 1)], 3)) := by rw [hw3]; exact ec_err (hSn.up (balloc (bnil w1) _)) (isErr_new (Nat.le_refl _))
        clear hw3 hSn
        clear v_h0
        have T7 := T6.up hb3
        clear T6
        have HE3 := Lib.hid he3
        clear hb3 he3
        go_wp2
        go_ret2
        rw [HOD.out.1, HOD.out.2]
        exact ⟨_, rfl, HE3.out, T7.out.1.1.1.2⟩
      · skip
        have hh4 : 4 < h := by omega
        have hh5 : (4 : Int) < h := hh4
        clear hh
        go_enter Tryd.func48, Tryd.ntmps48
        go_wp2_with fail
        rw [HWb.out]
        refine (plcheck_ok aT nT cT t Wb R T5.out.1.1.2 T5.out.1.2 hmT HT.out).mono ?_; rintro e w1 ⟨rfl, hbw1⟩
        have T6 := T5.up hbw1
        clear T5
        have v_h0 : w1.cell? ⟨W.heap.size, 0, none⟩ = some (.int .i64 h) := T6.out.2
        have hSn := T6.out.1.1.2
        go_wp2_with fail
        refine (judge_wrong _ _ _ R hSn.glob rfl).mono ?_; rintro e w2 ⟨rfl, hw3⟩
        have hb3 : Below w1.heap.size w1 w2 := by rw [hw3]; exact balloc (bnil w1) _
        have he3 : EC R w2 (.iface 117 (.pointer (some ⟨w1.heap.size, 0, none⟩))) (some ([(opJudge, 1)], 3)) := by rw [hw3]; exact ec_err (hSn.up (balloc (bnil w1) _)) (isErr_new (Nat.le_refl _))
        clear hw3 hSn
        clear v_h0
        have T7 := T6.up hb3
        clear T6
        have HE3 := Lib.hid he3
        clear hb3 he3
        go_wp2
        go_ret2
        rw [HOD.out.1, HOD.out.2]
        exact ⟨_, rfl, HE3.out, T7.out.1.1.1.2⟩
    obtain ⟨h, rfl⟩ : ∃ h' : Nat, h = (h' : Int) := ⟨h.toNat, by omega⟩
    have hh1 : 1 ≤ h := by omega
    have hh4 : h ≤ 4 := by omega
    have hhA : ¬ (h : Int) < 1 := by omega
    have hhB : ¬ (4 : Int) < (h : Int) := by omega
    obtain ⟨i, hi⟩ : ∃ i, idxI (jcB h) [a, b, c] = i := ⟨_, rfl⟩
    have hib := idxI_bd (jcB h) [a, b, c]
    rw [hi] at hib
    obtain ⟨hi1, hi2⟩ := hib
    have hi3 : i ≤ 3 := hi2
    have HI := Lib.hid hi
    have hmf : ∀ (fn : Fn) (first cap : Array Value) (w : World), (Instr.makeFunc fn first cap).run Tryd.prog w = .ok (.func fn first cap) w := fun _ _ _ _ => rfl
    by_cases c3 : 0 ≤ i
    · skip
      have hod : jcD t h a b c = some ([(opJudge, 2 + i)], 3) := by unfold jcD; rw [htd]; exact (if_neg (by omega)).trans (by rw [HI.out, if_pos c3])
      have HOD := Lib.hid (And.intro (jcO_er hod) hod)
      have iw : IntKind.i64.wrap (2 + i) = 2 + i := IntWalk.i64_in _ (by omega)
      clear hod htd hi
      go_enter Tryd.func48, Tryd.ntmps48
      go_wp2_with fail
      rw [HWb.out]
      refine (plcheck_ok aT nT cT t Wb R T5.out.1.1.2 T5.out.1.2 hmT HT.out).mono ?_; rintro e w1 ⟨rfl, hbw1⟩
      have T6 := T5.up hbw1
      clear T5
      have hv1 : w1.cell? ⟨W.heap.size, 0, none⟩ = some (.int .i64 h) := T6.out.2
      obtain ⟨w2, hw2⟩ : ∃ w2, w1.alloc (.cells #[.int .i64 a, .int .i64 b, .int .i64 c] 3) = w2 := ⟨_, rfl⟩
      have hbw2 : Below w1.heap.size w1 w2 := by rw [← hw2]; exact balloc (bnil w1) _
      have T7 := T6.up hbw2
      clear T6
      have Hw2 := Lib.hid hw2
      clear hw2 hbw2
      have hlr : RK .i64 w2 (some ⟨w1.heap.size, 0, none⟩) 3 [a, b, c] := by rw [← Hw2.out]; exact litRK3 w1 [a, b, c]
      have hcall : Calls Tryd.prog 80 #[.slice (some ⟨w1.heap.size, 0, none⟩) 3 3, .func (.func 92) #[] #[.pointer (some ⟨W.heap.size, 0, none⟩)]] w2 fun e w' => e = .returned (.int .i64 i) ∧ ∃ m, w' = w2.drewN m := by
        have := indexFunc_any (some ⟨w1.heap.size, 0, none⟩) 3 3 [a, b, c] 92 #[.pointer (some ⟨W.heap.size, 0, none⟩)] (jcB h) w2 hlr (by unfold maxLen; omega) (enters_of Tryd.func92 (by kernel_rfl) rfl) (jcol1 h W.heap.size w2 hh4 (T7.out.2))
        rwa [HI.out] at this
      have HCALL := Lib.hid hcall
      clear hcall hlr
      go_wp2_with fail
      rw [Hw2.out]
      refine HCALL.out.mono ?_; rintro e w9 ⟨rfl, m, rfl⟩
      clear hv1
      obtain ⟨w3, hw3⟩ : ∃ w3, w2.drewN m = w3 := ⟨_, rfl⟩
      rw [hw3]
      have hbw3 : Below w2.heap.size w2 w3 := by rw [← hw3]; exact bdrewN (bnil w2) m
      clear hw3
      have T8 := T7.up hbw3
      clear T7
      have hSn := T8.out.1.1.2
      go_wp2_with fail
      refine (judge_wrong _ _ _ R hSn.glob rfl).mono ?_; rintro e w4 ⟨rfl, hw3⟩
      have hb3 : Below w3.heap.size w3 w4 := by rw [hw3]; exact balloc (bnil w3) _
      have he3 : EC R w4 (.iface 117 (.pointer (some ⟨w3.heap.size, 0, none⟩))) (some ([(opJudge, 2 + i)], 3)) := by rw [hw3]; exact ec_err (hSn.up (balloc (bnil w3) _)) (isErr_new (Nat.le_refl _))
      clear hw3 hSn
      have T9 := T8.up hb3
      clear T8
      have HE3 := Lib.hid he3
      clear hb3 he3
      go_wp2
      go_ret2
      rw [HOD.out.1, HOD.out.2]
      exact ⟨_, rfl, HE3.out, T9.out.1.1.1.2⟩
    · skip
      have hod : jcD t h a b c = none := by unfold jcD; rw [htd]; exact (if_neg (by omega)).trans (by rw [HI.out, if_neg c3])
      obtain ⟨h9, a, b, c, hh9, rfl, rfl, rfl, _, _, _, hab, hbb, hcb⟩ := jcD_none hod
      obtain rfl : h = h9 := by omega
      have hM64 : 4 * 2 ^ h ≤ 64 := by
        have := Nat.pow_le_pow_right (n := 2) (by omega) hh4
        have h2 : (2 : Nat) ^ 4 = 16 := by decide
        omega
      have hoo : jcO t h a b c = madeV t a b c h := by unfold jcO; rw [if_pos hod]; simp only [Int.toNat_natCast]
      have HOD := Lib.hid (And.intro hoo hod)
      have ha4 : a < 1024 := by omega
      have hb4 : b < 1024 := by omega
      have hc4 : c < 1024 := by omega
      clear hod htd hi hh9 hab hbb hcb hoo
      obtain rfl : nT = 512 := (T5.out.1.2).len.trans HT.out.len
      obtain ⟨ab, ao, hab0, hab1, _⟩ := (T5.out.1.2).addr (by omega)
      subst hab0
      clear hab1
      go_enter Tryd.func48, Tryd.ntmps48
      go_wp2_with fail
      rw [HWb.out]
      refine (plcheck_ok (some ⟨ab, ao, none⟩) 512 cT t Wb R T5.out.1.1.2 T5.out.1.2 hmT HT.out).mono ?_; rintro e w1 ⟨rfl, hbw1⟩
      have T6 := T5.up hbw1
      clear T5
      have hv1 : w1.cell? ⟨W.heap.size, 0, none⟩ = some (.int .i64 h) := T6.out.2
      obtain ⟨w2, hw2⟩ : ∃ w2, w1.alloc (.cells #[.int .i64 a, .int .i64 b, .int .i64 c] 3) = w2 := ⟨_, rfl⟩
      have hbw2 : Below w1.heap.size w1 w2 := by rw [← hw2]; exact balloc (bnil w1) _
      have T7 := T6.up hbw2
      clear T6
      have Hw2 := Lib.hid hw2
      clear hw2 hbw2
      have hlr : RK .i64 w2 (some ⟨w1.heap.size, 0, none⟩) 3 [a, b, c] := by rw [← Hw2.out]; exact litRK3 w1 [a, b, c]
      have hcall : Calls Tryd.prog 80 #[.slice (some ⟨w1.heap.size, 0, none⟩) 3 3, .func (.func 92) #[] #[.pointer (some ⟨W.heap.size, 0, none⟩)]] w2 fun e w' => e = .returned (.int .i64 i) ∧ ∃ m, w' = w2.drewN m := by
        have := indexFunc_any (some ⟨w1.heap.size, 0, none⟩) 3 3 [a, b, c] 92 #[.pointer (some ⟨W.heap.size, 0, none⟩)] (jcB h) w2 hlr (by unfold maxLen; omega) (enters_of Tryd.func92 (by kernel_rfl) rfl) (jcol1 h W.heap.size w2 hh4 (T7.out.2))
        rwa [HI.out] at this
      have HCALL := Lib.hid hcall
      clear hcall hlr
      go_wp2_with fail
      rw [Hw2.out]
      refine HCALL.out.mono ?_; rintro e w9 ⟨rfl, m, rfl⟩
      clear hv1
      obtain ⟨w3, hw3⟩ : ∃ w3, w2.drewN m = w3 := ⟨_, rfl⟩
      rw [hw3]
      have hbw3 : Below w2.heap.size w2 w3 := by rw [← hw3]; exact bdrewN (bnil w2) m
      clear hw3
      have T8 := T7.up hbw3
      clear T7
      have v_h0 : w3.cell? ⟨W.heap.size, 0, none⟩ = some (.int .i64 h) := T8.out.2
      obtain ⟨_, _, hq0, habl, _⟩ := (T8.out.1.2).addr (by omega)
      cases hq0
      have v_h9 : (w3.alloc (.cells #[.slice (some ⟨ab, ao, none⟩) 512 cT, .int .i64 0] 137)).cell? ⟨W.heap.size, 0, none⟩ = some (.int .i64 h) := al000 v_h0
      go_wp2_with fail
      obtain ⟨g, hg⟩ : ∃ g, w3.heap.size = g := ⟨_, rfl⟩
      obtain ⟨w4, hw4⟩ : ∃ w4, w3.alloc (.cells #[.slice (some ⟨ab, ao, none⟩) 512 cT, .int .i64 0] 137) = w4 := ⟨_, rfl⟩
      have HTB0 : Hid (TB w4 g (some ⟨ab, ao, none⟩) 512 cT 0) := by show TB _ _ _ _ _ _; rw [← hw4, ← hg]; exact heap_alloc_new w3 _
      have HBB0 : Hid (Below g w3 w4) := by rw [← hw4, ← hg]; exact balloc (bnil w3) _
      have HG := Lib.hid hg
      have hne : ab ≠ g := by omega
      rw [hw4, hg]
      clear hw4 hg habl v_h0 v_h9
      go_loopw [15, 45] (fun ox ix wr => ∃ y : Nat, y ≤ h ∧ ix = .int .i64 (y : Nat) ∧ ox = .int .i64 ((madeV t a b c y : Nat) : Int) ∧ TB wr g (some ⟨ab, ao, none⟩) 512 cT y ∧ Below g w3 wr) (fun _ ix _ => h - (intOf ix).toNat)
      case atStart => exact ⟨0, by omega, rfl, rfl, HTB0.out, HBB0.out⟩
      case round =>
        obtain ⟨y, hy, rfl, rfl, hz, hb⟩ := hrel
        have HZ := Lib.hid hz
        have HB := Lib.hid hb
        have hb0 : Below w3.heap.size w3 wr := by rw [HG.out]; exact hb
        clear hz hb HTB0 HBB0
        have T9 := T8.up hb0
        clear T8
        clear hb0
        by_cases hyh : y < h
        · skip
          obtain ⟨s, hs, hs1⟩ := symF_bit HT.out a b c y
          have hml := madeV_lt HT.out a b c y
          have hm1 : madeV t a b c (y + 1) = madeV t a b c y ||| s * 2 ^ y := by
            rw [made_or hml]
            show _ + (symF t a b c y).toNat * 2 ^ y = _
            rw [hs, Int.toNat_natCast]
          have hp16 : 2 ^ y ≤ 16 := by
            have := Nat.pow_le_pow_right (n := 2) (by omega) (show y ≤ 4 by omega)
            have h2 : (2 : Nat) ^ 4 = 16 := by decide
            omega
          obtain ⟨ov, hov⟩ : ∃ ov, madeV t a b c y = ov := ⟨_, rfl⟩
          rw [hov] at hml hm1 ⊢
          obtain ⟨sv, hsv⟩ : ∃ sv, s * 2 ^ y = sv := ⟨_, rfl⟩
          have hsvb : sv ≤ 16 := by rw [← hsv]; exact Nat.le_trans (Nat.mul_le_mul hs1 hp16) (by omega)
          have hsvI : (s : Int) * 2 ^ y = (sv : Int) := by rw [← hsv, Int.natCast_mul, Int.natCast_pow]; rfl
          have hsvw : IntKind.i64.wrap (sv : Int) = (sv : Int) := IntWalk.i64_in _ (by omega)
          rw [hsv] at hm1
          have hor := or_i64 (a := ov) (b := sv) (by omega) (by omega)
          have HM1 := Lib.hid hm1
          have y0 : (0 : Int) ≤ (y : Int) := by omega
          have y64 : (y : Int) ≤ 64 := by omega
          have y1 : (y : Int) < (h : Int) := by omega
          have yw : IntKind.i64.wrap ((y : Int) + 1) = (y : Int) + 1 := IntWalk.i64_in _ (by omega)
          have hCj := jat_any g ab ao cT t y y a b c wr hne T9.out.1.2 HZ.out (by omega) (by omega) ha4 hb4 hc4
          rw [hs] at hCj
          have HCJ := Lib.hid hCj
          have hgl := heap_ltT HZ.out
          clear hov hsv hm1 hCj hs
          go_wp2_with fail
          refine HCJ.out.mono ?_; rintro e w6 ⟨rfl, hz6, hg6⟩
          have HZ6 := Lib.hid hz6
          have HB6 : Hid (Below g w3 w6) := HB.out.grown hg6 (Nat.le_of_lt hgl) (fun k e => by cases e; exact Nat.le_refl _)
          clear hz6 hg6
          go_wp2
          go_roundw
          case rel => exact ⟨y + 1, by omega, by go_num, by rw [HM1.out], HZ6.out, HB6.out⟩
          case measure => simp [intOf]; omega
        · skip
          obtain rfl : y = h := by omega
          have y1 : ¬ (y : Int) < (y : Int) := by omega
          go_wp2
          go_ret2
          rw [HOD.out.1, HOD.out.2]
          exact ⟨_, rfl, rfl, T9.out.1.1.1.2⟩
end Go.Proofs.YtocfkmdoalhjmaaDoor
