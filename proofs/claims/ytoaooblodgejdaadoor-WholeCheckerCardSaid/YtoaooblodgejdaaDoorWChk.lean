/- edentop.WholeChecker returns true. -/
import Derived.Test.YtoaooblodgejdaaDoorWPred
import Derived.Test.YtoaooblodgejdaaDoorEvC
import Derived.Test.YtoaooblodgejdaaDoorJdgL
namespace Go.Proofs.YtoaooblodgejdaaDoor
open Go.RowKit
set_option linter.unusedVariables false
set_option maxRecDepth 100000

/-- the search with 2^100 tries where there is no predecessor -/
theorem seek_huge {t l : List Int} {w h : Nat} (ht : IsTab t) (hp : IsPatch w h l) (w8 : w ≤ 8) (h4 : h ≤ 4) (hno : ∀ v, ¬ Pred t (colL w h l) h (4 * 2 ^ h) w v) : (seekF t (colL w h l) h (4 * 2 ^ h) w (granted (2 ^ 100))).2 = some false := by
  have hs := seek_end ht hp w8 h4 (granted (2 ^ 100))
  have hb := (enough_le w8 h4).2
  have e1 : granted (2 ^ 100) = 1099511627776 := by decide
  generalize seekF t (colL w h l) h (4 * 2 ^ h) w (granted (2 ^ 100)) = X at hs ⊢
  obtain ⟨S, o⟩ := X
  cases o with
  | none => have := (hs.err rfl).2; omega
  | some o => cases o with
    | true => obtain ⟨v, _, _, hv, _⟩ := hs.patch rfl; exact absurd hv (hno v)
    | false => rfl
set_option maxHeartbeats 32000000 in
theorem whole_chk (w h : Int) (a aT aB : Option Addr) (n c nT cT cB : Nat) (l t bs : List Int) (W : World) (R : Nat → Addr) (hE : Sent W R) (hR : RK .i64 W a n l) (hm : n ≤ maxLen) (hx : I64 l) (hT : RK .i64 W aT nT t) (hmT : nT ≤ maxLen) (hBs : RK .u8 W aB bs.length bs) (hBr : ∀ x ∈ bs, 0 ≤ x ∧ x ≤ 255) (hBl : bs.length ≤ maxLen) :
    Calls Tryd.prog 12 #[.slice aT nT cT, patV w h a n c, .slice aB bs.length cB] W (TrueBelow W) := by
  obtain ⟨jn, je, hj⟩ : ∃ jn je, judgeF t w h l bs = (jn, je) := ⟨_, _, rfl⟩
  have c_j := fun W aT S (hS : Sent W S) (hR : RK .i64 W a n l) (hT : RK .i64 W aT nT t) (hBs : RK .u8 W aB bs.length bs) => judge_any w h a aT aB n c nT cT cB l t bs W S hS hR hm hx hT hmT hBs hBr hBl
  simp only [hj] at c_j
  have HC := Lib.hid c_j
  have hjl := @judgeF_le t w h l bs
  rw [hj] at hjl
  simp only at hjl
  have HJL := Lib.hid hjl
  have HI6 := Lib.hid hx
  clear c_j hjl
  have T0 := Tk.nil W
  have T1 := T0.add (fun wv => Below W.heap.size W wv) (bnil W)
  clear T0
  have T2 := T1.add (fun wv => Sent wv R) (hE)
  clear T1
  have T3 := T2.add (fun wv => RK .i64 wv a n l) (hR)
  clear T2
  have T4 := T3.add (fun wv => RK .i64 wv aT nT t) (hT)
  clear T3
  have T5 := T4.add (fun wv => RK .u8 wv aB bs.length bs) (hBs)
  clear T4
  clear hE hR hx hT hBs hBr
  cases je with
  | some x =>
    clear hj
    obtain ⟨Wb, hWb⟩ : ∃ Wb, W.alloc (.cells #[.int .i64 w, .int .i64 h, .slice a n c] 24) = Wb := ⟨_, rfl⟩
    have hbWb : Below W.heap.size W Wb := by rw [← hWb]; exact balloc (bnil W) _
    have T6 := T5.up hbWb
    clear T5
    have T7 := T6.add (fun wv => wv.cell? ⟨W.heap.size, 0, none⟩ = some (.int .i64 w) ∧ wv.cell? ⟨W.heap.size, 1, none⟩ = some (.int .i64 h) ∧ wv.cell? ⟨W.heap.size, 2, none⟩ = some (.slice a n c)) (by rw [← hWb]; exact ⟨cnw (by simp) rfl, cnw (by simp) rfl, cnw (by simp) rfl⟩)
    clear T6
    have HWb := Lib.hid hWb
    clear hWb hbWb
    go_enter Tryd.func12, Tryd.ntmps12
    go_wp2_with fail
    rw [HWb.out]
    refine (seeks_any Wb R T7.out.1.1.1.1.2).mono ?_; rintro e w0 ⟨rfl, hbw0⟩
    have T8 := T7.up hbw0
    clear T7
    by_cases hv : (30000 : Int) < (bs.length : Int)
    · skip
      go_wp2
      go_ret
      exact ⟨rfl, T8.out.1.1.1.1.1.2⟩
    have v_p0 : w0.cell? ⟨W.heap.size, 0, none⟩ = some (.int .i64 w) := T8.out.2.1
    have v_p1 : w0.cell? ⟨W.heap.size, 1, none⟩ = some (.int .i64 h) := T8.out.2.2.1
    have v_p2 : w0.cell? ⟨W.heap.size, 2, none⟩ = some (.slice a n c) := T8.out.2.2.2
    go_wp2_with fail
    refine (small_any w h a n c w0).mono ?_; rintro e w1 ⟨rfl, hbw1⟩
    clear v_p0 v_p1 v_p2
    have T9 := T8.up hbw1
    clear T8
    by_cases hs : (h : Int) < 3 ∨ (h : Int) = 3 ∧ (w : Int) < 4
    rotate_left
    · skip
      have hd := decide_eq_false hs
      rw [hd]
      clear hd hs
      go_wp2
      go_ret
      exact ⟨rfl, T9.out.1.1.1.1.1.2⟩
    have hd := decide_eq_true hs
    rw [hd]
    clear hd
    by_cases hw1 : (100 : Int) < (w : Int)
    · skip
      have v_p0 : w1.cell? ⟨W.heap.size, 0, none⟩ = some (.int .i64 w) := T9.out.2.1
      have v_p1 : w1.cell? ⟨W.heap.size, 1, none⟩ = some (.int .i64 h) := T9.out.2.2.1
      have v_p2 : w1.cell? ⟨W.heap.size, 2, none⟩ = some (.slice a n c) := T9.out.2.2.2
      go_wp2
      go_ret
      exact ⟨rfl, T9.out.1.1.1.1.1.2⟩
    have v_p0 : w1.cell? ⟨W.heap.size, 0, none⟩ = some (.int .i64 w) := T9.out.2.1
    have v_p1 : w1.cell? ⟨W.heap.size, 1, none⟩ = some (.int .i64 h) := T9.out.2.2.1
    have v_p2 : w1.cell? ⟨W.heap.size, 2, none⟩ = some (.slice a n c) := T9.out.2.2.2
    go_wp2_with fail
    refine (HC.out w1 aT R T9.out.1.1.1.1.2 T9.out.1.1.1.2 T9.out.1.1.2 T9.out.1.2).mono ?_; rintro e w2 ⟨ev, rfl, he, hbw2⟩
    clear v_p0 v_p1 v_p2
    have T10 := T9.up hbw2
    clear T9
    have h3 : h < 4 := by omega
    by_cases h0 : 0 < h
    rotate_left
    · skip
      have hj0 : jn = 0 := by
        rcases HJL.out with h0 | ⟨h2, h3, h5, h6, h7⟩
        · exact h0
        · omega
      subst hj0
      have hle0 : h ≤ 0 := by omega
      have q1 : IntKind.i64.wrap ((bs.length : Int) + 1) = (bs.length : Int) + 1 := IntWalk.i64_in _ (by omega)
      have q2 : IntKind.i64.wrap (8 * ((bs.length : Int) + 1)) = 8 * ((bs.length : Int) + 1) := IntWalk.i64_in _ (by omega)
      have q4 : IntKind.i64.wrap (8 * ((bs.length : Int) + 1) * 2) = 8 * ((bs.length : Int) + 1) * 2 := IntWalk.i64_in _ (by omega)
      have q5 : IntKind.i64.wrap (8 * ((bs.length : Int) + 1) * 2 * 4) = 8 * ((bs.length : Int) + 1) * 2 * 4 := IntWalk.i64_in _ (by omega)
      have q6 : ¬ 8 * ((bs.length : Int) + 1) * 2 * 4 < 0 := by omega
      have q7 : ¬ ((0 : Nat) : Int) < 0 := by omega
      have v_p0 : w2.cell? ⟨W.heap.size, 0, none⟩ = some (.int .i64 w) := T10.out.2.1
      have v_p1 : w2.cell? ⟨W.heap.size, 1, none⟩ = some (.int .i64 h) := T10.out.2.2.1
      have v_p2 : w2.cell? ⟨W.heap.size, 2, none⟩ = some (.slice a n c) := T10.out.2.2.2
      obtain ⟨t9, p9, rfl⟩ := Chain.iface he
      clear he
      go_wp2
      go_ret
      exact ⟨rfl, T10.out.1.1.1.1.1.2⟩
    obtain ⟨HN, rfl⟩ : ∃ HN : Nat, h = (HN : Int) := ⟨h.toNat, by omega⟩
    have hH4 : HN ≤ 4 := by omega
    have hle : jn ≤ 8 * (bs.length + 1) * (HN + 2) * (4 * 2 ^ HN) := by
      rcases HJL.out with h0 | ⟨h2, h3, h5, h6, h7⟩
      · omega
      · obtain rfl : h2 = HN := by omega
        exact h7
    obtain ⟨M, hM⟩ : ∃ M, 4 * 2 ^ HN = M := ⟨_, rfl⟩
    have hM64 : M ≤ 64 := by rw [← hM]; exact (m_le hH4).1
    have hMI : (4 : Int) * 2 ^ HN = (M : Int) := by rw [← hM, Int.natCast_mul, Int.natCast_pow]; rfl
    have hMw : IntKind.i64.wrap (M : Int) = (M : Int) := IntWalk.i64_in _ (by omega)
    have h0I : (0 : Int) ≤ (HN : Int) := by omega
    have h64I : (HN : Int) ≤ 64 := by omega
    rw [hM] at hle
    obtain ⟨P, hP⟩ : ∃ P, 8 * (bs.length + 1) * (HN + 2) = P := ⟨_, rfl⟩
    have hP2 : P ≤ 8 * 30001 * 6 := by rw [← hP]; exact Nat.mul_le_mul (Nat.mul_le_mul_left _ (by omega)) (by omega)
    obtain ⟨Q, hQ⟩ : ∃ Q, P * M = Q := ⟨_, rfl⟩
    have hQ2 : Q ≤ 1440048 * 64 := by rw [← hQ]; exact Nat.mul_le_mul (by omega) hM64
    rw [hP, hQ] at hle
    have hPI : (8 : Int) * ((bs.length : Int) + 1) * ((HN : Int) + 2) = (P : Int) := by rw [← hP, Int.natCast_mul, Int.natCast_mul]; rfl
    have hQI : (P : Int) * (M : Int) = (Q : Int) := by rw [← hQ, Int.natCast_mul]
    have q1 : IntKind.i64.wrap ((bs.length : Int) + 1) = (bs.length : Int) + 1 := IntWalk.i64_in _ (by omega)
    have q2 : IntKind.i64.wrap (8 * ((bs.length : Int) + 1)) = 8 * ((bs.length : Int) + 1) := IntWalk.i64_in _ (by omega)
    have q3 : IntKind.i64.wrap ((HN : Int) + 2) = (HN : Int) + 2 := IntWalk.i64_in _ (by omega)
    have q4 : IntKind.i64.wrap (P : Int) = (P : Int) := IntWalk.i64_in _ (by omega)
    have q5 : IntKind.i64.wrap (Q : Int) = (Q : Int) := IntWalk.i64_in _ (by omega)
    have q6 : ¬ (Q : Int) < (jn : Int) := by omega
    have q7 : ¬ (jn : Int) < 0 := by omega
    clear hM hP hQ hle
    have v_p0 : w2.cell? ⟨W.heap.size, 0, none⟩ = some (.int .i64 w) := T10.out.2.1
    have v_p1 : w2.cell? ⟨W.heap.size, 1, none⟩ = some (.int .i64 (HN : Nat)) := T10.out.2.2.1
    have v_p2 : w2.cell? ⟨W.heap.size, 2, none⟩ = some (.slice a n c) := T10.out.2.2.2
    obtain ⟨t9, p9, rfl⟩ := Chain.iface he
    clear he
    go_wp2
    go_ret
    exact ⟨rfl, T10.out.1.1.1.1.1.2⟩
  | none =>
    obtain ⟨w, h, rfl, rfl, hp, ht, hw8, hh4, hno⟩ := judge_sound (t := t) (w := w) (h := h) (l := l) (bs := bs) (by rw [hj])
    have HPP := Lib.hid hp
    have HT := Lib.hid ht
    have hsk := seek_huge ht hp hw8 hh4 hno
    have hcn : cntN t (colL w h l) h (4 * 2 ^ h) w = 0 := Decidable.byContradiction fun q => by
      obtain ⟨v, hv⟩ := (cntN_pos (m_le hh4).2 (m_le hh4).1 hw8).1 q
      exact hno v hv
    have HSK := Lib.hid hsk
    have HCN := Lib.hid hcn
    obtain rfl : nT = 512 := (T5.out.1.2).len.trans ht.len
    clear hno hp ht hj hsk hcn
    obtain ⟨bT, oT, hbo, _⟩ := (T5.out.1.2).addr (by omega)
    subst hbo
    obtain ⟨Wb, hWb⟩ : ∃ Wb, W.alloc (.cells #[.int .i64 w, .int .i64 h, .slice a n c] 24) = Wb := ⟨_, rfl⟩
    have hbWb : Below W.heap.size W Wb := by rw [← hWb]; exact balloc (bnil W) _
    have T6 := T5.up hbWb
    clear T5
    have T7 := T6.add (fun wv => wv.cell? ⟨W.heap.size, 0, none⟩ = some (.int .i64 w) ∧ wv.cell? ⟨W.heap.size, 1, none⟩ = some (.int .i64 h) ∧ wv.cell? ⟨W.heap.size, 2, none⟩ = some (.slice a n c)) (by rw [← hWb]; exact ⟨cnw (by simp) rfl, cnw (by simp) rfl, cnw (by simp) rfl⟩)
    clear T6
    have HWb := Lib.hid hWb
    clear hWb hbWb
    go_enter Tryd.func12, Tryd.ntmps12
    go_wp2_with fail
    rw [HWb.out]
    refine (seeks_any Wb R T7.out.1.1.1.1.2).mono ?_; rintro e w0 ⟨rfl, hbw0⟩
    have T8 := T7.up hbw0
    clear T7
    by_cases hv : (30000 : Int) < (bs.length : Int)
    · skip
      go_wp2
      go_ret
      exact ⟨rfl, T8.out.1.1.1.1.1.2⟩
    have v_p0 : w0.cell? ⟨W.heap.size, 0, none⟩ = some (.int .i64 w) := T8.out.2.1
    have v_p1 : w0.cell? ⟨W.heap.size, 1, none⟩ = some (.int .i64 h) := T8.out.2.2.1
    have v_p2 : w0.cell? ⟨W.heap.size, 2, none⟩ = some (.slice a n c) := T8.out.2.2.2
    go_wp2_with fail
    refine (small_any w h a n c w0).mono ?_; rintro e w1 ⟨rfl, hbw1⟩
    clear v_p0 v_p1 v_p2
    have T9 := T8.up hbw1
    clear T8
    by_cases hs : (h : Int) < 3 ∨ (h : Int) = 3 ∧ (w : Int) < 4
    rotate_left
    · skip
      have hd := decide_eq_false hs
      rw [hd]
      clear hd hs
      go_wp2
      go_ret
      exact ⟨rfl, T9.out.1.1.1.1.1.2⟩
    have hd := decide_eq_true hs
    rw [hd]
    clear hd
    by_cases hw1 : (100 : Int) < (w : Int)
    · skip
      have v_p0 : w1.cell? ⟨W.heap.size, 0, none⟩ = some (.int .i64 w) := T9.out.2.1
      have v_p1 : w1.cell? ⟨W.heap.size, 1, none⟩ = some (.int .i64 h) := T9.out.2.2.1
      have v_p2 : w1.cell? ⟨W.heap.size, 2, none⟩ = some (.slice a n c) := T9.out.2.2.2
      go_wp2
      go_ret
      exact ⟨rfl, T9.out.1.1.1.1.1.2⟩
    have v_p0 : w1.cell? ⟨W.heap.size, 0, none⟩ = some (.int .i64 w) := T9.out.2.1
    have v_p1 : w1.cell? ⟨W.heap.size, 1, none⟩ = some (.int .i64 h) := T9.out.2.2.1
    have v_p2 : w1.cell? ⟨W.heap.size, 2, none⟩ = some (.slice a n c) := T9.out.2.2.2
    go_wp2_with fail
    refine (HC.out w1 (some ⟨bT, oT, none⟩) R T9.out.1.1.1.1.2 T9.out.1.1.1.2 T9.out.1.1.2 T9.out.1.2).mono ?_; rintro e w2 ⟨ev, rfl, he, hbw2⟩
    clear v_p0 v_p1 v_p2
    have T10 := T9.up hbw2
    clear T9
    have h3 : (h : Int) < 4 := by omega
    have h1n := HPP.out.h1
    have h0 : (0 : Int) < (h : Int) := by omega
    have hH4 := hh4
    have hle : jn ≤ 8 * (bs.length + 1) * (h + 2) * (4 * 2 ^ h) := by
      rcases HJL.out with h0 | ⟨h2, h3, h5, h6, h7⟩
      · omega
      · obtain rfl : h2 = h := by omega
        exact h7
    obtain ⟨M, hM⟩ : ∃ M, 4 * 2 ^ h = M := ⟨_, rfl⟩
    have hM64 : M ≤ 64 := by rw [← hM]; exact (m_le hH4).1
    have hMI : (4 : Int) * 2 ^ h = (M : Int) := by rw [← hM, Int.natCast_mul, Int.natCast_pow]; rfl
    have hMw : IntKind.i64.wrap (M : Int) = (M : Int) := IntWalk.i64_in _ (by omega)
    have h0I : (0 : Int) ≤ (h : Int) := by omega
    have h64I : (h : Int) ≤ 64 := by omega
    rw [hM] at hle
    obtain ⟨P, hP⟩ : ∃ P, 8 * (bs.length + 1) * (h + 2) = P := ⟨_, rfl⟩
    have hP2 : P ≤ 8 * 30001 * 6 := by rw [← hP]; exact Nat.mul_le_mul (Nat.mul_le_mul_left _ (by omega)) (by omega)
    obtain ⟨Q, hQ⟩ : ∃ Q, P * M = Q := ⟨_, rfl⟩
    have hQ2 : Q ≤ 1440048 * 64 := by rw [← hQ]; exact Nat.mul_le_mul (by omega) hM64
    rw [hP, hQ] at hle
    have hPI : (8 : Int) * ((bs.length : Int) + 1) * ((h : Int) + 2) = (P : Int) := by rw [← hP, Int.natCast_mul, Int.natCast_mul]; rfl
    have hQI : (P : Int) * (M : Int) = (Q : Int) := by rw [← hQ, Int.natCast_mul]
    have q1 : IntKind.i64.wrap ((bs.length : Int) + 1) = (bs.length : Int) + 1 := IntWalk.i64_in _ (by omega)
    have q2 : IntKind.i64.wrap (8 * ((bs.length : Int) + 1)) = 8 * ((bs.length : Int) + 1) := IntWalk.i64_in _ (by omega)
    have q3 : IntKind.i64.wrap ((h : Int) + 2) = (h : Int) + 2 := IntWalk.i64_in _ (by omega)
    have q4 : IntKind.i64.wrap (P : Int) = (P : Int) := IntWalk.i64_in _ (by omega)
    have q5 : IntKind.i64.wrap (Q : Int) = (Q : Int) := IntWalk.i64_in _ (by omega)
    have q6 : ¬ (Q : Int) < (jn : Int) := by omega
    have q7 : ¬ (jn : Int) < 0 := by omega
    clear hM hP hQ hle
    have v_p0 : w2.cell? ⟨W.heap.size, 0, none⟩ = some (.int .i64 w) := T10.out.2.1
    have v_p1 : w2.cell? ⟨W.heap.size, 1, none⟩ = some (.int .i64 h) := T10.out.2.2.1
    have v_p2 : w2.cell? ⟨W.heap.size, 2, none⟩ = some (.slice a n c) := T10.out.2.2.2
    obtain rfl : ev = .nilIface := he
    go_wp2_with fail
    refine (evcount_ok w h a n c bT oT cT l t w2 R T10.out.1.1.1.1.2 T10.out.1.1.1.2 hm HI6.out T10.out.1.1.2 HT.out HPP.out hw8 hh4).mono ?_; rintro e w3 ⟨gN, nN, rfl, _, hnN, hbw3⟩
    clear v_p0 v_p1 v_p2
    have T11 := T10.up hbw3
    clear T10
    rw [HCN.out] at hnN
    obtain rfl : nN = 0 := hnN.len
    clear hnN
    go_wp2_with fail
    refine ((pow_any 2 100 w3 (by decide) (by omega) : Calls Tryd.prog 24 #[.int .u32 2, .int .i64 100] w3 _)).mono ?_; rintro e w4 ⟨aP, nP, cP, rfl, _, hnP, hbw4⟩
    have T12 := T11.up hbw4
    clear T11
    have T13 := T12.add (fun wv => NR wv aP nP (limbs (2 ^ 100))) (hnP.nr)
    clear T12
    have hPle : nP ≤ cP := hnP.le
    have hPmx : cP ≤ maxLen := hnP.cm
    clear hnP
    have v_p0 : w4.cell? ⟨W.heap.size, 0, none⟩ = some (.int .i64 w) := T13.out.1.2.1
    have v_p1 : w4.cell? ⟨W.heap.size, 1, none⟩ = some (.int .i64 h) := T13.out.1.2.2.1
    have v_p2 : w4.cell? ⟨W.heap.size, 2, none⟩ = some (.slice a n c) := T13.out.1.2.2.2
    go_wp2_with fail
    refine (evsearch_ok w h a n c bT oT cT l t aP nP cP (limbs (2 ^ 100)) w4 R T13.out.1.1.1.1.1.2 T13.out.1.1.1.1.2 hm HI6.out T13.out.1.1.1.2 T13.out.2 hPle hPmx HT.out HPP.out hw8 hh4).mono ?_; rintro e w5 ⟨vf, ev2, rfl, hbw5, hq⟩
    clear v_p0 v_p1 v_p2
    have T14 := T13.up hbw5
    clear T13
    have e0 := HSK.out
    rw [val_limbs] at hq ⊢
    obtain ⟨X, hX⟩ : ∃ X, seekF t (colL w h l) h (4 * 2 ^ h) w (granted (2 ^ 100)) = X := ⟨_, rfl⟩
    rw [hX] at hq e0 ⊢
    obtain ⟨S, o⟩ := X
    obtain rfl : o = some false := e0
    obtain ⟨a8, c8, rfl, rfl, _⟩ : ∃ a c, vf = fndV 2 0 0 none 0 0 a (4 + 3 * S.order.length) c ∧ ev2 = .nilIface ∧ _ := hq
    obtain ⟨LN, hLN⟩ : ∃ LN, 4 + 3 * S.order.length = LN := ⟨_, rfl⟩
    rw [hLN]
    clear hX hLN
    obtain ⟨w6, hw6⟩ : ∃ w6, w5.alloc (.cells #[.int .i64 2, .int .i64 0, .int .i64 0, .slice none 0 0, .slice a8 LN c8] 28) = w6 := ⟨_, rfl⟩
    have hbw6 : Below w5.heap.size w5 w6 := by rw [← hw6]; exact balloc (bnil w5) _
    have T15 := T14.up hbw6
    clear T14
    have T16 := T15.add (fun wv => wv.cell? ⟨w5.heap.size, 0, none⟩ = some (.int .i64 2) ∧ wv.cell? ⟨w5.heap.size, 1, none⟩ = some (.int .i64 0) ∧ wv.cell? ⟨w5.heap.size, 2, none⟩ = some (.int .i64 0) ∧ wv.cell? ⟨w5.heap.size, 3, none⟩ = some (.slice none 0 0) ∧ wv.cell? ⟨w5.heap.size, 4, none⟩ = some (.slice a8 LN c8)) (by rw [← hw6]; exact ⟨cnw (by simp) rfl, cnw (by simp) rfl, cnw (by simp) rfl, cnw (by simp) rfl, cnw (by simp) rfl⟩)
    clear T15
    have Hw6 := Lib.hid hw6
    clear hw6 hbw6
    have v_f0 : (w5.alloc (.cells #[.int .i64 2, .int .i64 0, .int .i64 0, .slice none 0 0, .slice a8 LN c8] 28)).cell? ⟨w5.heap.size, 0, none⟩ = some (.int .i64 2) := by rw [Hw6.out]; exact T16.out.2.1
    have v_f1 : (w5.alloc (.cells #[.int .i64 2, .int .i64 0, .int .i64 0, .slice none 0 0, .slice a8 LN c8] 28)).cell? ⟨w5.heap.size, 1, none⟩ = some (.int .i64 0) := by rw [Hw6.out]; exact T16.out.2.2.1
    have v_f2 : (w5.alloc (.cells #[.int .i64 2, .int .i64 0, .int .i64 0, .slice none 0 0, .slice a8 LN c8] 28)).cell? ⟨w5.heap.size, 2, none⟩ = some (.int .i64 0) := by rw [Hw6.out]; exact T16.out.2.2.2.1
    have v_f3 : (w5.alloc (.cells #[.int .i64 2, .int .i64 0, .int .i64 0, .slice none 0 0, .slice a8 LN c8] 28)).cell? ⟨w5.heap.size, 3, none⟩ = some (.slice none 0 0) := by rw [Hw6.out]; exact T16.out.2.2.2.2.1
    have v_f4 : (w5.alloc (.cells #[.int .i64 2, .int .i64 0, .int .i64 0, .slice none 0 0, .slice a8 LN c8] 28)).cell? ⟨w5.heap.size, 4, none⟩ = some (.slice a8 LN c8) := by rw [Hw6.out]; exact T16.out.2.2.2.2.2
    go_wp2
    rw [Hw6.out]
    go_ret
    exact ⟨rfl, T16.out.1.1.1.1.1.1.1.2⟩
theorem whole_chk_row (aT : Option Addr) (cT : Nat) (t : List Int) (w h : Int) (a : Option Addr) (n c : Nat) (l : List Int) (aB : Option Addr) (cB : Nat) (bs : List Int) (W : World) (R : Nat → Addr) (hE : Sent W R)
    (hR0 : Rd W aT t.length 1 (t.map (Value.int .i64))) (hl0 : t.length ≤ cT) (hz0 : cT * 8 ≤ 140737488351232) (hn0 : aT = none → cT = 0) (hx0 : ∀ x ∈ t, -9223372036854775808 ≤ x ∧ x ≤ 9223372036854775807) (hM : SlI W a n c l) (hx : I64 l)
    (hR2 : Rd W aB bs.length 1 (bs.map (Value.int .u8))) (hl2 : bs.length ≤ cB) (hz2 : cB * 1 ≤ 140737488351232) (hn2 : aB = none → cB = 0) (hx2 : ∀ x ∈ bs, 0 ≤ x ∧ x ≤ 255) :
    Calls Tryd.prog 12 #[.slice aT t.length cT, patV w h a n c, .slice aB bs.length cB] W (TrueBelow W) :=
  whole_chk w h a aT aB n c t.length cT cB l t bs W R hE hM.rk hM.nm hx ⟨rfl, hR0⟩ (by unfold maxLen; omega) ⟨rfl, hR2⟩ hx2 (by unfold maxLen; omega)
end Go.Proofs.YtoaooblodgejdaaDoor
