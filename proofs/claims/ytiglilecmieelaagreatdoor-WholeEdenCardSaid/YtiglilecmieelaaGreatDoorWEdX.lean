/- Plain: the two ways to decide answer the same. WholeEden: the law. -/
import Derived.Test.YtiglilecmieelaaGreatDoorEdnD
import Derived.Test.YtiglilecmieelaaGreatDoorTwiX
import Derived.Test.YtiglilecmieelaaGreatDoorSubX
import Derived.Test.YtiglilecmieelaaGreatDoorEcaA
namespace Go.Proofs.YtiglilecmieelaaGreatDoor
set_option linter.unusedVariables false

theorem lab_lt {k r N : Nat} {tb : List Int} (hI : IsRule k r tb) (hN : tb.length = N * k) : LabK k N (labT tb) := by
  intro i hi
  have h : i < tb.length := by omega
  unfold labT
  rw [List.getD_eq_getElem?_getD, List.getElem?_eq_getElem h]
  have := hI.sym _ (List.getElem_mem h)
  simp only [Option.getD_some]
  omega
theorem len_nodes {k r N : Nat} {tb : List Int} (hI : IsRule k r tb) (hN : N = k ^ (2 * r)) : tb.length = N * k := by
  rw [hI.len, hN, Nat.pow_succ]
/-- with a radius -/
theorem eden_one {k r N : Nat} {tb : List Int} {way : List Nat} {o : Option (List Nat)} (hI : IsRule k r tb) (h1 : 1 ≤ r) (hN : N = k ^ (2 * r)) (hm : MeetRes k N (labT tb) (adjF k N (labT tb)) way) (ho : OntoRes k N (labT tb) o) : o.isNone = true ↔ way = [] := by
  have k1 := hI.k1
  have hN0 : 0 < N := by rw [hN]; exact Nat.pow_pos k1
  have hdv : k ∣ N := by rw [hN]; exact ⟨k ^ (2 * r - 1), by rw [← Nat.pow_succ']; congr 1; omega⟩
  have hr : Reached k N (2 * r) := by rw [hN]; exact reached_pow k1
  rw [onto_iff hN0 ho, eden k1 hN0 (lab_lt hI (len_nodes hI hN)) hr, twin_iff hN0 hdv, (meet_ok hN0 (fun v _ t => adjF_mem hN0 v t) hm).1]
/-- without -/
theorem eden_zero {k : Nat} {tb : List Int} {o : Option (List Nat)} (hI : IsRule k 0 tb) (ho : OntoRes k 1 (labT tb) o) : o.isNone = true ↔ Uniq tb tb.length := by
  have k1 := hI.k1
  have hlen : tb.length = k := by rw [hI.len]; simp
  have hr : Reached k 1 0 := reached_pow (d := 0) k1
  rw [onto_iff (by decide) ho, eden k1 (by decide) (lab_lt hI (by omega)) hr, twin_one]
  have hpos : ∀ i, i < k → 0 ≤ tb.getD i 0 := fun i hi => by
    rw [List.getD_eq_getElem?_getD, List.getElem?_eq_getElem (by omega)]
    exact (hI.sym _ (List.getElem_mem (by omega))).1
  unfold Uniq
  constructor
  · intro h i j hij hj e
    refine h ⟨i, j, by omega, by omega, by omega, ?_⟩
    unfold labT; rw [e]
  · rintro h ⟨c, d, hc, hd, hne, hl⟩
    unfold labT at hl
    have e : tb.getD c 0 = tb.getD d 0 := by have := hpos c hc; have := hpos d hd; omega
    rcases Nat.lt_or_gt_of_ne hne with h1 | h1
    · exact h c d h1 (by omega) e
    · exact h d c h1 (by omega) e.symm
end Go.Proofs.YtiglilecmieelaaGreatDoor
namespace Go.Proofs.YtiglilecmieelaaGreatDoor
open Go.RowKit
set_option linter.unusedVariables false
set_option maxRecDepth 100000

set_option maxHeartbeats 8000000 in
theorem decides_ok (W : World) (R : Nat → Addr) (hE : Env W R) : Calls Tryz.prog 4 #[] W (TrueBelow W) := by
  have HE := Lib.hid hE
  have HOK : Hid (∀ (n : Nat) (w : World) (a : Option Addr) (c : Nat), Below W.heap.size W w → RK .i64 w a 8 (ecaL n 8) → Calls Tryz.prog 5 #[ruleV 2 1 a 8 c] w (OntoAns w 2 4 (ecaL n 8))) := fun n w a c hb hr => onto_ok 2 1 4 a 8 c (ecaL n 8) w R (hE.up hb) hr (eca_rule n) (by decide) (by decide)
  have HFI : Hid (∀ (n : Nat) (w : World) (a : Option Addr) (c : Nat), RK .i64 w a 8 (ecaL n 8) → Calls Tryz.prog 6 #[ruleV 2 1 a 8 c] w fun e w' => ∃ way b a1 n1 c1 a2 n2 c2, e = .returned (.tuple #[.bool b, .slice a1 n1 c1, .slice a2 n2 c2, .nilIface]) ∧ MeetRes 2 4 (labT (ecaL n 8)) (adjF 2 4 (labT (ecaL n 8))) way ∧ (b = true ↔ way = []) ∧ (way ≠ [] → n1 + 1 = 2 * 1 + way.length) ∧ Below w.heap.size w w') := fun n w a c hr => finite_one 2 1 4 a 8 c (ecaL n 8) w hr (eca_rule n) (by decide) (by decide) (by decide)
  clear hE
  go_enter Tryz.func4, Tryz.ntmps4
  go_wp2_with fail
  refine (eca_any 90 W (by decide)).mono ?_; rintro e w1 ⟨a1, c1, rfl, ho1, hb1⟩
  have HB1 := Lib.hid hb1
  have HR1 := Lib.hid ho1.rk
  clear ho1 hb1
  go_wp2_with fail
  refine (HOK.out 90 w1 a1 c1 HB1.out HR1.out).mono ?_
  intro e w2 hres
  obtain ⟨hb2, hres⟩ := hres
  have HB2 := Lib.hid (bstep HB1.out hb2)
  clear hb2
  rcases hres with ⟨rfl, _⟩ | ⟨wrd, af, cf, rfl, hr⟩ | ⟨g, rfl, hr⟩
  rotate_left
  · exact absurd hr onto90_some
  · exact absurd hr onto90_big
  go_wp2_with fail
  refine (eca_any 110 w2 (by decide)).mono ?_; rintro e w3 ⟨a3, c3, rfl, ho3, hb3⟩
  have HB3 := Lib.hid (bstep HB2.out hb3)
  have HR3 := Lib.hid ho3.rk
  clear ho3 hb3
  go_wp2_with fail
  refine (HOK.out 110 w3 a3 c3 HB3.out HR3.out).mono ?_
  intro e w4 hres
  obtain ⟨hb4, hres⟩ := hres
  have HB4 := Lib.hid (bstep HB3.out hb4)
  clear hb4
  rcases hres with ⟨rfl, hr⟩ | ⟨wrd, af, cf, rfl, hr⟩ | ⟨g, rfl, hr⟩
  · exact absurd hr onto110_none
  rotate_left
  · exact absurd hr onto110_big
  have hw5 := onto110_len hr
  rw [hw5]
  clear hr hw5
  go_wp2_with fail
  refine (eca_any 90 w4 (by decide)).mono ?_; rintro e w5 ⟨a5, c5, rfl, ho5, hb5⟩
  have HB5 := Lib.hid (bstep HB4.out hb5)
  have HR5 := Lib.hid ho5.rk
  clear ho5 hb5
  go_wp2_with fail
  refine (HFI.out 90 w5 a5 c5 HR5.out).mono ?_; rintro e w6 ⟨way, b, p1, n1, q1, p2, n2, q2, rfl, hm, hbw, _, hb6⟩
  have hway : way = [] := (meet_ok (by decide) (fun v _ t => adjF_mem (by decide) v t) hm).1.2 eca90_no
  obtain rfl : b = true := hbw.2 hway
  have HB6 := Lib.hid (bstep HB5.out hb6)
  clear hm hbw hway hb6
  go_wp2_with fail
  refine (eca_any 0 w6 (by decide)).mono ?_; rintro e w7 ⟨a7, c7, rfl, ho7, hb7⟩
  have HB7 := Lib.hid (bstep HB6.out hb7)
  have HR7 := Lib.hid ho7.rk
  clear ho7 hb7
  go_wp2_with fail
  refine (HFI.out 0 w7 a7 c7 HR7.out).mono ?_; rintro e w8 ⟨way, b, p3, n3, q3, p4, n4, q4, rfl, hm, hbw, hn3, hb8⟩
  have hlen := eca0_way hm
  have hne : way ≠ [] := fun e => by rw [e] at hlen; cases hlen
  have hb0 : b = false := by
    cases b with
    | false => rfl
    | true => exact absurd (hbw.1 rfl) hne
  subst hb0
  obtain rfl : n3 = 5 := by have := hn3 hne; omega
  have HB8 := Lib.hid (bstep HB7.out hb8)
  clear hm hbw hlen hne hn3 hb8
  go_wp2
  go_ret
  exact ⟨rfl, HB8.out⟩
set_option maxHeartbeats 8000000 in
theorem whole_eden_row (k r : Int) (a : Option Addr) (T c : Nat) (tb : List Int) (W : World) (R : Nat → Addr) (hE : Env W R) (hT : SlI W a T c tb) :
    Calls Tryz.prog 3 #[ruleV k r a T c] W (TrueBelow W) := by
  obtain ⟨w0, hw0⟩ : ∃ w0, W.alloc (.cells #[.int .i64 k, .int .i64 r, .slice a T c] 24) = w0 := ⟨_, rfl⟩
  have HBX : Hid (Below W.heap.size W w0) := by show Below _ _ _; rw [← hw0]; exact balloc (bnil W) _
  have hz : w0.heap[W.heap.size]? = some (.cells #[.int .i64 k, .int .i64 r, .slice a T c] 24) := by rw [← hw0]; exact heap_alloc_new W _
  have HZ := Lib.hid hz
  have HW0 := Lib.hid hw0
  have HDC := Lib.hid (decides_ok w0 R (hE.up HBX.out))
  have HE := Lib.hid hE
  have HT := Lib.hid hT
  have HUP : Hid (∀ w, Below w0.heap.size w0 w → Below W.heap.size W w ∧ w.cell? ⟨W.heap.size, 0, none⟩ = some (.int .i64 k) ∧ w.cell? ⟨W.heap.size, 1, none⟩ = some (.int .i64 r) ∧ w.cell? ⟨W.heap.size, 2, none⟩ = some (.slice a T c)) := fun w hb => by
    obtain ⟨⟨h1, h2, h3⟩, _⟩ := cells3P ((hb.block _ (heap_ltR HZ.out)).trans HZ.out)
    exact ⟨bstep HBX.out hb, h1, h2, h3⟩
  clear hz hw0 hE hT
  go_enter Tryz.func3, Tryz.ntmps3
  go_wp2_with fail
  rw [HW0.out]
  refine HDC.out.mono ?_; rintro e w1 ⟨rfl, hb1⟩
  obtain ⟨hbw1, x0, x1, x2⟩ := HUP.out w1 hb1
  have HB1 := Lib.hid hb1
  have HBW1 := Lib.hid hbw1
  clear hb1 hbw1
  go_upto_region 3 with (fail)
  by_cases hgood : ∃ kn rn : Nat, k = (kn : Int) ∧ r = (rn : Int) ∧ IsRule kn rn tb ∧ T ≤ 256
  · obtain ⟨kn, rn, rfl, rfl, hI, hT256⟩ := hgood
    have HI := Lib.hid hI
    clear hI
    go_wp2_with fail
    refine (onto_ok kn rn (kn ^ (2 * rn)) a T c tb w1 R (HE.out.up HBW1.out) (HT.out.rk.up HBW1.out) HI.out hT256 rfl).mono ?_
    intro e w2 hans
    obtain ⟨hb2, hans⟩ := hans
    clear x0 x1 x2
    obtain ⟨hbw2, x0, x1, x2⟩ := HUP.out w2 (bstep HB1.out hb2)
    have HB2 := Lib.hid hbw2
    clear hb2 hbw2
    have HFN : Hid (Calls Tryz.prog 6 #[ruleV kn rn a T c] w2 fun e w' => ∃ b a1 n1 c1 a2 n2 c2, e = .returned (.tuple #[.bool b, .slice a1 n1 c1, .slice a2 n2 c2, .nilIface]) ∧ (∀ o, OntoRes kn (kn ^ (2 * rn)) (labT tb) o → (o.isNone = true ↔ b = true)) ∧ Below w2.heap.size w2 w') := by
      show Calls _ _ _ _ _
      by_cases h1 : 1 ≤ rn
      · refine (finite_one kn rn (kn ^ (2 * rn)) a T c tb w2 (HT.out.rk.up HB2.out) HI.out hT256 h1 rfl).mono ?_
        rintro e w3 ⟨way, b, a1, n1, c1, a2, n2, c2, rfl, hm, hb, _, hbl⟩
        exact ⟨b, a1, n1, c1, a2, n2, c2, rfl, fun o ho => (eden_one HI.out h1 rfl hm ho).trans hb.symm, hbl⟩
      · obtain rfl : rn = 0 := by omega
        refine (finite_zero kn a T c tb w2 (HT.out.rk.up HB2.out) HI.out hT256).mono ?_
        rintro e w3 ⟨b, a1, n1, c1, a2, n2, c2, rfl, hb, hbl⟩
        refine ⟨b, a1, n1, c1, a2, n2, c2, rfl, fun o ho => ?_, hbl⟩
        have hl : T = tb.length := HT.out.rk.len
        rw [hb, hl]
        exact eden_zero HI.out ho
    rcases hans with ⟨rfl, hr⟩ | ⟨wrd, af, cf, rfl, hr⟩ | ⟨g, rfl, hr⟩
    · have HR := Lib.hid hr
      clear hr
      go_wp2_with fail
      refine HFN.out.mono ?_; rintro e w3 ⟨b, a1, n1, c1, a2, n2, c2, rfl, hb, hbl⟩
      obtain rfl : b = true := (hb _ HR.out).1 rfl
      have HB3 := Lib.hid (bstep HB2.out hbl)
      clear hb hbl x0 x1 x2
      go_wp2
      go_ret
      exact ⟨rfl, HB3.out⟩
    · have HR := Lib.hid hr
      clear hr
      go_wp2_with fail
      refine HFN.out.mono ?_; rintro e w3 ⟨b, a1, n1, c1, a2, n2, c2, rfl, hb, hbl⟩
      have hb0 : b = false := by
        cases b with
        | false => rfl
        | true => exact absurd ((hb _ HR.out).2 rfl) (by simp)
      subst hb0
      have HB3 := Lib.hid (bstep HB2.out hbl)
      clear hb hbl x0 x1 x2
      go_wp2
      go_ret
      exact ⟨rfl, HB3.out⟩
    · clear hr
      go_wp2_with fail
      refine HFN.out.mono ?_; rintro e w3 ⟨b, a1, n1, c1, a2, n2, c2, rfl, hb, hbl⟩
      have HB3 := Lib.hid (bstep HB2.out hbl)
      clear hb hbl x0 x1 x2
      go_wp2
      go_ret
      exact ⟨rfl, HB3.out⟩
  · have hbad : ∀ kn rn : Nat, k = kn → r = rn → IsRule kn rn tb → 256 < T := fun kn rn h1 h2 h3 => Nat.lt_of_not_le fun h4 => hgood ⟨kn, rn, h1, h2, h3, h4⟩
    have HBAD := Lib.hid hbad
    clear hgood hbad
    go_wp2_with fail
    refine (onto_err k r a T c tb w1 R (HE.out.up HBW1.out) (HT.out.rk.up HBW1.out) HT.out.nm HBAD.out).mono ?_; rintro e w2 ⟨g, rfl, hb2⟩
    clear x0 x1 x2
    obtain ⟨hbw2, x0, x1, x2⟩ := HUP.out w2 (bstep HB1.out hb2)
    have HB2 := Lib.hid hbw2
    clear hb2 hbw2
    go_wp2_with fail
    refine (finite_err k r a T c tb w2 R (HE.out.up HB2.out).sent.glob (HT.out.rk.up HB2.out) HT.out.nm HBAD.out).mono ?_; rintro e w3 ⟨g3, rfl, hb3⟩
    have HB3 := Lib.hid (bstep HB2.out hb3)
    clear hb3 x0 x1 x2
    go_wp2
    go_ret
    exact ⟨rfl, HB3.out⟩
end Go.Proofs.YtiglilecmieelaaGreatDoor
