/- Package twins: single. Package twins: Finite of any rule. -/
import Derived.Test.YtiglilecmieelaaGreatDoorTwA
import Derived.Test.YtiglilecmieelaaGreatDoorLibE
import Derived.Test.YtiglilecmieelaaGreatDoorRuleA
import Derived.Test.YtiglilecmieelaaGreatDoorMeeX
import Derived.Test.YtiglilecmieelaaGreatDoorUnder
namespace Go.Proofs.YtiglilecmieelaaGreatDoor
open Go.RowKit
set_option linter.unusedVariables false
set_option maxRecDepth 100000

theorem first_ix (l : List Int) (x : Int) : ∀ y, y < l.length → l.getD y 0 = x → ∃ k0, k0 ≤ y ∧ Lib.idxOf l x = (k0 : Int) ∧ l.getD k0 0 = x ∧ ∀ j, j < k0 → l.getD j 0 ≠ x := by
  intro y
  induction y using Nat.strongRecOn with
  | ind y ih =>
    intro hy he
    by_cases h : ∃ j, j < y ∧ l.getD j 0 = x
    · obtain ⟨j, hj, hje⟩ := h
      obtain ⟨k0, h1, h2⟩ := ih j hj (by omega) hje
      exact ⟨k0, by omega, h2⟩
    · have hne : ∀ j, j < y → l.getD j 0 ≠ x := fun j hj e => h ⟨j, hj, e⟩
      have h2 := Lib.idxOf_hit l l.length y x hy (Nat.le_refl _) he hne
      rw [List.take_length] at h2
      exact ⟨y, Nat.le_refl _, h2, he, hne⟩
/-- no two of the first n are alike -/
def Uniq (l : List Int) (n : Nat) : Prop := ∀ i j, i < j → j < n → l.getD i 0 ≠ l.getD j 0
set_option maxHeartbeats 4000000 in
theorem single_ok (k r : Int) (a : Option Addr) (T c : Nat) (tb : List Int) (W : World) (hR : RK .i64 W a T tb) (hT : T ≤ 256) :
    Calls Tryz.prog 13 #[ruleV k r a T c] W fun e w' => ∃ a1 n1 c1 a2 n2 c2, e = .returned (.tuple #[.slice a1 n1 c1, .slice a2 n2 c2]) ∧ (n1 = 0 ↔ Uniq tb T) ∧ Below W.heap.size W w' := by
  obtain ⟨w0, hw0⟩ : ∃ w0, W.alloc (.cells #[.int .i64 k, .int .i64 r, .slice a T c] 24) = w0 := ⟨_, rfl⟩
  have HBX : Hid (Below W.heap.size W w0) := by show Below _ _ _; rw [← hw0]; exact balloc (bnil W) _
  have hx : w0.cell? ⟨W.heap.size, 0, none⟩ = some (.int .i64 k) ∧ w0.cell? ⟨W.heap.size, 1, none⟩ = some (.int .i64 r) ∧ w0.cell? ⟨W.heap.size, 2, none⟩ = some (.slice a T c) := by rw [← hw0]; exact ⟨by simp, by simp, by simp⟩
  have HR := Lib.hid (hR.up HBX.out)
  obtain ⟨x0, x1, x2⟩ := hx
  have HX2 := Lib.hid x2
  rw [← hw0] at x2
  have HWB := Lib.hid hw0
  have HL := Lib.hid hR.len
  clear hR hw0 x0 x1
  go_enter Tryz.func13, Tryz.ntmps13
  go_wp2_with fail
  rw [HWB.out]
  clear x2
  have x2 := HX2.out
  go_loop [10] (fun s => ∃ i : Nat, i ≤ T ∧ s = .int .i64 (i : Nat) ∧ Uniq tb i) (fun s => T - (intOf s).toNat)
  case atStart => exact ⟨0, Nat.zero_le _, rfl, fun i j h h2 => absurd h2 (by omega)⟩
  case round =>
    obtain ⟨i, hi, rfl, hU⟩ := hrel
    have q1 : IntKind.i64.wrap ((i : Int) + 1) = ((i + 1 : Nat) : Int) := by rw [IntWalk.i64_in _ (by omega)]; omega
    by_cases hlt : i < T
    · obtain ⟨k0, hk0, hix, hke, hmin⟩ := first_ix tb (tb.getD i 0) i (by rw [← HL.out]; exact hlt) rfl
      obtain ⟨b, o, rfl, hbl, hc⟩ := HR.out.addr (by omega)
      have hci := hc i hlt
      have HIX := Lib.hid (index_rk (c := c) HR.out (by omega) (tb.getD i 0))
      rw [hix] at HIX
      have HU := Lib.hid hU
      have HM := Lib.hid hmin
      have HKE := Lib.hid hke
      have g1 : (i : Int) < (T : Int) := by omega
      have g0 : (0 : Int) ≤ (i : Int) := by omega
      clear hc hmin hU hke hix
      obtain ⟨y, hy⟩ : ∃ y, tb.getD i 0 = y := ⟨_, rfl⟩
      rw [hy] at hci HIX HM HKE
      have HY := Lib.hid hy
      clear hy
      by_cases hk : k0 < i
      · have g2 : (k0 : Int) < (i : Int) := by omega
        go_wp2_with fail
        refine HIX.out.mono ?_; rintro e w1 ⟨rfl, rfl⟩
        go_wp2
        go_ret2
        exact ⟨_, _, _, _, _, _, rfl, ⟨fun h => absurd h (by decide), fun hu => absurd (HKE.out.trans HY.out.symm) (hu k0 i hk hlt)⟩, balloc (balloc HBX.out _) _⟩
      · obtain rfl : k0 = i := by omega
        have g2 : ¬ (k0 : Int) < (k0 : Int) := by omega
        go_wp2_with fail
        refine HIX.out.mono ?_; rintro e w1 ⟨rfl, rfl⟩
        go_wp2
        refine ⟨⟨k0 + 1, by omega, by go_num, fun p q hpq hq => ?_⟩, by simp [intOf]; omega⟩
        rcases Nat.lt_succ_iff_lt_or_eq.1 hq with h | rfl
        · exact HU.out p q hpq h
        · rw [HY.out]; exact HM.out p hpq
    · obtain rfl : i = T := by omega
      have g1 : ¬ (i : Int) < (i : Int) := by omega
      have HU := Lib.hid hU
      clear hU
      go_wp2
      go_ret2
      have hb := HBX.out
      have hu := HU.out
      exact ⟨none, 0, ⟨0, none, 0, 0, rfl⟩, ⟨fun _ => hu, fun _ => rfl⟩, hb⟩
end Go.Proofs.YtiglilecmieelaaGreatDoor
namespace Go.Proofs.YtiglilecmieelaaGreatDoor
open Go.RowKit
set_option linter.unusedVariables false
set_option maxRecDepth 100000

set_option maxHeartbeats 4000000 in
theorem finite_one (k r N : Nat) (a : Option Addr) (T c : Nat) (tb : List Int) (W : World) (hR : RK .i64 W a T tb) (hI : IsRule k r tb) (hT : T ≤ 256) (hr1 : 1 ≤ r) (hN : N = k ^ (2 * r)) :
    Calls Tryz.prog 6 #[ruleV k r a T c] W fun e w' => ∃ way b a1 n1 c1 a2 n2 c2, e = .returned (.tuple #[.bool b, .slice a1 n1 c1, .slice a2 n2 c2, .nilIface]) ∧ MeetRes k N (labT tb) (adjF k N (labT tb)) way ∧ (b = true ↔ way = []) ∧ (way ≠ [] → n1 + 1 = 2 * r + way.length) ∧ Below W.heap.size W w' := by
  obtain ⟨hTN, hN0, hN128⟩ := node_bounds hI hR.len hT
  rw [← hN] at hTN hN0 hN128
  obtain ⟨M, hM⟩ : ∃ M, N * N = M := ⟨_, rfl⟩
  have HADJ : Hid (∀ v, v < N * N → ∀ t, t ∈ adjF k N (labT tb) v ↔ PE k N (labT tb) v t = true) := fun v _ t => adjF_mem hN0 v t
  obtain ⟨w0, hw0⟩ : ∃ w0, W.alloc (.cells #[.int .i64 k, .int .i64 r, .slice a T c] 24) = w0 := ⟨_, rfl⟩
  have HBX : Hid (Below W.heap.size W w0) := by show Below _ _ _; rw [← hw0]; exact balloc (bnil W) _
  have hz : w0.heap[W.heap.size]? = some (.cells #[.int .i64 k, .int .i64 r, .slice a T c] 24) := by rw [← hw0]; exact heap_alloc_new W _
  have HGR := Lib.hid (graph_one k r N M a T c tb w0 (hR.up HBX.out) hI hT hr1 hN hM)
  have HMT : Hid (∀ w1 B0 g, GraphR w1 B0 g k N tb → Calls Tryz.prog 14 #[.slice (some ⟨g, 0, none⟩) M M] w1 fun e w' => ∃ (way : List Nat) (a : Option Addr) (n c : Nat), e = .returned (.slice a n c) ∧ MeetRes k N (labT tb) (adjF k N (labT tb)) way ∧ RK .i64 w' a n (way.map fun x : Nat => (x : Int)) ∧ n ≤ c ∧ n ≤ 20000 ∧ Below w1.heap.size w1 w') := fun w1 B0 g hg => meet_run k N M g tb w1 B0 hg hM hN0 hN128
  have HWS : Hid (∀ w1 (aw : Option Addr) (nw cw : Nat) (way : List Nat), Below W.heap.size W w1 → RK .i64 w1 aw nw (way.map fun x : Nat => (x : Int)) → 2 ≤ way.length → nw ≤ cw → nw ≤ 20000 → WayOK (PE k N (labT tb)) way → (∀ x ∈ way, x < N * N) → Calls Tryz.prog 15 #[ruleV k r a T c, .slice aw nw cw] w1 fun e w' => ∃ a1 n1 c1 a2 n2 c2, e = .returned (.tuple #[.slice a1 n1 c1, .slice a2 n2 c2, .nilIface]) ∧ n1 + 1 = 2 * r + nw ∧ Below w1.heap.size w1 w') := fun w1 aw nw cw way hb hW h2 hcw hn2 hok hlt => words_ok k r N M nw cw a aw T c tb way w1 (hR.up hb) hI hT hr1 hN hM hW h2 hcw hn2 hok hlt
  have HZ := Lib.hid hz
  obtain ⟨⟨x0, x1, x2⟩, _⟩ := cells3P hz
  rw [← hw0] at x0 x1 x2
  have HWB := Lib.hid hw0
  have HN0 := Lib.hid hN0
  have q1 : ((r : Int) == 0) = false := by rw [beq_eq_false_iff_ne]; omega
  clear hR hI hT hN hM hTN hN0 hN128 hz hw0
  go_enter Tryz.func6, Tryz.ntmps6
  go_wp2_with fail
  rw [HWB.out]
  refine HGR.out.mono ?_; rintro e w1 ⟨g, rfl, hg, hb⟩
  clear x0 x1 x2
  have HB1 := Lib.hid (bstep HBX.out hb)
  have HZ1 := Lib.hid ((hb.block _ (heap_ltR HZ.out)).trans HZ.out)
  have HG := Lib.hid hg
  obtain ⟨⟨x0, x1, x2⟩, _⟩ := cells3P HZ1.out
  clear hb hg
  go_wp2_with fail
  refine (HMT.out w1 _ g HG.out).mono ?_; rintro e w2 ⟨way, aw, nw, cw, rfl, hres, hrk, hcw, hn2, hb⟩
  have HB2 := Lib.hid (bstep HB1.out hb)
  have HZ2 := Lib.hid ((hb.block _ (heap_ltR HZ1.out)).trans HZ1.out)
  have HRES := Lib.hid hres
  have HRK := Lib.hid hrk
  have hlen : nw = way.length := by have := hrk.len; simpa using this
  have HLEN := Lib.hid hlen
  have HCW := Lib.hid hcw
  have HN2 := Lib.hid hn2
  clear x0 x1 x2 hb hres hrk hlen hcw hn2
  rcases meet_two HRES.out with hw | hw
  · have hn0 : nw = 0 := by rw [HLEN.out, hw]; rfl
    have HW := Lib.hid hw
    clear hw
    subst hn0
    go_wp2
    (try simp only [Exit.inBlock, Exit.then])
    refine bodyPost_ret (results_tmp4 rfl _ _ _) rfl ?_
    exact ⟨way, true, none, 0, 0, none, 0, 0, rfl, HRES.out, ⟨fun _ => HW.out, fun _ => rfl⟩, fun h => absurd HW.out h, HB2.out⟩
  · have hn0 : ((nw : Int) == 0) = false := by have := HLEN.out; rw [beq_eq_false_iff_ne]; omega
    have HW := Lib.hid hw
    obtain ⟨_, hok, hlt⟩ := meet_ok HN0.out HADJ.out HRES.out
    have HCALL := Lib.hid (HWS.out w2 aw nw cw way HB2.out HRK.out hw HCW.out HN2.out hok hlt)
    obtain ⟨⟨x0, x1, x2⟩, _⟩ := cells3P HZ2.out
    clear hw hok hlt
    go_wp2_with fail
    refine HCALL.out.mono ?_; rintro e w3 ⟨a1, n1, c1, a2, n2, c2, rfl, hnn, hb⟩
    clear x0 x1 x2
    have HNN := Lib.hid hnn
    have HB3 := Lib.hid (bstep HB2.out hb)
    clear hnn hb
    go_wp2
    (try simp only [Exit.inBlock, Exit.then])
    refine bodyPost_ret (results_tmp4 rfl _ _ _) rfl ?_
    exact ⟨way, false, a1, n1, c1, a2, n2, c2, rfl, HRES.out, ⟨fun h => (by cases h), fun h => (by have := HW.out; rw [h] at this; cases this)⟩, fun _ => by rw [HNN.out, HLEN.out], HB3.out⟩
set_option maxHeartbeats 4000000 in
theorem finite_zero (k : Nat) (a : Option Addr) (T c : Nat) (tb : List Int) (W : World) (hR : RK .i64 W a T tb) (hI : IsRule k 0 tb) (hT : T ≤ 256) :
    Calls Tryz.prog 6 #[.agg #[.int .i64 k, .int .i64 0, .slice a T c]] W fun e w' => ∃ b a1 n1 c1 a2 n2 c2, e = .returned (.tuple #[.bool b, .slice a1 n1 c1, .slice a2 n2 c2, .nilIface]) ∧ (b = true ↔ Uniq tb T) ∧ Below W.heap.size W w' := by
  obtain ⟨w0, hw0⟩ : ∃ w0, W.alloc (.cells #[.int .i64 k, .int .i64 0, .slice a T c] 24) = w0 := ⟨_, rfl⟩
  have HBX : Hid (Below W.heap.size W w0) := by show Below _ _ _; rw [← hw0]; exact balloc (bnil W) _
  have hz : w0.heap[W.heap.size]? = some (.cells #[.int .i64 k, .int .i64 0, .slice a T c] 24) := by rw [← hw0]; exact heap_alloc_new W _
  have HGR := Lib.hid (graph_zero k a T c tb w0 (hR.up HBX.out) hI hT)
  have HSG : Hid (∀ w1, Below W.heap.size W w1 → Calls Tryz.prog 13 #[.agg #[.int .i64 k, .int .i64 0, .slice a T c]] w1 fun e w' => ∃ a1 n1 c1 a2 n2 c2, e = .returned (.tuple #[.slice a1 n1 c1, .slice a2 n2 c2]) ∧ (n1 = 0 ↔ Uniq tb T) ∧ Below w1.heap.size w1 w') := fun w1 hb => single_ok k 0 a T c tb w1 (hR.up hb) hT
  have HZ := Lib.hid hz
  obtain ⟨⟨x0, x1, x2⟩, _⟩ := cells3P hz
  rw [← hw0] at x0 x1 x2
  have HWB := Lib.hid hw0
  clear hR hI hT hz hw0
  go_enter Tryz.func6, Tryz.ntmps6
  go_wp2_with fail
  rw [HWB.out]
  refine HGR.out.mono ?_; rintro e w1 ⟨g, m, rfl, hb⟩
  clear x0 x1 x2
  have HB1 := Lib.hid (bstep HBX.out hb)
  have HZ1 := Lib.hid ((hb.block _ (heap_ltR HZ.out)).trans HZ.out)
  obtain ⟨⟨x0, x1, x2⟩, _⟩ := cells3P HZ1.out
  clear hb
  go_wp2_with fail
  refine (HSG.out w1 HB1.out).mono ?_; rintro e w2 ⟨a1, n1, c1, a2, n2, c2, rfl, hu, hb⟩
  clear x0 x1 x2
  have HU := Lib.hid hu
  have HB2 := Lib.hid (bstep HB1.out hb)
  clear hu hb
  by_cases h0 : n1 = 0
  · subst h0
    go_wp2
    (try simp only [Exit.inBlock, Exit.then])
    refine bodyPost_ret (results_tmp4 rfl _ _ _) rfl ?_
    exact ⟨true, a1, 0, c1, a2, n2, c2, rfl, ⟨fun _ => HU.out.1 (by trivial), fun _ => rfl⟩, HB2.out⟩
  · have q1 : ((n1 : Int) == 0) = false := by rw [beq_eq_false_iff_ne]; omega
    have H0 := Lib.hid h0
    clear h0
    go_wp2
    (try simp only [Exit.inBlock, Exit.then])
    refine bodyPost_ret (results_tmp4 rfl _ _ _) rfl ?_
    exact ⟨false, a1, n1, c1, a2, n2, c2, rfl, ⟨fun h => (by cases h), fun h => absurd (HU.out.2 h) H0.out⟩, HB2.out⟩
set_option maxHeartbeats 4000000 in
theorem finite_err (k r : Int) (a : Option Addr) (T c : Nat) (tb : List Int) (W : World) (R : Nat → Addr) (hG : Glob W R) (hR : RK .i64 W a T tb) (hm : T ≤ maxLen) (h : ∀ kn rn : Nat, k = kn → r = rn → IsRule kn rn tb → 256 < T) :
    Calls Tryz.prog 6 #[ruleV k r a T c] W fun e w' => ∃ g, e = .returned (.tuple #[.bool false, .slice none 0 0, .slice none 0 0, .iface 75 (.pointer (some ⟨g, 0, none⟩))]) ∧ Below W.heap.size W w' := by
  obtain ⟨w0, hw0⟩ : ∃ w0, W.alloc (.cells #[.int .i64 k, .int .i64 r, .slice a T c] 24) = w0 := ⟨_, rfl⟩
  have HBX : Hid (Below W.heap.size W w0) := by show Below _ _ _; rw [← hw0]; exact balloc (bnil W) _
  have hx : w0.cell? ⟨W.heap.size, 0, none⟩ = some (.int .i64 k) ∧ w0.cell? ⟨W.heap.size, 1, none⟩ = some (.int .i64 r) ∧ w0.cell? ⟨W.heap.size, 2, none⟩ = some (.slice a T c) := by rw [← hw0]; exact ⟨by simp, by simp, by simp⟩
  have HGR := Lib.hid (graph_err k r a T c tb w0 R (hG.up HBX.out) (hR.up HBX.out) hm h)
  obtain ⟨x0, x1, x2⟩ := hx
  rw [← hw0] at x0 x1 x2
  have HWB := Lib.hid hw0
  clear hG hR hm h hw0
  go_enter Tryz.func6, Tryz.ntmps6
  go_wp2_with fail
  rw [HWB.out]
  refine HGR.out.mono ?_; rintro e w1 ⟨g, rfl, hb⟩
  have HB1 := Lib.hid (bstep HBX.out hb)
  clear x0 x1 x2 hb
  go_wp2_with fail
  refine (undr_some _ _ _ _ _).mono ?_; rintro e w2 ⟨rfl, rfl⟩
  have HB2 := Lib.hid (balloc HB1.out (faultObj ⟨#[116, 119, 105, 110, 115]⟩ 0 (.iface 75 (.pointer (some ⟨g, 0, none⟩)))))
  go_wp2
  (try simp only [Exit.inBlock, Exit.then])
  refine bodyPost_ret (results_tmp4 rfl _ _ _) rfl ?_
  exact ⟨_, rfl, HB2.out⟩
end Go.Proofs.YtiglilecmieelaaGreatDoor
