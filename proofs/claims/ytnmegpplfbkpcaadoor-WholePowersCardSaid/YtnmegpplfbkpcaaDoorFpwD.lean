/- forms.Power for all arguments. -/
import Derived.Test.YtnmegpplfbkpcaaDoorFpwC
namespace Go.Proofs.YtnmegpplfbkpcaaDoor
open Go.RowKit
set_option linter.unusedVariables false
set_option maxRecDepth 100000

theorem rk_ltP {k : IntKind} {w : World} {b o n : Nat} {l : List Int} (h : RK k w (some ⟨b, o, none⟩) n l) (hn : 0 < n) : b < w.heap.size := by
  rcases h.2.2 with h0 | ⟨b2, o2, e, hb, _⟩
  · omega
  · cases e; exact hb
theorem rk_set3 {k : IntKind} {w w' : World} {a : Option Addr} {n : Nat} {l : List Int} (h : RK k w a n l) {g : Nat} (hk : ∀ k, k ≠ g → w'.heap[k]? = w.heap[k]?) (hs : w'.heap.size = w.heap.size) (hg : ∀ b o, a = some ⟨b, o, none⟩ → b ≠ g) : RK k w' a n l := by
  refine ⟨h.1, h.2.1, ?_⟩
  rcases h.2.2 with h0 | ⟨b, o, rfl, hb, hc⟩
  · exact .inl h0
  · refine .inr ⟨b, o, rfl, by omega, fun j u hu => ?_⟩
    rw [World.cell?_of_block (w := w)]
    · exact hc j u hu
    · exact hk b (hg b o rfl)
theorem fbeh_pow {k r a b Ra Rb : Nat} {tb ta tc : List Int} (aa ab : Option Addr) (Ta ca Tb cb : Nat) (W : World) (h : IsRule k r tb) (ha : PowR k r tb a Ra ta) (hb : PowR k r tb b Rb tc) (h3 : Ra + Rb ≤ 3) (hA : RK .i64 W aa Ta ta) (hB : RK .i64 W ab Tb tc) :
    Calls Tryd.prog 25 #[ruleV k Ra aa Ta ca, ruleV k Rb ab Tb cb] W fun e w' => ∃ aT N tp, e = .returned (ruleV k ((Ra + Rb : Nat) : Int) (some ⟨aT, 0, none⟩) N N) ∧ RK .i64 w' (some ⟨aT, 0, none⟩) N tp ∧ PowR k r tb (a + b) (Ra + Rb) tp ∧ W.heap.size ≤ aT ∧ Below W.heap.size W w' := by
  refine (fbehind k Ra Rb aa ab Ta ca Tb cb ta tc W hA hB ha.is hb.is h3).mono ?_
  rintro e w' ⟨aT, rfl, hT, hl, hbl⟩
  exact ⟨aT, _, _, rfl, hT, pow_mul h ha hb h3, hl, hbl⟩
theorem made_id (k : Nat) (V : World) (k1 : 1 ≤ k) (k4 : k ≤ 4) :
    Calls Tryd.prog 23 #[.int .i64 k, .int .i64 0, .func (.func 24) #[] #[]] V fun e w' => ∃ aT, e = .returned (ruleV k 0 (some ⟨aT, 0, none⟩) k k) ∧ RK .i64 w' (some ⟨aT, 0, none⟩) k (madeT k 1 idF) ∧ V.heap.size ≤ aT ∧ Below V.heap.size V w' := by
  refine (made_ok k 0 24 #[] idF V k1 k4 (by omega) (fun args w => rfl) (power1_tells V k)).mono ?_
  rintro e w' ⟨aT, rfl, hT, hl, hb⟩
  have e1 : k ^ (2 * 0 + 1) = k := Nat.pow_one k
  refine ⟨aT, ?_, ?_, hl, hb⟩
  · rw [e1]; rfl
  · rw [e1] at hT; exact hT

/-- what Power answers where it does not refuse -/
def PowPost (W : World) (k r : Nat) (tb : List Int) (t : Nat) (e : Ending) (w' : World) : Prop :=
  ∃ aT R T tp, e = .returned (.tuple #[ruleV k (R : Nat) (some ⟨aT, 0, none⟩) T T, .nilIface]) ∧ RK .i64 w' (some ⟨aT, 0, none⟩) T tp ∧ PowR k r tb t R tp ∧ Below W.heap.size W w'

set_option maxHeartbeats 8000000 in
theorem fpower_err (k r t : Int) (a : Option Addr) (T c : Nat) (tb : List Int) (W : World) (R : Nat → Addr) (hG : Glob W R) (hR : RK .i64 W a T tb) (hm : T ≤ maxLen)
    (h : (∃ x, ruleErr k r tb = some x) ∨ ∃ kn rn : Nat, k = kn ∧ r = rn ∧ IsRule kn rn tb ∧ (t < 0 ∨ 0 < rn ∧ ((3 / rn : Nat) : Int) < t)) :
    Calls Tryd.prog 6 #[ruleV k r a T c, .int .i64 t] W fun e w' => ∃ ty p, e = .returned (.tuple #[ruleV 0 0 none 0 0, .iface ty p]) ∧ Below W.heap.size W w' := by
  obtain ⟨w0, hw0⟩ : ∃ w0, (W.alloc (.cells #[.int .i64 k, .int .i64 r, .slice a T c] 24)).alloc (.cells #[.int .i64 0, .int .i64 0, .slice none 0 0] 24) = w0 := ⟨_, rfl⟩
  have HSZ : Hid (w0.heap.size = W.heap.size + 2) := by show _ = _; rw [← hw0]; simp
  have hza : w0.heap[W.heap.size]? = some (.cells #[.int .i64 k, .int .i64 r, .slice a T c] 24) := by
    rw [← hw0, heap_alloc_old _ _ (by simp)]
    exact heap_alloc_new W _
  have hzy : w0.heap[W.heap.size + 1]? = some (.cells #[.int .i64 0, .int .i64 0, .slice none 0 0] 24) := by
    rw [← hw0]
    have h := heap_alloc_new (W.alloc (.cells #[.int .i64 k, .int .i64 r, .slice a T c] 24)) (.cells #[.int .i64 0, .int .i64 0, .slice none 0 0] 24)
    simpa using h
  have HBX : Hid (Below W.heap.size W w0) := by show Below _ _ _; rw [← hw0]; exact balloc (balloc (bnil W) _) _
  have HR := Lib.hid (hR.up HBX.out)
  have HZA := Lib.hid hza
  have HZY := Lib.hid hzy
  have HWB := Lib.hid hw0
  obtain ⟨⟨x0, x1, x2⟩, _⟩ := cells3P hza
  rw [← hw0] at x0 x1 x2
  have HG := Lib.hid (hG.up HBX.out)
  clear hza hzy hw0 hG
  rcases h with ⟨x, hx⟩ | ⟨kn, rn, rfl, rfl, hI, ht⟩
  · skip
    go_enter Tryd.func6, Tryd.ntmps6
    go_wp2_with fail
    rw [HWB.out]
    refine (fcheck_err k r 0 a T c tb w0 R HG.out HR.out hm x hx).mono ?_; rintro e w1 ⟨ty, pv, rfl, hb⟩
    have HB1 := Lib.hid hb
    clear hb x0 x1 x2
    have hy := (HB1.out.block _ (heap_ltP HZY.out)).trans HZY.out
    obtain ⟨⟨p0, p1, p2⟩, f3, f4, f5⟩ := cells3P hy
    obtain ⟨w9, e9, hk, hs, hbl, hz⟩ := set3P hy (.int .i64 0) (.int .i64 0) (.slice none 0 0)
    obtain ⟨⟨r0, r1, r2⟩, _⟩ := cells3P hz
    have HBE := Lib.hid (hbl W W.heap.size (by omega) (bstep HBX.out HB1.out))
    have HE9 := Lib.hid e9
    have HRR := Lib.hid (And.intro r0 (And.intro r1 r2))
    clear e9 hk hs hbl hz r0 r1 r2 hy
    go_wp2
    rw [HE9.out]
    have r0 := HRR.out.1
    have r1 := HRR.out.2.1
    have r2 := HRR.out.2.2
    refine bodyPost_ret (v := .tuple #[ruleV 0 0 none 0 0, .iface ty pv]) (by simp [ruleV, results, Tryd.results6, go_sem, r0, r1, r2]) rfl ?_
    exact ⟨_, _, rfl, HBE.out⟩
  · have k1 := hI.k1
    have r3 := hI.r3
    have HI := Lib.hid hI
    clear hI
    go_enter Tryd.func6, Tryd.ntmps6
    go_wp2_with fail
    rw [HWB.out]
    refine (fcheck_ok kn rn 0 a T c tb w0 HR.out HI.out).mono ?_; rintro e w1 ⟨rfl, hb⟩
    have HB1 := Lib.hid hb
    clear hb x0 x1 x2
    obtain ⟨⟨x0, x1, x2⟩, _⟩ := cells3P ((HB1.out.block _ (heap_ltP HZA.out)).trans HZA.out)
    have HB0 := Lib.hid (bnil w1)
    by_cases t0 : t < 0
    · clear ht
      go_wp2_with fail
      refine (forms_wrong 0 3 w1 R (HG.out.up HB1.out) rfl).mono ?_; rintro e w' ⟨rfl, rfl⟩
      have HB2 := Lib.hid (balloc HB1.out (faultObj opForms 0 (.iface 166 (.pointer (some (R (rix 3)))))))
      have hy := (HB2.out.block _ (heap_ltP HZY.out)).trans HZY.out
      obtain ⟨⟨p0, p1, p2⟩, f3, f4, f5⟩ := cells3P hy
      obtain ⟨w9, e9, hk, hs, hbl, hz⟩ := set3P hy (.int .i64 0) (.int .i64 0) (.slice none 0 0)
      obtain ⟨⟨r0, r1, r2⟩, _⟩ := cells3P hz
      have HBE := Lib.hid (hbl W W.heap.size (by omega) (bstep HBX.out HB2.out))
      have HE9 := Lib.hid e9
      have HRR := Lib.hid (And.intro r0 (And.intro r1 r2))
      clear e9 hk hs hbl hz r0 r1 r2 hy
      go_wp2
      rw [HE9.out]
      have r0 := HRR.out.1
      have r1 := HRR.out.2.1
      have r2 := HRR.out.2.2
      refine bodyPost_ret (v := .tuple #[ruleV 0 0 none 0 0, .iface 100 (.pointer (some ⟨w1.heap.size, 0, none⟩))]) (by simp [ruleV, results, Tryd.results6, go_sem, r0, r1, r2]) rfl ?_
      exact ⟨_, _, rfl, HBE.out⟩
    have ht2 : 0 < rn ∧ ((3 / rn : Nat) : Int) < t := by
      rcases ht with h | h
      · exact absurd h t0
      · exact h
    clear ht
    have hr0 : (0 : Int) < (rn : Int) := by omega
    have hrz : ((rn : Int) == 0) = false := by rw [beq_eq_false_iff_ne]; omega
    have hrn : (rn : Int) ≠ 0 := by omega
    obtain ⟨q, hq⟩ : ∃ q, 3 / rn = q := ⟨_, rfl⟩
    rw [hq] at ht2
    have hqt := ht2.2
    have hq3 : q ≤ 3 := by rw [← hq]; exact Nat.div_le_self _ _
    have e1 : (3 : Int).tdiv (rn : Int) = (q : Int) := by rw [Int.tdiv_eq_ediv_of_nonneg (by omega), ← hq]; exact (Int.natCast_ediv 3 rn).symm
    have e2 : (3 : Int) / (rn : Int) = (q : Int) := by rw [← hq]; exact (Int.natCast_ediv 3 rn).symm
    have e3 : IntKind.i64.wrap (q : Int) = (q : Int) := IntWalk.i64_in _ (by omega)
    clear ht2 hq
    go_wp2_with fail
    refine (forms_wrong 0 4 w1 R (HG.out.up HB1.out) rfl).mono ?_; rintro e w' ⟨rfl, rfl⟩
    have HB2 := Lib.hid (balloc HB1.out (faultObj opForms 0 (.iface 166 (.pointer (some (R (rix 4)))))))
    have hy := (HB2.out.block _ (heap_ltP HZY.out)).trans HZY.out
    obtain ⟨⟨p0, p1, p2⟩, f3, f4, f5⟩ := cells3P hy
    obtain ⟨w9, e9, hk, hs, hbl, hz⟩ := set3P hy (.int .i64 0) (.int .i64 0) (.slice none 0 0)
    obtain ⟨⟨r0, r1, r2⟩, _⟩ := cells3P hz
    have HBE := Lib.hid (hbl W W.heap.size (by omega) (bstep HBX.out HB2.out))
    have HE9 := Lib.hid e9
    have HRR := Lib.hid (And.intro r0 (And.intro r1 r2))
    clear e9 hk hs hbl hz r0 r1 r2 hy
    go_wp2
    rw [HE9.out]
    have r0 := HRR.out.1
    have r1 := HRR.out.2.1
    have r2 := HRR.out.2.2
    refine bodyPost_ret (v := .tuple #[ruleV 0 0 none 0 0, .iface 100 (.pointer (some ⟨w1.heap.size, 0, none⟩))]) (by simp [ruleV, results, Tryd.results6, go_sem, r0, r1, r2]) rfl ?_
    exact ⟨_, _, rfl, HBE.out⟩

set_option maxHeartbeats 16000000 in
theorem fpower_ok (k r t : Nat) (a : Option Addr) (T c : Nat) (tb : List Int) (W : World) (hR : RK .i64 W a T tb) (hI : IsRule k r tb) (hrt : r * t ≤ 3) (ht : t ≤ 9223372036854775807) :
    Calls Tryd.prog 6 #[ruleV k r a T c, .int .i64 t] W (PowPost W k r tb t) := by
  have k1 := hI.k1
  have k4 := hI.k4
  have r3 := hI.r3
  have hT0 : 0 < T := by rw [hR.len, hI.len]; exact Nat.pow_pos k1
  have HAQ : Hid (∀ b o, a = some ⟨b, o, none⟩ → b < W.heap.size) := fun b o e => by
    subst e
    exact rk_ltP hR hT0
  have HI := Lib.hid hI
  have HRT := Lib.hid hrt
  have t0 : ¬ (t : Int) < 0 := by omega
  obtain ⟨w0, hw0⟩ : ∃ w0, (W.alloc (.cells #[.int .i64 k, .int .i64 r, .slice a T c] 24)).alloc (.cells #[.int .i64 0, .int .i64 0, .slice none 0 0] 24) = w0 := ⟨_, rfl⟩
  have HSZ : Hid (w0.heap.size = W.heap.size + 2) := by show _ = _; rw [← hw0]; simp
  have hza : w0.heap[W.heap.size]? = some (.cells #[.int .i64 k, .int .i64 r, .slice a T c] 24) := by
    rw [← hw0, heap_alloc_old _ _ (by simp)]
    exact heap_alloc_new W _
  have hzy : w0.heap[W.heap.size + 1]? = some (.cells #[.int .i64 0, .int .i64 0, .slice none 0 0] 24) := by
    rw [← hw0]
    have h := heap_alloc_new (W.alloc (.cells #[.int .i64 k, .int .i64 r, .slice a T c] 24)) (.cells #[.int .i64 0, .int .i64 0, .slice none 0 0] 24)
    simpa using h
  have HBX : Hid (Below W.heap.size W w0) := by show Below _ _ _; rw [← hw0]; exact balloc (balloc (bnil W) _) _
  have HR := Lib.hid (hR.up HBX.out)
  have HZA := Lib.hid hza
  have HZY := Lib.hid hzy
  have HWB := Lib.hid hw0
  obtain ⟨⟨x0, x1, x2⟩, _⟩ := cells3P hza
  rw [← hw0] at x0 x1 x2
  clear hza hzy hw0 hR hI hrt
  go_enter Tryd.func6, Tryd.ntmps6
  go_wp2_with fail
  rw [HWB.out]
  refine (fcheck_ok k r 0 a T c tb w0 HR.out HI.out).mono ?_; rintro e w1 ⟨rfl, hb⟩
  have HB1 := Lib.hid hb
  clear hb x0 x1 x2
  obtain ⟨⟨x0, x1, x2⟩, _⟩ := cells3P ((HB1.out.block _ (heap_ltP HZA.out)).trans HZA.out)
  by_cases hr : 0 < r
  · skip
    have hri : (0 : Int) < (r : Int) := by omega
    have hrz : ((r : Int) == 0) = false := by rw [beq_eq_false_iff_ne]; omega
    have hrn : (r : Int) ≠ 0 := by omega
    obtain ⟨q, hq⟩ : ∃ q, 3 / r = q := ⟨_, rfl⟩
    have htq : t ≤ q := by rw [← hq]; exact (Nat.le_div_iff_mul_le hr).2 (by rw [Nat.mul_comm]; exact HRT.out)
    have hq3 : q ≤ 3 := by rw [← hq]; exact Nat.div_le_self _ _
    have e1 : (3 : Int).tdiv (r : Int) = (q : Int) := by rw [Int.tdiv_eq_ediv_of_nonneg (by omega), ← hq]; exact (Int.natCast_ediv 3 r).symm
    have e2 : (3 : Int) / (r : Int) = (q : Int) := by rw [← hq]; exact (Int.natCast_ediv 3 r).symm
    have e3 : IntKind.i64.wrap (q : Int) = (q : Int) := IntWalk.i64_in _ (by omega)
    have e4 : ¬ (q : Int) < (t : Int) := by omega
    clear hq
    go_wp2_with fail
    refine (made_id k w1 k1 k4).mono ?_; rintro e w2 ⟨aT, rfl, hT, hlT, hb⟩
    clear x0 x1 x2
    obtain ⟨g7, hg7⟩ : ∃ g7, w2.heap.size = g7 := ⟨_, rfl⟩
    obtain ⟨w3, hw3⟩ : ∃ w3, w2.alloc (.cells #[.int .i64 k, .int .i64 0, .slice (some ⟨aT, 0, none⟩) k k] 24) = w3 := ⟨_, rfl⟩
    have hb3 : Below w2.heap.size w2 w3 := by rw [← hw3]; exact balloc (bnil w2) _
    have hz7 : w3.heap[g7]? = some (.cells #[.int .i64 k, .int .i64 0, .slice (some ⟨aT, 0, none⟩) k k] 24) := by rw [← hw3, ← hg7]; exact heap_alloc_new w2 _
    have hbw : Below w0.heap.size w0 w3 := bstep (bstep HB1.out hb) hb3
    have hrk := hT.up hb3
    have HNE : Hid (W.heap.size + 1 < g7 ∧ aT < g7 ∧ W.heap.size + 1 < aT) := by
      have h1 := HSZ.out
      have h2 := HB1.out.size
      have h3 := rk_ltP hT (by omega)
      have h4 := hb.size
      exact ⟨by omega, by omega, by omega⟩
    have HZ7 := Lib.hid hz7
    have HB3 := Lib.hid hbw
    have HRK := Lib.hid hrk
    have HW3 := Lib.hid hw3
    have HG7 := Lib.hid hg7
    have hg3 : g7 < w3.heap.size := heap_ltP hz7
    have HG3 := Lib.hid hg3
    have HS3 : Hid (w3.heap.size = g7 + 1) := by show _ = _; rw [← hw3, ← hg7]; simp
    obtain ⟨⟨x0, x1, x2⟩, _⟩ := cells3P ((hbw.block _ (heap_ltP HZA.out)).trans HZA.out)
    rw [← hw3] at x0 x1 x2
    clear hT hlT hb hb3 hz7 hbw hrk hw3 hg7 hg3
    go_wp2_with fail
    rw [HW3.out]
    try simp only [HG7.out]
    clear x0 x1 x2 hrz hrn e1 e2 e3 e4
    go_loopw [40] (fun ix wr => ∃ i aI Ri TI tp, i ≤ t ∧ ix = .int .i64 (i : Nat) ∧ PowR k r tb i Ri tp ∧ RK .i64 wr (some ⟨aI, 0, none⟩) TI tp ∧ wr.heap[g7]? = some (.cells #[.int .i64 k, .int .i64 (Ri : Nat), .slice (some ⟨aI, 0, none⟩) TI TI] 24) ∧ (aI ≠ g7 ∧ W.heap.size + 1 < aI) ∧ wr.heap[W.heap.size]? = some (.cells #[.int .i64 k, .int .i64 r, .slice a T c] 24) ∧ wr.heap[W.heap.size + 1]? = some (.cells #[.int .i64 0, .int .i64 0, .slice none 0 0] 24) ∧ RK .i64 wr a T tb ∧ w3.heap.size ≤ wr.heap.size ∧ Below W.heap.size W wr) (fun ix _ => t - (intOf ix).toNat)
    case atStart => exact ⟨0, aT, 0, k, _, Nat.zero_le _, rfl, pow_zero' HI.out, HRK.out, HZ7.out, by have := HNE.out; omega, (HB3.out.block _ (heap_ltP HZA.out)).trans HZA.out, (HB3.out.block _ (heap_ltP HZY.out)).trans HZY.out, HR.out.up HB3.out, Nat.le_refl _, bstep HBX.out HB3.out⟩
    case round =>
      obtain ⟨i, aI, Ri, TI, tp, hi, rfl, hpw, hrk, hz7, hne, hza, hzy, hra, hsz, hb⟩ := hrel
      have HPW := Lib.hid hpw
      have HRI := Lib.hid hrk
      have HZ7 := Lib.hid hz7
      have HN := Lib.hid hne
      have HZA1 := Lib.hid hza
      have HZY1 := Lib.hid hzy
      have HRA := Lib.hid hra
      have HB := Lib.hid hb
      have HSW := Lib.hid hsz
      obtain ⟨⟨x0, x1, x2⟩, _⟩ := cells3P hza
      obtain ⟨⟨z0, z1, z2⟩, g0, g1, g2⟩ := cells3P hz7
      clear hpw hrk hz7 hne hza hzy hra hb hsz
      by_cases hit : i < t
      · have i1 : (i : Int) < (t : Int) := by omega
        have hR3 : r + Ri ≤ 3 := by
          have h1 := HPW.out.rad
          have h2 : r * (i + 1) ≤ r * t := Nat.mul_le_mul_left _ hit
          have h3 := HRT.out
          rw [Nat.mul_add] at h2
          omega
        go_wp2_with fail
        refine (fbeh_pow a (some ⟨aI, 0, none⟩) T c TI TI wr HI.out (pow_one' HI.out) HPW.out hR3 HRA.out HRI.out).mono ?_; rintro e w5 ⟨aN, N, tn, rfl, hrn, hpn, hln, hb⟩
        clear x0 x1 x2 z0 z1 z2 g0 g1 g2
        have hz7 := (hb.block _ (heap_ltP HZ7.out)).trans HZ7.out
        obtain ⟨⟨z0, z1, z2⟩, g0, g1, g2⟩ := cells3P hz7
        obtain ⟨S, hS⟩ : ∃ S, r + Ri = S := ⟨_, rfl⟩
        rw [hS] at hpn
        have hsi : (r : Int) + (Ri : Int) = (S : Int) := by omega
        obtain ⟨w9, e9, hk, hs, hbl, hz⟩ := set3P hz7 (.int .i64 k) (.int .i64 (S : Nat)) (.slice (some ⟨aN, 0, none⟩) N N)
        have hg7 : W.heap.size + 1 < g7 ∧ g7 < wr.heap.size := ⟨HNE.out.1, heap_ltP HZ7.out⟩
        have HQ1 := Lib.hid (rk_heapP hrn hk hs (by omega))
        have HQ2 := Lib.hid hz
        have HQ3 : Hid (aN ≠ g7 ∧ W.heap.size + 1 < aN) := ⟨by omega, by omega⟩
        have HQ4 := Lib.hid ((hk _ (by omega)).trans ((hb.block _ (heap_ltP HZA1.out)).trans HZA1.out))
        have HQ5 := Lib.hid ((hk _ (by omega)).trans ((hb.block _ (heap_ltP HZY1.out)).trans HZY1.out))
        have HQ6 := Lib.hid (rk_set3 (HRA.out.up hb) hk hs (fun b o e => by have := HAQ.out b o e; omega))
        have HQ7 := Lib.hid (hbl W W.heap.size (by omega) (bstep HB.out hb))
        have HQ8 : Hid (w3.heap.size ≤ w9.heap.size) := by show _ ≤ _; rw [hs]; exact Nat.le_trans HSW.out hb.size
        have HE9 := Lib.hid e9
        have HPN : Hid (PowR k r tb (i + 1) S tn) := by rw [Nat.add_comm i 1]; exact hpn
        clear e9 hk hs hbl hz hz7 hrn hpn hln hb hg7 hS
        go_wp2
        rw [HE9.out]
        go_roundw
        case rel => exact ⟨i + 1, aN, S, N, tn, by omega, by go_num, HPN.out, HQ1.out, HQ2.out, HQ3.out, HQ4.out, HQ5.out, HQ6.out, HQ8.out, HQ7.out⟩
        case measure => simp [intOf]; omega
      · obtain rfl : i = t := by omega
        have i1 : ¬ (i : Int) < (i : Int) := by omega
        clear x0 x1 x2
        obtain ⟨⟨p0, p1, p2⟩, f3, f4, f5⟩ := cells3P HZY1.out
        obtain ⟨w9, e9, hk, hs, hbl, hz⟩ := set3P HZY1.out (.int .i64 k) (.int .i64 (Ri : Nat)) (.slice (some ⟨aI, 0, none⟩) TI TI)
        obtain ⟨⟨r0, r1, r2⟩, _⟩ := cells3P hz
        have HRK9 := Lib.hid (rk_heapP HRI.out hk hs (by have := HN.out; omega))
        have HBE := Lib.hid (hbl W W.heap.size (by omega) HB.out)
        have HE9 := Lib.hid e9
        have HRR := Lib.hid (And.intro r0 (And.intro r1 r2))
        clear e9 hk hs hbl hz r0 r1 r2
        go_wp2
        rw [HE9.out]
        have r0 := HRR.out.1
        have r1 := HRR.out.2.1
        have r2 := HRR.out.2.2
        refine bodyPost_ret (v := .tuple #[ruleV k (Ri : Nat) (some ⟨aI, 0, none⟩) TI TI, .nilIface]) (by simp [ruleV, results, Tryd.results6, go_sem, r0, r1, r2]) rfl ?_
        exact ⟨aI, _, TI, _, rfl, HRK9.out, HPW.out, HBE.out⟩
  · obtain rfl : r = 0 := by omega
    have HZA0 : Hid (w0.heap[W.heap.size]? = some (.cells #[.int .i64 k, .int .i64 0, .slice a T c] 24)) := HZA.out
    clear HZA
    have HZA := Lib.hid HZA0.out
    clear HZA0
    have hri : ¬ (0 : Int) < (0 : Int) := by omega
    go_wp2_with fail
    refine (made_id k w1 k1 k4).mono ?_; rintro e w2 ⟨aT, rfl, hT, hlT, hb⟩
    clear x0 x1 x2
    obtain ⟨g7, hg7⟩ : ∃ g7, w2.heap.size = g7 := ⟨_, rfl⟩
    obtain ⟨w3, hw3⟩ : ∃ w3, w2.alloc (.cells #[.int .i64 k, .int .i64 0, .slice (some ⟨aT, 0, none⟩) k k] 24) = w3 := ⟨_, rfl⟩
    have hb3 : Below w2.heap.size w2 w3 := by rw [← hw3]; exact balloc (bnil w2) _
    have hz7 : w3.heap[g7]? = some (.cells #[.int .i64 k, .int .i64 0, .slice (some ⟨aT, 0, none⟩) k k] 24) := by rw [← hw3, ← hg7]; exact heap_alloc_new w2 _
    have hbw : Below w0.heap.size w0 w3 := bstep (bstep HB1.out hb) hb3
    have hrk := hT.up hb3
    have HNE : Hid (W.heap.size + 1 < g7 ∧ aT < g7 ∧ W.heap.size + 1 < aT) := by
      have h1 := HSZ.out
      have h2 := HB1.out.size
      have h3 := rk_ltP hT (by omega)
      have h4 := hb.size
      exact ⟨by omega, by omega, by omega⟩
    have HZ7 := Lib.hid hz7
    have HB3 := Lib.hid hbw
    have HRK := Lib.hid hrk
    have HW3 := Lib.hid hw3
    have HG7 := Lib.hid hg7
    have hg3 : g7 < w3.heap.size := heap_ltP hz7
    have HG3 := Lib.hid hg3
    have HS3 : Hid (w3.heap.size = g7 + 1) := by show _ = _; rw [← hw3, ← hg7]; simp
    obtain ⟨⟨x0, x1, x2⟩, _⟩ := cells3P ((hbw.block _ (heap_ltP HZA.out)).trans HZA.out)
    rw [← hw3] at x0 x1 x2
    clear hT hlT hb hb3 hz7 hbw hrk hw3 hg7 hg3
    obtain ⟨w4, hw4⟩ : ∃ w4, w3.alloc (.cells #[.int .i64 k, .int .i64 0, .slice a T c] 24) = w4 := ⟨_, rfl⟩
    obtain ⟨g8, hg8⟩ : ∃ g8, g7 + 1 = g8 := ⟨_, rfl⟩
    have hs8 : w3.heap.size = g8 := by rw [HS3.out]; exact hg8
    have hb4 : Below w3.heap.size w3 w4 := by rw [← hw4]; exact balloc (bnil w3) _
    have HZ8 : Hid (w4.heap[g8]? = some (.cells #[.int .i64 k, .int .i64 0, .slice a T c] 24)) := by show _ = _; rw [← hw4, ← hs8]; exact heap_alloc_new w3 _
    have HB4 := Lib.hid (bstep HB3.out hb4)
    have HZ74 := Lib.hid ((hb4.block _ (heap_ltP HZ7.out)).trans HZ7.out)
    have HRK4 := Lib.hid (HRK.out.up hb4)
    have HG8 : Hid (g7 < g8) := by show _ < _; have := HG3.out; omega
    have HW4 := Lib.hid hw4
    have HG8E := Lib.hid hg8
    clear hw4 hg8 hb4 hs8
    go_wp2_with fail
    rw [HW3.out, HW4.out]
    try simp only [HG7.out]
    try simp only [HG8E.out]
    clear x0 x1 x2
    go_loopw [1, 8] (fun tx px wr => ∃ n e q g8 aI TI tp aQ TQ cQ tq, n ≤ t ∧ tx = .int .i64 (n : Nat) ∧ px = .pointer (some ⟨g8, 0, none⟩) ∧ e + q * n = t ∧ PowR k 0 tb e 0 tp ∧ PowR k 0 tb q 0 tq ∧ RK .i64 wr (some ⟨aI, 0, none⟩) TI tp ∧ RK .i64 wr aQ TQ tq ∧ wr.heap[g7]? = some (.cells #[.int .i64 k, .int .i64 0, .slice (some ⟨aI, 0, none⟩) TI TI] 24) ∧ wr.heap[g8]? = some (.cells #[.int .i64 k, .int .i64 0, .slice aQ TQ cQ] 24) ∧ (aI ≠ g7 ∧ W.heap.size + 1 < aI ∧ g7 < g8 ∧ aI < wr.heap.size) ∧ (∀ b o, aQ = some ⟨b, o, none⟩ → b ≠ g7 ∧ b < wr.heap.size) ∧ wr.heap[W.heap.size + 1]? = some (.cells #[.int .i64 0, .int .i64 0, .slice none 0 0] 24) ∧ Below W.heap.size W wr) (fun tx _ _ => (intOf tx).toNat)
    case atStart => exact ⟨t, 0, 1, g8, aT, k, _, a, T, c, tb, Nat.le_refl _, rfl, rfl, by omega, pow_zero' HI.out, pow_one' HI.out, HRK4.out, HR.out.up HB4.out, HZ74.out, HZ8.out, by have h1 := HNE.out; have h2 := HG8.out; have h3 := heap_ltP HZ8.out; omega, fun b o e => by have h1 := HAQ.out b o e; have h2 := HNE.out; have h3 := heap_ltP HZ8.out; have h4 := HG8.out; omega, (HB4.out.block _ (heap_ltP HZY.out)).trans HZY.out, bstep HBX.out HB4.out⟩
    case round =>
      obtain ⟨n, e, q, g8, aI, TI, tp, aQ, TQ, cQ, tq, hn, rfl, rfl, heq, hpe, hpq, hri2, hrq, hz7, hz8, hne, hnq, hzy, hb⟩ := hrel
      have HEQ := Lib.hid heq
      have HPE := Lib.hid hpe
      have HPQ := Lib.hid hpq
      have HRI := Lib.hid hri2
      have HRQ := Lib.hid hrq
      have HZ7 := Lib.hid hz7
      have HZ8 := Lib.hid hz8
      have HN := Lib.hid hne
      have HNQ := Lib.hid hnq
      have HZY1 := Lib.hid hzy
      have HB := Lib.hid hb
      obtain ⟨⟨z0, z1, z2⟩, g0, g1, g2⟩ := cells3P hz7
      obtain ⟨⟨x0, x1, x2⟩, d0, d1, d2⟩ := cells3P hz8
      clear heq hpe hpq hri2 hrq hz7 hz8 hne hnq hzy hb
      by_cases hn0 : 0 < n
      · have n1 : (0 : Int) < (n : Int) := by omega
        obtain ⟨H, hH⟩ : ∃ H, n / 2 = H := ⟨_, rfl⟩
        have d3 : (n : Int).tdiv 2 = (H : Int) := by rw [Int.tdiv_eq_ediv_of_nonneg (by omega)]; omega
        have d4 : (n : Int) / 2 = (H : Int) := by omega
        have d5 : IntKind.i64.wrap (H : Int) = (H : Int) := IntWalk.i64_in _ (by omega)
        have hHn : H < n := by omega
        by_cases hodd : n % 2 = 1
        · have m1 : (n : Int).tmod 2 = 1 := by rw [Int.tmod_eq_emod_of_nonneg (by omega)]; omega
          have m2 : (n : Int) % 2 = 1 := by omega
          have HE2 : Hid (q + e + (q + q) * H = t) := by
            show _ = _
            rw [← HEQ.out]
            have h1 : n = 2 * H + 1 := by omega
            rw [h1, Nat.mul_add, Nat.mul_one, Nat.add_mul, ← Nat.mul_assoc, Nat.mul_comm q 2, Nat.mul_assoc 2 q H]
            omega
          go_wp2_with fail
          refine (fbeh_pow aQ (some ⟨aI, 0, none⟩) TQ cQ TI TI wr HI.out HPQ.out HPE.out (by omega) HRQ.out HRI.out).mono ?_; rintro e5 w5 ⟨aM, M, tm, rfl, hrm, hpm, hlm, hb⟩
          clear x0 x1 x2 z0 z1 z2 g0 g1 g2 d0 d1 d2
          have hz7 := (hb.block _ (heap_ltP HZ7.out)).trans HZ7.out
          obtain ⟨⟨z0, z1, z2⟩, g0, g1, g2⟩ := cells3P hz7
          obtain ⟨w6, e9, hk, hs, hbl, hz⟩ := set3P hz7 (.int .i64 k) (.int .i64 0) (.slice (some ⟨aM, 0, none⟩) M M)
          have hn3 := HN.out
          have hh8 := heap_ltP HZ8.out
          have hh7 := heap_ltP HZ7.out
          have hhy := heap_ltP HZY1.out
          have hbs := hb.size
          have hw7 := HNE.out.1
          have hlb := rk_ltP hrm (by rw [hrm.len, hpm.is.len]; exact Nat.pow_pos k1)
          have HR6 := Lib.hid (rk_heapP hrm hk hs (by omega))
          have HZ76 := Lib.hid hz
          have HZ86 := Lib.hid ((hk _ (by omega)).trans ((hb.block _ hh8).trans HZ8.out))
          have HZY6 := Lib.hid ((hk _ (by omega)).trans ((hb.block _ hhy).trans HZY1.out))
          have HRQ6 := Lib.hid (rk_set3 (HRQ.out.up hb) hk hs (fun b o e => (HNQ.out b o e).1))
          have HN6 : Hid (aM ≠ g7 ∧ W.heap.size + 1 < aM ∧ g7 < g8 ∧ aM < w6.heap.size) := ⟨by omega, by omega, by omega, by omega⟩
          have HB6 := Lib.hid (hbl W W.heap.size (by omega) (bstep HB.out hb))
          have HPM : Hid (PowR k 0 tb (q + e) 0 tm) := hpm
          obtain ⟨⟨x0, x1, x2⟩, _⟩ := cells3P HZ86.out
          rw [← e9] at x0 x1 x2
          have HE6 := Lib.hid e9
          clear e9 hk hs hbl hz hz7 hrm hpm hlm hb hn3 hh8 hh7 hhy hbs hlb
          go_upto_region 21 with (fail)
          rw [HE6.out]
          rw [HE6.out] at x0 x1 x2
          obtain ⟨g8n, hg8n⟩ : ∃ g, w6.heap.size = g := ⟨_, rfl⟩
          obtain ⟨wn, hwn⟩ : ∃ wn, w6.alloc (.cells #[.int .i64 k, .int .i64 0, .slice aQ TQ cQ] 24) = wn := ⟨_, rfl⟩
          have hbn : Below w6.heap.size w6 wn := by rw [← hwn]; exact balloc (bnil w6) _
          have hz8n : wn.heap[g8n]? = some (.cells #[.int .i64 k, .int .i64 0, .slice aQ TQ cQ] 24) := by rw [← hwn, ← hg8n]; exact heap_alloc_new w6 _
          obtain ⟨⟨y0, y1, y2⟩, _⟩ := cells3P hz8n
          rw [← hwn, ← hg8n] at y0 y1 y2
          have HWN := Lib.hid hwn
          have HG8N := Lib.hid hg8n
          have HZ8N := Lib.hid hz8n
          have HBN := Lib.hid hbn
          clear hwn hz8n hbn
          go_wp2_with fail
          rw [HWN.out]
          try simp only [HG8N.out]
          clear y0 y1 y2
          refine (fbeh_pow aQ aQ TQ cQ TQ cQ wn HI.out HPQ.out HPQ.out (by omega) (HRQ6.out.up HBN.out) (HRQ6.out.up HBN.out)).mono ?_; rintro e9' w8 ⟨aN, N, tn, rfl, hrn, hpn, hln, hb⟩
          have hz8 := (hb.block _ (heap_ltP HZ8N.out)).trans HZ8N.out
          obtain ⟨⟨z0, z1, z2⟩, u0, u1, u2⟩ := cells3P hz8
          obtain ⟨w9, e9, hk, hs, hbl, hz⟩ := set3P hz8 (.int .i64 k) (.int .i64 0) (.slice (some ⟨aN, 0, none⟩) N N)
          have hw8 : w6.heap.size = g8n := hg8n
          have hsn := HBN.out.size
          have hln2 : g8n < wn.heap.size := heap_ltP HZ8N.out
          have hlb := rk_ltP hrn (by rw [hrn.len, hpn.is.len]; exact Nat.pow_pos k1)
          have hb8 := hb.size
          have hh7 := heap_ltP HZ76.out
          have hhy := heap_ltP HZY6.out
          have hnn := HN6.out
          have HQ1 := Lib.hid (rk_heapP hrn hk hs (by omega))
          have HQ2 := Lib.hid hz
          have HQ3 := Lib.hid (rk_heapP ((HR6.out.up HBN.out).up hb) hk hs (by omega))
          have HQ4 := Lib.hid ((hk _ (by omega)).trans ((hb.block _ (by omega)).trans ((HBN.out.block _ hh7).trans HZ76.out)))
          have HQ5 := Lib.hid ((hk _ (by omega)).trans ((hb.block _ (by omega)).trans ((HBN.out.block _ hhy).trans HZY6.out)))
          have HQ6 : Hid (aM ≠ g7 ∧ W.heap.size + 1 < aM ∧ g7 < g8n ∧ aM < w9.heap.size) := ⟨by omega, by omega, by omega, by omega⟩
          have HQ7 : Hid (∀ b o, (some ⟨aN, 0, none⟩ : Option Addr) = some ⟨b, o, none⟩ → b ≠ g7 ∧ b < w9.heap.size) := fun b o e => by cases e; exact ⟨by omega, by omega⟩
          have HQ8 := Lib.hid (hbl W W.heap.size (by omega) (bstep (bstep HB6.out HBN.out) hb))
          have HPN : Hid (PowR k 0 tb (q + q) 0 tn) := hpn
          have HE9 := Lib.hid e9
          clear e9 hk hs hbl hz hz8 hrn hpn hln hb hw8 hsn hln2 hlb hb8 hh7 hhy hnn hg8n
          go_wp2
          rw [HE9.out]
          go_roundw
          case rel => exact ⟨H, q + e, q + q, g8n, aM, M, tm, some ⟨aN, 0, none⟩, N, N, tn, by omega, by go_num, rfl, HE2.out, HPM.out, HPN.out, HQ3.out, HQ1.out, HQ4.out, HQ2.out, HQ6.out, HQ7.out, HQ5.out, HQ8.out⟩
          case measure => simp [intOf]; omega
        · have m1 : (n : Int).tmod 2 = 0 := by rw [Int.tmod_eq_emod_of_nonneg (by omega)]; omega
          have m2 : (n : Int) % 2 = 0 := by omega
          have HE2 : Hid (e + (q + q) * H = t) := by
            show _ = _
            rw [← HEQ.out]
            have h1 : n = 2 * H := by omega
            rw [h1, Nat.add_mul, ← Nat.mul_assoc, Nat.mul_comm q 2, Nat.mul_assoc 2 q H]
            omega
          go_upto_region 21 with (fail)
          obtain ⟨g8n, hg8n⟩ : ∃ g, wr.heap.size = g := ⟨_, rfl⟩
          obtain ⟨wn, hwn⟩ : ∃ wn, wr.alloc (.cells #[.int .i64 k, .int .i64 0, .slice aQ TQ cQ] 24) = wn := ⟨_, rfl⟩
          have hbn : Below wr.heap.size wr wn := by rw [← hwn]; exact balloc (bnil wr) _
          have hz8n : wn.heap[g8n]? = some (.cells #[.int .i64 k, .int .i64 0, .slice aQ TQ cQ] 24) := by rw [← hwn, ← hg8n]; exact heap_alloc_new wr _
          obtain ⟨⟨y0, y1, y2⟩, _⟩ := cells3P hz8n
          rw [← hwn, ← hg8n] at y0 y1 y2
          have HWN := Lib.hid hwn
          have HG8N := Lib.hid hg8n
          have HZ8N := Lib.hid hz8n
          have HBN := Lib.hid hbn
          clear hwn hz8n hbn
          go_wp2_with fail
          rw [HWN.out]
          try simp only [HG8N.out]
          clear y0 y1 y2
          refine (fbeh_pow aQ aQ TQ cQ TQ cQ wn HI.out HPQ.out HPQ.out (by omega) (HRQ.out.up HBN.out) (HRQ.out.up HBN.out)).mono ?_; rintro e9' w8 ⟨aN, N, tn, rfl, hrn, hpn, hln, hb⟩
          have hz8 := (hb.block _ (heap_ltP HZ8N.out)).trans HZ8N.out
          obtain ⟨⟨z0, z1, z2⟩, u0, u1, u2⟩ := cells3P hz8
          obtain ⟨w9, e9, hk, hs, hbl, hz⟩ := set3P hz8 (.int .i64 k) (.int .i64 0) (.slice (some ⟨aN, 0, none⟩) N N)
          have hw8 : wr.heap.size = g8n := hg8n
          have hsn := HBN.out.size
          have hln2 : g8n < wn.heap.size := heap_ltP HZ8N.out
          have hlb := rk_ltP hrn (by rw [hrn.len, hpn.is.len]; exact Nat.pow_pos k1)
          have hb8 := hb.size
          have hh7 := heap_ltP HZ7.out
          have hhy := heap_ltP HZY1.out
          have hnn := HN.out
          have HQ1 := Lib.hid (rk_heapP hrn hk hs (by omega))
          have HQ2 := Lib.hid hz
          have HQ3 := Lib.hid (rk_heapP ((HRI.out.up HBN.out).up hb) hk hs (by omega))
          have HQ4 := Lib.hid ((hk _ (by omega)).trans ((hb.block _ (by omega)).trans ((HBN.out.block _ hh7).trans HZ7.out)))
          have HQ5 := Lib.hid ((hk _ (by omega)).trans ((hb.block _ (by omega)).trans ((HBN.out.block _ hhy).trans HZY1.out)))
          have HQ6 : Hid (aI ≠ g7 ∧ W.heap.size + 1 < aI ∧ g7 < g8n ∧ aI < w9.heap.size) := ⟨by omega, by omega, by omega, by omega⟩
          have HQ7 : Hid (∀ b o, (some ⟨aN, 0, none⟩ : Option Addr) = some ⟨b, o, none⟩ → b ≠ g7 ∧ b < w9.heap.size) := fun b o e => by cases e; exact ⟨by omega, by omega⟩
          have HQ8 := Lib.hid (hbl W W.heap.size (by omega) (bstep (bstep HB.out HBN.out) hb))
          have HPN : Hid (PowR k 0 tb (q + q) 0 tn) := hpn
          have HE9 := Lib.hid e9
          clear e9 hk hs hbl hz hz8 hrn hpn hln hb hw8 hsn hln2 hlb hb8 hh7 hhy hnn hg8n
          go_wp2
          rw [HE9.out]
          go_roundw
          case rel => exact ⟨H, e, q + q, g8n, aI, TI, tp, some ⟨aN, 0, none⟩, N, N, tn, by omega, by go_num, rfl, HE2.out, HPE.out, HPN.out, HQ3.out, HQ1.out, HQ4.out, HQ2.out, HQ6.out, HQ7.out, HQ5.out, HQ8.out⟩
          case measure => simp [intOf]; omega
      · obtain rfl : n = 0 := by omega
        have n1 : ¬ (0 : Int) < (0 : Int) := by omega
        have HPT : Hid (PowR k 0 tb t 0 tp) := by have h := HEQ.out; rw [Nat.mul_zero, Nat.add_zero] at h; rw [← h]; exact HPE.out
        clear x0 x1 x2 d0 d1 d2
        obtain ⟨⟨p0, p1, p2⟩, f3, f4, f5⟩ := cells3P HZY1.out
        obtain ⟨w9, e9, hk, hs, hbl, hz⟩ := set3P HZY1.out (.int .i64 k) (.int .i64 0) (.slice (some ⟨aI, 0, none⟩) TI TI)
        obtain ⟨⟨r0, r1, r2⟩, _⟩ := cells3P hz
        have HRK9 := Lib.hid (rk_heapP HRI.out hk hs (by have := HN.out; omega))
        have HBE := Lib.hid (hbl W W.heap.size (by omega) HB.out)
        have HE9 := Lib.hid e9
        have HRR := Lib.hid (And.intro r0 (And.intro r1 r2))
        clear e9 hk hs hbl hz r0 r1 r2
        go_wp2
        rw [HE9.out]
        have r0 := HRR.out.1
        have r1 := HRR.out.2.1
        have r2 := HRR.out.2.2
        refine bodyPost_ret (v := .tuple #[ruleV k 0 (some ⟨aI, 0, none⟩) TI TI, .nilIface]) (by simp [ruleV, results, Tryd.results6, go_sem, r0, r1, r2]) rfl ?_
        exact ⟨aI, _, TI, _, rfl, HRK9.out, HPT.out, HBE.out⟩
end Go.Proofs.YtnmegpplfbkpcaaDoor
