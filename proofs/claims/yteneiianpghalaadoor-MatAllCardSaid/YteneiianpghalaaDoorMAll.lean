/- The walk of edenlaw16.MatAll. -/
import Derived.Test.YteneiianpghalaaDoorMatQ
import Derived.Test.YteneiianpghalaaDoorMatO
import Derived.Test.YteneiianpghalaaDoorMatE
namespace Go.Proofs.YteneiianpghalaaDoor
open Go.RowKit
set_option linter.unusedVariables false
set_option maxRecDepth 100000

theorem Chain.othQ {w w6 : World} {g : Nat} (hk : ∀ k, k ≠ g → w6.heap[k]? = w.heap[k]?) (hz : ∀ o i x, w.heap[g]? ≠ some (faultObj o i x)) : ∀ {l : List (ByteArray × Int)} {v : Value} {a : Addr}, a.block ≠ g → Chain w v l a → Chain w6 v l a
  | [], v, a, ha, h => by
    obtain ⟨h1, c, t, h2⟩ := h
    exact ⟨h1, c, t, by rw [hk _ ha]; exact h2⟩
  | y :: r, v, a, ha, h => by
    obtain ⟨b, x, h1, h2, h3⟩ := h
    have hb : b ≠ g := fun e => hz _ _ _ (e ▸ h2)
    exact ⟨b, x, h1, by rw [hk b hb]; exact h2, Chain.othQ hk hz ha h3⟩
theorem EC.othQ {R : Nat → Addr} {W w w6 : World} {g : Nat} {v : Value} {f : ErrD} {i : Int} {y z : Value} {t : TypeId} (h : EC R w v f) (hS : Sent W R) (hk : ∀ k, k ≠ g → w6.heap[k]? = w.heap[k]?) (hz : w.heap[g]? = some (.cells #[.int .i64 i, y, z] t)) (hg : W.heap.size ≤ g) : EC R w6 v f := by
  cases f with
  | none => exact h
  | some x =>
    refine Chain.othQ hk (fun o i x e => ?_) ?_ h
    · rw [hz] at e
      simp [faultObj] at e
    · obtain ⟨c, t, e⟩ := hS.row (rix x.2) (rix_lt _)
      have := (Array.getElem?_eq_some_iff.1 e).1
      omega
theorem mulE_or (na nb : Nat) (ga gb : Nat → Nat) : ∃ m f, MulE na nb ga gb m f ∧ m ≤ na := by
  rcases matBad_or na ga with h | ⟨x, h⟩
  · rcases matBad_or nb gb with h2 | ⟨x, h2⟩
    · by_cases e : na = nb
      · exact ⟨_, _, .inr (.inr (.inr ⟨h, h2, e, rfl, rfl⟩)), Nat.le_refl _⟩
      · exact ⟨_, _, .inr (.inr (.inl ⟨h, h2, e, rfl, rfl⟩)), Nat.zero_le _⟩
    · exact ⟨_, _, .inr (.inl ⟨h, x, h2, rfl, rfl⟩), Nat.zero_le _⟩
  · exact ⟨_, _, .inl ⟨x, h, rfl, rfl⟩, Nat.zero_le _⟩
theorem powE_or (na : Nat) (ga : Nat → Nat) (N : Int) : ∃ m f, PowE na ga N m f ∧ m ≤ na := by
  rcases matBad_or na ga with h | ⟨x, h⟩
  · by_cases h1 : N < 0
    · exact ⟨_, _, .inr (.inl ⟨h, h1, rfl, rfl⟩), Nat.zero_le _⟩
    · by_cases h2 : 1024 < N
      · exact ⟨_, _, .inr (.inr (.inl ⟨h, h2, rfl, rfl⟩)), Nat.zero_le _⟩
      · exact ⟨_, _, .inr (.inr (.inr ⟨h, by omega, by omega, rfl, rfl⟩)), Nat.le_refl _⟩
  · exact ⟨_, _, .inl ⟨x, h, rfl, rfl⟩, Nat.zero_le _⟩
theorem traceE_or (na : Nat) (ga : Nat → Nat) (A : Nat → Nat → List Nat) : ∃ l f, TraceE na ga A l f := by
  rcases matBad_or na ga with h | ⟨x, h⟩
  · exact ⟨_, _, .inr ⟨h, rfl, rfl⟩⟩
  · exact ⟨_, _, .inl ⟨x, h, rfl, rfl⟩⟩
theorem goE_or (nv na : Nat) (ga : Nat → Nat) : ∃ m f, GoE nv na ga m f ∧ m ≤ na := by
  rcases matBad_or na ga with h | ⟨x, h⟩
  · by_cases e : nv = na
    · exact ⟨_, _, .inr (.inr ⟨h, e, rfl, rfl⟩), Nat.le_refl _⟩
    · exact ⟨_, _, .inr (.inl ⟨h, e, rfl, rfl⟩), Nat.zero_le _⟩
  · exact ⟨_, _, .inl ⟨x, h, rfl, rfl⟩, Nat.zero_le _⟩
theorem light_lent {n : Nat} {g : Nat → Nat} {F : Nat → Nat → List Nat} (h : Light n g F) : ∀ i, i < n → g i ≤ 96 ∧ ∀ j, j < g i → (F i j).length ≤ 1000 := fun i hi => ⟨Nat.le_trans (h.2 i hi).1 (by decide), fun j hj => Nat.le_trans ((h.2 i hi).2 j hj) (by decide)⟩
theorem light_len {n : Nat} {g : Nat → Nat} {F : Nat → Nat → List Nat} (h : Light n g F) (L : Nat) (hL : 8 ≤ L) : ∀ i j, i < n → j < g i → (F i j).length ≤ L := fun i j hi hj => Nat.le_trans ((h.2 i hi).2 j hj) hL
theorem traceE_len {w : World} {a : Option Addr} {n : Nat} {g : Nat → Nat} {F : Nat → Nat → List Nat} {l : List Nat} {f : ErrD} (h : TraceE n g F l f) (hM : MsR w a n g F) (hl : Light n g F) : l.length ≤ 9 := by
  rcases h with ⟨x, _, rfl, _⟩ | ⟨hs, rfl, _⟩
  · exact Nat.zero_le _
  · exact trc_len (bdM_of (hM.square hs.2) fun i j hi hj => light_len hl 8 (Nat.le_refl _) i j hi (by rw [hs.2 i hi]; exact hj)) (by have := hl.1; omega) (Nat.le_refl _)
theorem sized16 (N : Int) (W : World) : Calls Tryd.prog 38 #[.int .i64 N] W fun e w' => ∃ N', e = .returned (.int .i64 N') ∧ W = w' := by
  by_cases h1 : 40 < N
  · by_cases h2 : N ≤ 1024
    · go_enter Tryd.func38, Tryd.ntmps38
      go_wp2
      go_ret
      first | exact ⟨_, rfl, rfl⟩ | exact ⟨⟨_, rfl⟩, rfl⟩ | exact ⟨_, rfl⟩
    · go_enter Tryd.func38, Tryd.ntmps38
      go_wp2
      go_ret
      first | exact ⟨_, rfl, rfl⟩ | exact ⟨⟨_, rfl⟩, rfl⟩ | exact ⟨_, rfl⟩
  · go_enter Tryd.func38, Tryd.ntmps38
    go_wp2
    go_ret
    first | exact ⟨_, rfl, rfl⟩ | exact ⟨⟨_, rfl⟩, rfl⟩ | exact ⟨_, rfl⟩

set_option maxHeartbeats 32000000 in
theorem mall_row (aa : Option Addr) (na ca : Nat) (ga : Nat → Nat) (A : Nat → Nat → List Nat) (ab : Option Addr) (nb cb : Nat) (gb : Nat → Nat) (B : Nat → Nat → List Nat) (N0 : Int) (W : World) (R : Nat → Addr) (hE : Env W R)
    (hA : MsR W aa na ga A) (la : na ≤ ca) (za : ca * 24 ≤ 140737488351232) (qa : aa = none → ca = 0) (hB : MsR W ab nb gb B) (lb : nb ≤ cb) (zb : cb * 24 ≤ 140737488351232) (qb : ab = none → cb = 0) :
    Calls Tryd.prog 8 #[.slice aa na ca, .slice ab nb cb, .int .i64 N0] W (TrueBelow W) := by
  have hma : na ≤ maxLen := by unfold maxLen; omega
  have hmb : nb ≤ maxLen := by unfold maxLen; omega
  have HE := Lib.hid hE
  have HA := Lib.hid hA
  have HB := Lib.hid hB
  clear hE hA hB la lb za zb qa qb
  go_enter Tryd.func8, Tryd.ntmps8
  go_wp2_with fail
  refine (awake16 _).mono ?_; rintro e w1 ⟨rfl, hb1⟩
  go_wp2_with fail
  refine (heavy_any aa na ca ga A _ (HA.out.up hb1) hma).mono ?_; rintro e w2 ⟨b, rfl, hL, rfl⟩
  cases b with
  | true =>
    clear hL
    go_wp2
    go_ret
    exact ⟨rfl, hb1⟩
  | false =>
  have HLa := Lib.hid (hL rfl); clear hL
  go_wp2_with fail
  refine (heavy_any ab nb cb gb B _ (HB.out.up hb1) hmb).mono ?_; rintro e w2 ⟨b, rfl, hL, rfl⟩
  cases b with
  | true =>
    clear hL
    go_wp2
    go_ret
    exact ⟨rfl, hb1⟩
  | false =>
  have HLb := Lib.hid (hL rfl); clear hL
  have na12 : na ≤ 12 := HLa.out.1
  have nb12 : nb ≤ 12 := HLb.out.1
  clear hma hmb
  go_wp2_with fail
  refine (lent16_any aa na ca ga A _ (HA.out.up hb1) (by omega) (light_lent HLa.out)).mono ?_; rintro e w2 ⟨ax, cx, rx, ix, rfl, hX, hb2⟩
  have hb12 := bstep hb1 hb2
  go_wp2_with fail
  refine (lent16_any ab nb cb gb B _ (HB.out.up hb12) (by omega) (light_lent HLb.out)).mono ?_; rintro e w0 ⟨ay, cy, ry, iy, rfl, hY, hb3⟩
  have HX := Lib.hid (hX.up hb3)
  have HY := Lib.hid hY
  have HBW := Lib.hid (bstep hb12 hb3)
  have HXM : Hid (MsR w0 ax na ga A) := HX.out.msR
  have HYM : Hid (MsR w0 ay nb gb B) := HY.out.msR
  have HA0 := Lib.hid (HA.out.up HBW.out)
  have HB00 := Lib.hid (HB.out.up HBW.out)
  have HE0 := Lib.hid (HE.out.up HBW.out)
  have HB0 := Lib.hid (bnil w0)
  clear hX hY hb1 hb2 hb12 hb3 HA HB
  go_wp2_with fail
  refine (sized16 N0 _).mono ?_; rintro e w' ⟨N, rfl, rfl⟩
  obtain ⟨m1, f1, hq1, hm1⟩ := mulE_or na nb ga gb
  have HM1 := Lib.hid hq1
  obtain ⟨m2, f2, hq2, hm2⟩ := powE_or na ga N
  have HM2 := Lib.hid hq2
  obtain ⟨l3, f3, hq3⟩ := traceE_or na ga A
  have HM3 := Lib.hid hq3
  have HL3 := Lib.hid (traceE_len hq3 HXM.out HLa.out)
  obtain ⟨f4, hq4⟩ := matErr_or na ga
  have HM4 := Lib.hid hq4
  clear hq1 hq2 hq3 hq4
  go_wp2_with fail
  refine (pmul ax na cx ga A ay nb cy gb B _ R (HE0.out.up HB0.out).sent (HE0.out.up HB0.out).sent.glob (HXM.out.up HB0.out) (by omega) (light_len HLa.out 90000 (by decide)) (HYM.out.up HB0.out) (by omega) (light_len HLb.out 90000 (by decide)) m1 f1 HM1.out).mono ?_; rintro e w1 ⟨a1, c1, ev1, rfl, hr, he, hb⟩
  have R1_1 := Lib.hid hr
  have V1_1 := Lib.hid he
  clear hr he
  have HB1 := Lib.hid (bstep HB0.out hb)
  clear hb
  go_wp2_with fail
  refine (ref16mul aa ab na nb ca cb ga gb A B _ (HA0.out.up HB1.out) (HB00.out.up HB1.out) (by omega) (by omega) (light_len HLa.out 90000 (by decide)) (light_len HLb.out 90000 (by decide)) m1 f1 HM1.out).mono ?_; rintro e w2 ⟨b1, d1, oN, oa1, on1, oc1, oa2, on2, oc2, rfl, hr, he, hb⟩
  have S1_2 := Lib.hid hr
  have X1_2 := Lib.hid he
  clear hr he
  have HB2 := Lib.hid (bstep HB1.out hb)
  have R1_2 := Lib.hid (R1_1.out.up hb)
  clear R1_1
  have V1_2 := Lib.hid (V1_1.out.up hb)
  clear V1_1
  clear hb
  go_wp2_with fail
  obtain ⟨gA, hg⟩ : ∃ gA, w2.heap.size = gA := ⟨_, rfl⟩
  obtain ⟨w3, hw⟩ : ∃ w3, w2.alloc (.cells #[.int .i64 oN, .slice oa1 on1 oc1, .slice oa2 on2 oc2] 53) = w3 := ⟨_, rfl⟩
  have hb : Below w2.heap.size w2 w3 := by rw [← hw]; exact balloc (bnil w2) _
  have HZA_3 : Hid (w3.heap[gA]? = some (.cells #[.int .i64 oN, .slice oa1 on1 oc1, .slice oa2 on2 oc2] 53)) := by show _ = _; rw [← hw, ← hg]; exact heap_alloc_new w2 _
  have HGA : Hid (w0.heap.size ≤ gA) := by show _ ≤ _; rw [← hg]; exact HB2.out.size
  rw [hw]
  simp only [hg]
  clear hw hg
  have HB3 := Lib.hid (bstep HB2.out hb)
  have R1_3 := Lib.hid (R1_2.out.up hb)
  clear R1_2
  have V1_3 := Lib.hid (V1_2.out.up hb)
  clear V1_2
  have S1_3 := Lib.hid (S1_2.out.up hb)
  clear S1_2
  have X1_3 := Lib.hid (X1_2.out.up hb)
  clear X1_2
  clear hb
  refine (ppow ax na cx ga A N _ R (HE0.out.up HB3.out).sent (HE0.out.up HB3.out).sent.glob (HXM.out.up HB3.out) (by omega) (light_len HLa.out 80 (by decide)) m2 f2 HM2.out).mono ?_; rintro e w4 ⟨a2, c2, ev2, rfl, hr, he, hb⟩
  have R2_4 := Lib.hid hr
  have V2_4 := Lib.hid he
  clear hr he
  have HB4 := Lib.hid (bstep HB3.out hb)
  have R1_4 := Lib.hid (R1_3.out.up hb)
  clear R1_3
  have V1_4 := Lib.hid (V1_3.out.up hb)
  clear V1_3
  have S1_4 := Lib.hid (S1_3.out.up hb)
  clear S1_3
  have X1_4 := Lib.hid (X1_3.out.up hb)
  clear X1_3
  have HZA_4 := Lib.hid ((hb.block _ (heap_ltQ HZA_3.out)).trans HZA_3.out)
  clear HZA_3
  clear hb
  go_wp2_with fail
  refine (ref16pow aa na ca ga A N _ (HA0.out.up HB4.out) (by omega) (light_len HLa.out 80 (by decide)) m2 f2 HM2.out).mono ?_; rintro e w5 ⟨b2, d2, pN, pa1, pn1, pc1, pa2, pn2, pc2, rfl, hr, he, hb⟩
  have S2_5 := Lib.hid hr
  have X2_5 := Lib.hid he
  clear hr he
  have HB5 := Lib.hid (bstep HB4.out hb)
  have R1_5 := Lib.hid (R1_4.out.up hb)
  clear R1_4
  have V1_5 := Lib.hid (V1_4.out.up hb)
  clear V1_4
  have S1_5 := Lib.hid (S1_4.out.up hb)
  clear S1_4
  have X1_5 := Lib.hid (X1_4.out.up hb)
  clear X1_4
  have HZA_5 := Lib.hid ((hb.block _ (heap_ltQ HZA_4.out)).trans HZA_4.out)
  clear HZA_4
  have R2_5 := Lib.hid (R2_4.out.up hb)
  clear R2_4
  have V2_5 := Lib.hid (V2_4.out.up hb)
  clear V2_4
  clear hb
  go_wp2_with fail
  obtain ⟨gB, hg⟩ : ∃ gB, w5.heap.size = gB := ⟨_, rfl⟩
  obtain ⟨w6, hw⟩ : ∃ w6, w5.alloc (.cells #[.int .i64 pN, .slice pa1 pn1 pc1, .slice pa2 pn2 pc2] 53) = w6 := ⟨_, rfl⟩
  have hb : Below w5.heap.size w5 w6 := by rw [← hw]; exact balloc (bnil w5) _
  have HZB_6 : Hid (w6.heap[gB]? = some (.cells #[.int .i64 pN, .slice pa1 pn1 pc1, .slice pa2 pn2 pc2] 53)) := by show _ = _; rw [← hw, ← hg]; exact heap_alloc_new w5 _
  have HGB : Hid (w0.heap.size ≤ gB) := by show _ ≤ _; rw [← hg]; exact HB5.out.size
  rw [hw]
  simp only [hg]
  clear hw hg
  have HB6 := Lib.hid (bstep HB5.out hb)
  have R1_6 := Lib.hid (R1_5.out.up hb)
  clear R1_5
  have V1_6 := Lib.hid (V1_5.out.up hb)
  clear V1_5
  have S1_6 := Lib.hid (S1_5.out.up hb)
  clear S1_5
  have X1_6 := Lib.hid (X1_5.out.up hb)
  clear X1_5
  have HZA_6 := Lib.hid ((hb.block _ (heap_ltQ HZA_5.out)).trans HZA_5.out)
  clear HZA_5
  have R2_6 := Lib.hid (R2_5.out.up hb)
  clear R2_5
  have V2_6 := Lib.hid (V2_5.out.up hb)
  clear V2_5
  have S2_6 := Lib.hid (S2_5.out.up hb)
  clear S2_5
  have X2_6 := Lib.hid (X2_5.out.up hb)
  clear X2_5
  clear hb
  refine (ptrace ax na cx ga A _ R (HE0.out.up HB6.out).sent (HE0.out.up HB6.out).sent.glob (HXM.out.up HB6.out) (by omega) (light_len HLa.out 90000 (by decide)) l3 f3 HM3.out).mono ?_; rintro e w7 ⟨a3, n3, c3, ev3, rfl, hr, hn3, he, hb⟩
  have R3_7 := Lib.hid hr
  have V3_7 := Lib.hid he
  clear hr he
  have HB7 := Lib.hid (bstep HB6.out hb)
  have R1_7 := Lib.hid (R1_6.out.up hb)
  clear R1_6
  have V1_7 := Lib.hid (V1_6.out.up hb)
  clear V1_6
  have S1_7 := Lib.hid (S1_6.out.up hb)
  clear S1_6
  have X1_7 := Lib.hid (X1_6.out.up hb)
  clear X1_6
  have HZA_7 := Lib.hid ((hb.block _ (heap_ltQ HZA_6.out)).trans HZA_6.out)
  clear HZA_6
  have R2_7 := Lib.hid (R2_6.out.up hb)
  clear R2_6
  have V2_7 := Lib.hid (V2_6.out.up hb)
  clear V2_6
  have S2_7 := Lib.hid (S2_6.out.up hb)
  clear S2_6
  have X2_7 := Lib.hid (X2_6.out.up hb)
  clear X2_6
  have HZB_7 := Lib.hid ((hb.block _ (heap_ltQ HZB_6.out)).trans HZB_6.out)
  clear HZB_6
  clear hb
  have hn3b : n3 ≤ 9 := Nat.le_trans hn3 HL3.out
  clear hn3
  go_wp2_with fail
  refine (ref16trace aa na ca ga A _ (HA0.out.up HB7.out) (by omega) (light_len HLa.out 90000 (by decide)) l3 f3 HM3.out).mono ?_; rintro e w8 ⟨b3, k3, d3, qN, qa1, qn1, qc1, qa2, qn2, qc2, rfl, hr, he, hb⟩
  have S3_8 := Lib.hid hr
  have X3_8 := Lib.hid he
  clear hr he
  have HB8 := Lib.hid (bstep HB7.out hb)
  have R1_8 := Lib.hid (R1_7.out.up hb)
  clear R1_7
  have V1_8 := Lib.hid (V1_7.out.up hb)
  clear V1_7
  have S1_8 := Lib.hid (S1_7.out.up hb)
  clear S1_7
  have X1_8 := Lib.hid (X1_7.out.up hb)
  clear X1_7
  have HZA_8 := Lib.hid ((hb.block _ (heap_ltQ HZA_7.out)).trans HZA_7.out)
  clear HZA_7
  have R2_8 := Lib.hid (R2_7.out.up hb)
  clear R2_7
  have V2_8 := Lib.hid (V2_7.out.up hb)
  clear V2_7
  have S2_8 := Lib.hid (S2_7.out.up hb)
  clear S2_7
  have X2_8 := Lib.hid (X2_7.out.up hb)
  clear X2_7
  have HZB_8 := Lib.hid ((hb.block _ (heap_ltQ HZB_7.out)).trans HZB_7.out)
  clear HZB_7
  have R3_8 := Lib.hid (R3_7.out.up hb)
  clear R3_7
  have V3_8 := Lib.hid (V3_7.out.up hb)
  clear V3_7
  clear hb
  go_wp2_with fail
  obtain ⟨gC, hg⟩ : ∃ gC, w8.heap.size = gC := ⟨_, rfl⟩
  obtain ⟨w9, hw⟩ : ∃ w9, w8.alloc (.cells #[.int .i64 qN, .slice qa1 qn1 qc1, .slice qa2 qn2 qc2] 53) = w9 := ⟨_, rfl⟩
  have hb : Below w8.heap.size w8 w9 := by rw [← hw]; exact balloc (bnil w8) _
  have HZC_9 : Hid (w9.heap[gC]? = some (.cells #[.int .i64 qN, .slice qa1 qn1 qc1, .slice qa2 qn2 qc2] 53)) := by show _ = _; rw [← hw, ← hg]; exact heap_alloc_new w8 _
  have HGC : Hid (w0.heap.size ≤ gC) := by show _ ≤ _; rw [← hg]; exact HB8.out.size
  rw [hw]
  simp only [hg]
  clear hw hg
  have HB9 := Lib.hid (bstep HB8.out hb)
  have R1_9 := Lib.hid (R1_8.out.up hb)
  clear R1_8
  have V1_9 := Lib.hid (V1_8.out.up hb)
  clear V1_8
  have S1_9 := Lib.hid (S1_8.out.up hb)
  clear S1_8
  have X1_9 := Lib.hid (X1_8.out.up hb)
  clear X1_8
  have HZA_9 := Lib.hid ((hb.block _ (heap_ltQ HZA_8.out)).trans HZA_8.out)
  clear HZA_8
  have R2_9 := Lib.hid (R2_8.out.up hb)
  clear R2_8
  have V2_9 := Lib.hid (V2_8.out.up hb)
  clear V2_8
  have S2_9 := Lib.hid (S2_8.out.up hb)
  clear S2_8
  have X2_9 := Lib.hid (X2_8.out.up hb)
  clear X2_8
  have HZB_9 := Lib.hid ((hb.block _ (heap_ltQ HZB_8.out)).trans HZB_8.out)
  clear HZB_8
  have R3_9 := Lib.hid (R3_8.out.up hb)
  clear R3_8
  have V3_9 := Lib.hid (V3_8.out.up hb)
  clear V3_8
  have S3_9 := Lib.hid (S3_8.out.up hb)
  clear S3_8
  have X3_9 := Lib.hid (X3_8.out.up hb)
  clear X3_8
  clear hb
  refine (same_eq a1 b1 m1 c1 d1 (fun _ => m1) _ _ R1_9.out S1_9.out (by omega) (fun _ _ => by omega)).mono ?_; rintro e w10 ⟨rfl, hb⟩
  have HB10 := Lib.hid (bstep HB9.out hb)
  have R1_10 := Lib.hid (R1_9.out.up hb)
  clear R1_9
  have V1_10 := Lib.hid (V1_9.out.up hb)
  clear V1_9
  have S1_10 := Lib.hid (S1_9.out.up hb)
  clear S1_9
  have X1_10 := Lib.hid (X1_9.out.up hb)
  clear X1_9
  have HZA_10 := Lib.hid ((hb.block _ (heap_ltQ HZA_9.out)).trans HZA_9.out)
  clear HZA_9
  have R2_10 := Lib.hid (R2_9.out.up hb)
  clear R2_9
  have V2_10 := Lib.hid (V2_9.out.up hb)
  clear V2_9
  have S2_10 := Lib.hid (S2_9.out.up hb)
  clear S2_9
  have X2_10 := Lib.hid (X2_9.out.up hb)
  clear X2_9
  have HZB_10 := Lib.hid ((hb.block _ (heap_ltQ HZB_9.out)).trans HZB_9.out)
  clear HZB_9
  have R3_10 := Lib.hid (R3_9.out.up hb)
  clear R3_9
  have V3_10 := Lib.hid (V3_9.out.up hb)
  clear V3_9
  have S3_10 := Lib.hid (S3_9.out.up hb)
  clear S3_9
  have X3_10 := Lib.hid (X3_9.out.up hb)
  clear X3_9
  have HZC_10 := Lib.hid ((hb.block _ (heap_ltQ HZC_9.out)).trans HZC_9.out)
  clear HZC_9
  clear hb
  obtain ⟨⟨q0, q1, q2⟩, u0, u1, u2⟩ := cellsq HZA_10.out
  go_wp2_with fail
  clear q0 q1 q2 u0 u1 u2
  refine (rawIs_ch ev1 _ f1 _ R (HE0.out.up HB10.out) V1_10.out X1_10.out).mono ?_; rintro e w11 ⟨rfl, hb⟩
  have HB11 := Lib.hid (bstep HB10.out hb)
  have R1_11 := Lib.hid (R1_10.out.up hb)
  clear R1_10
  have V1_11 := Lib.hid (V1_10.out.up hb)
  clear V1_10
  have S1_11 := Lib.hid (S1_10.out.up hb)
  clear S1_10
  have X1_11 := Lib.hid (X1_10.out.up hb)
  clear X1_10
  have HZA_11 := Lib.hid ((hb.block _ (heap_ltQ HZA_10.out)).trans HZA_10.out)
  clear HZA_10
  have R2_11 := Lib.hid (R2_10.out.up hb)
  clear R2_10
  have V2_11 := Lib.hid (V2_10.out.up hb)
  clear V2_10
  have S2_11 := Lib.hid (S2_10.out.up hb)
  clear S2_10
  have X2_11 := Lib.hid (X2_10.out.up hb)
  clear X2_10
  have HZB_11 := Lib.hid ((hb.block _ (heap_ltQ HZB_10.out)).trans HZB_10.out)
  clear HZB_10
  have R3_11 := Lib.hid (R3_10.out.up hb)
  clear R3_10
  have V3_11 := Lib.hid (V3_10.out.up hb)
  clear V3_10
  have S3_11 := Lib.hid (S3_10.out.up hb)
  clear S3_10
  have X3_11 := Lib.hid (X3_10.out.up hb)
  clear X3_10
  have HZC_11 := Lib.hid ((hb.block _ (heap_ltQ HZC_10.out)).trans HZC_10.out)
  clear HZC_10
  clear hb
  go_wp2_with fail
  refine (same_eq a2 b2 m2 c2 d2 (fun _ => m2) _ _ R2_11.out S2_11.out (by omega) (fun _ _ => by omega)).mono ?_; rintro e w12 ⟨rfl, hb⟩
  have HB12 := Lib.hid (bstep HB11.out hb)
  have R1_12 := Lib.hid (R1_11.out.up hb)
  clear R1_11
  have V1_12 := Lib.hid (V1_11.out.up hb)
  clear V1_11
  have S1_12 := Lib.hid (S1_11.out.up hb)
  clear S1_11
  have X1_12 := Lib.hid (X1_11.out.up hb)
  clear X1_11
  have HZA_12 := Lib.hid ((hb.block _ (heap_ltQ HZA_11.out)).trans HZA_11.out)
  clear HZA_11
  have R2_12 := Lib.hid (R2_11.out.up hb)
  clear R2_11
  have V2_12 := Lib.hid (V2_11.out.up hb)
  clear V2_11
  have S2_12 := Lib.hid (S2_11.out.up hb)
  clear S2_11
  have X2_12 := Lib.hid (X2_11.out.up hb)
  clear X2_11
  have HZB_12 := Lib.hid ((hb.block _ (heap_ltQ HZB_11.out)).trans HZB_11.out)
  clear HZB_11
  have R3_12 := Lib.hid (R3_11.out.up hb)
  clear R3_11
  have V3_12 := Lib.hid (V3_11.out.up hb)
  clear V3_11
  have S3_12 := Lib.hid (S3_11.out.up hb)
  clear S3_11
  have X3_12 := Lib.hid (X3_11.out.up hb)
  clear X3_11
  have HZC_12 := Lib.hid ((hb.block _ (heap_ltQ HZC_11.out)).trans HZC_11.out)
  clear HZC_11
  clear hb
  obtain ⟨⟨q0, q1, q2⟩, u0, u1, u2⟩ := cellsq HZB_12.out
  go_wp2_with fail
  clear q0 q1 q2 u0 u1 u2
  refine (rawIs_ch ev2 _ f2 _ R (HE0.out.up HB12.out) V2_12.out X2_12.out).mono ?_; rintro e w13 ⟨rfl, hb⟩
  have HB13 := Lib.hid (bstep HB12.out hb)
  have R1_13 := Lib.hid (R1_12.out.up hb)
  clear R1_12
  have V1_13 := Lib.hid (V1_12.out.up hb)
  clear V1_12
  have S1_13 := Lib.hid (S1_12.out.up hb)
  clear S1_12
  have X1_13 := Lib.hid (X1_12.out.up hb)
  clear X1_12
  have HZA_13 := Lib.hid ((hb.block _ (heap_ltQ HZA_12.out)).trans HZA_12.out)
  clear HZA_12
  have R2_13 := Lib.hid (R2_12.out.up hb)
  clear R2_12
  have V2_13 := Lib.hid (V2_12.out.up hb)
  clear V2_12
  have S2_13 := Lib.hid (S2_12.out.up hb)
  clear S2_12
  have X2_13 := Lib.hid (X2_12.out.up hb)
  clear X2_12
  have HZB_13 := Lib.hid ((hb.block _ (heap_ltQ HZB_12.out)).trans HZB_12.out)
  clear HZB_12
  have R3_13 := Lib.hid (R3_12.out.up hb)
  clear R3_12
  have V3_13 := Lib.hid (V3_12.out.up hb)
  clear V3_12
  have S3_13 := Lib.hid (S3_12.out.up hb)
  clear S3_12
  have X3_13 := Lib.hid (X3_12.out.up hb)
  clear X3_12
  have HZC_13 := Lib.hid ((hb.block _ (heap_ltQ HZC_12.out)).trans HZC_12.out)
  clear HZC_12
  clear hb
  go_wp2_with fail
  refine (nats_eq a3 b3 n3 k3 c3 d3 l3 _ R3_13.out S3_13.out (by unfold maxLen; omega)).mono ?_; rintro e w14 ⟨rfl, hb⟩
  have HB14 := Lib.hid (bstep HB13.out hb)
  have R1_14 := Lib.hid (R1_13.out.up hb)
  clear R1_13
  have V1_14 := Lib.hid (V1_13.out.up hb)
  clear V1_13
  have S1_14 := Lib.hid (S1_13.out.up hb)
  clear S1_13
  have X1_14 := Lib.hid (X1_13.out.up hb)
  clear X1_13
  have HZA_14 := Lib.hid ((hb.block _ (heap_ltQ HZA_13.out)).trans HZA_13.out)
  clear HZA_13
  have R2_14 := Lib.hid (R2_13.out.up hb)
  clear R2_13
  have V2_14 := Lib.hid (V2_13.out.up hb)
  clear V2_13
  have S2_14 := Lib.hid (S2_13.out.up hb)
  clear S2_13
  have X2_14 := Lib.hid (X2_13.out.up hb)
  clear X2_13
  have HZB_14 := Lib.hid ((hb.block _ (heap_ltQ HZB_13.out)).trans HZB_13.out)
  clear HZB_13
  have R3_14 := Lib.hid (R3_13.out.up hb)
  clear R3_13
  have V3_14 := Lib.hid (V3_13.out.up hb)
  clear V3_13
  have S3_14 := Lib.hid (S3_13.out.up hb)
  clear S3_13
  have X3_14 := Lib.hid (X3_13.out.up hb)
  clear X3_13
  have HZC_14 := Lib.hid ((hb.block _ (heap_ltQ HZC_13.out)).trans HZC_13.out)
  clear HZC_13
  clear hb
  obtain ⟨⟨q0, q1, q2⟩, u0, u1, u2⟩ := cellsq HZC_14.out
  go_wp2_with fail
  clear q0 q1 q2 u0 u1 u2
  refine (rawIs_ch ev3 _ f3 _ R (HE0.out.up HB14.out) V3_14.out X3_14.out).mono ?_; rintro e w15 ⟨rfl, hb⟩
  have HB15 := Lib.hid (bstep HB14.out hb)
  have R1_15 := Lib.hid (R1_14.out.up hb)
  clear R1_14
  have V1_15 := Lib.hid (V1_14.out.up hb)
  clear V1_14
  have S1_15 := Lib.hid (S1_14.out.up hb)
  clear S1_14
  have X1_15 := Lib.hid (X1_14.out.up hb)
  clear X1_14
  have HZA_15 := Lib.hid ((hb.block _ (heap_ltQ HZA_14.out)).trans HZA_14.out)
  clear HZA_14
  have R2_15 := Lib.hid (R2_14.out.up hb)
  clear R2_14
  have V2_15 := Lib.hid (V2_14.out.up hb)
  clear V2_14
  have S2_15 := Lib.hid (S2_14.out.up hb)
  clear S2_14
  have X2_15 := Lib.hid (X2_14.out.up hb)
  clear X2_14
  have HZB_15 := Lib.hid ((hb.block _ (heap_ltQ HZB_14.out)).trans HZB_14.out)
  clear HZB_14
  have R3_15 := Lib.hid (R3_14.out.up hb)
  clear R3_14
  have V3_15 := Lib.hid (V3_14.out.up hb)
  clear V3_14
  have S3_15 := Lib.hid (S3_14.out.up hb)
  clear S3_14
  have X3_15 := Lib.hid (X3_14.out.up hb)
  clear X3_14
  have HZC_15 := Lib.hid ((hb.block _ (heap_ltQ HZC_14.out)).trans HZC_14.out)
  clear HZC_14
  clear hb
  clear R1_15
  clear S1_15
  clear V1_15
  clear X1_15
  clear R2_15
  clear S2_15
  clear V2_15
  clear X2_15
  clear R3_15
  clear S3_15
  clear V3_15
  clear X3_15
  clear HZB_15
  clear HZC_15
  go_wp2_with fail
  refine (pcheck ax na cx ga A _ R (HE0.out.up HB15.out).sent (HE0.out.up HB15.out).sent.glob (HXM.out.up HB15.out) (by omega) f4 HM4.out).mono ?_; rintro e w16 ⟨ev4, rfl, he, hb⟩
  have V4_16 := Lib.hid he
  clear he
  have HB16 := Lib.hid (bstep HB15.out hb)
  have HZA_16 := Lib.hid ((hb.block _ (heap_ltQ HZA_15.out)).trans HZA_15.out)
  clear HZA_15
  clear hb
  go_wp2_with fail
  refine (ref16check aa na ca ga A _ (HA0.out.up HB16.out) (by omega) f4 HM4.out).mono ?_; rintro e w17 ⟨rN, ra1, rn1, rc1, ra2, rn2, rc2, rfl, he, _, _, _, _, hb⟩
  have X4_17 := Lib.hid he
  clear he
  have HB17 := Lib.hid (bstep HB16.out hb)
  have HZA_17 := Lib.hid ((hb.block _ (heap_ltQ HZA_16.out)).trans HZA_16.out)
  clear HZA_16
  have V4_17 := Lib.hid (V4_16.out.up hb)
  clear V4_16
  clear hb
  go_wp2_with fail
  refine (rawIs_ch ev4 _ f4 _ R (HE0.out.up HB17.out) V4_17.out X4_17.out).mono ?_; rintro e w18 ⟨rfl, hb⟩
  have HB18 := Lib.hid (bstep HB17.out hb)
  have HZA_18 := Lib.hid ((hb.block _ (heap_ltQ HZA_17.out)).trans HZA_17.out)
  clear HZA_17
  have V4_18 := Lib.hid (V4_17.out.up hb)
  clear V4_17
  have X4_18 := Lib.hid (X4_17.out.up hb)
  clear X4_17
  clear hb
  clear V4_18
  clear X4_18
  by_cases hnb : nb = 0
  · subst hnb
    go_wp2_with fail
    obtain ⟨m5, f5, hq5, hm5⟩ := goE_or 0 na ga
    have HM5 := Lib.hid hq5
    clear hq5
    have HLA9 : Hid (gA < w18.heap.size) := heap_ltQ HZA_18.out
    refine (pgo none 0 0 (fun _ => []) ax na cx ga A _ R (HE0.out.up HB18.out).sent (HE0.out.up HB18.out).sent.glob (HXM.out.up HB18.out) (by omega) (light_len HLa.out 80 (by decide)) (.inl rfl) (by omega) (fun i hi => absurd hi (by omega)) m5 f5 HM5.out).mono ?_; rintro e w19 ⟨a5, c5, ev5, rfl, ⟨it5, hr⟩, he, hb⟩
    have R5_19 := Lib.hid (hr.base (show gA + 1 ≤ _ from HLA9.out))
    have V5_19 := Lib.hid he
    clear hr he
    have HB19 := Lib.hid (bstep HB18.out hb)
    have HZA_19 := Lib.hid ((hb.block _ (heap_ltQ HZA_18.out)).trans HZA_18.out)
    clear HZA_18
    clear hb
    go_wp2_with fail
    have HLA8 : Hid (gA < w19.heap.size) := heap_ltQ HZA_19.out
    refine (ref16go none 0 0 (fun _ => []) aa na ca ga A _ (.inl rfl) (HA0.out.up HB19.out) (by omega) (by omega) (fun i hi => absurd hi (by omega)) (light_len HLa.out 80 (by decide)) m5 f5 HM5.out).mono ?_; rintro e w20 ⟨b5, d5, sN, sa1, sn1, sc1, sa2, sn2, sc2, rfl, ⟨jt5, hr⟩, he, hf1, hf2, hb⟩
    have S5_20 := Lib.hid (hr.base (show gA + 1 ≤ _ from HLA8.out))
    have X5_20 := Lib.hid he
    have HF1 := Lib.hid (hf1.base (show gA + 1 ≤ _ from HLA8.out))
    have HF2 := Lib.hid (hf2.base (show gA + 1 ≤ _ from HLA8.out))
    clear hr he hf1 hf2
    have HB20 := Lib.hid (bstep HB19.out hb)
    have HZA_20 := Lib.hid ((hb.block _ (heap_ltQ HZA_19.out)).trans HZA_19.out)
    clear HZA_19
    have R5_20 := Lib.hid (R5_19.out.up hb)
    clear R5_19
    have V5_20 := Lib.hid (V5_19.out.up hb)
    clear V5_19
    clear hb
    obtain ⟨⟨q0, q1, q2⟩, u0, u1, u2⟩ := cellsq HZA_20.out
    obtain ⟨w21, e9, _, hk, hs, hbl, hzz⟩ := set3q HZA_20.out (.int .i64 sN) (.slice sa1 sn1 sc1) (.slice sa2 sn2 sc2)
    have HE9 := Lib.hid e9
    have HZA_21 := Lib.hid hzz
    have HB21 := Lib.hid (hbl w0 w0.heap.size HGA.out HB20.out)
    have R5_21 := Lib.hid (R5_20.out.heap (w' := w21) fun b hb => hk b (by omega))
    have S5_21 := Lib.hid (S5_20.out.heap (w' := w21) fun b hb => hk b (by omega))
    have V5_21 := Lib.hid (V5_20.out.othQ HE0.out.sent hk HZA_20.out HGA.out)
    have X5_21 := Lib.hid (X5_20.out.other hk hs HF1.out HF2.out)
    clear e9 hk hs hbl hzz R5_20 S5_20 V5_20 X5_20 HZA_20
    go_wp2_with fail
    rw [HE9.out]
    clear q0 q1 q2 u0 u1 u2
    refine (line_eq a5 b5 m5 c5 d5 _ _ R5_21.out.nsR S5_21.out.nsR (by omega)).mono ?_; rintro e w22 ⟨rfl, hb⟩
    have HB22 := Lib.hid (bstep HB21.out hb)
    have HZA_22 := Lib.hid ((hb.block _ (heap_ltQ HZA_21.out)).trans HZA_21.out)
    clear HZA_21
    have R5_22 := Lib.hid (R5_21.out.up hb)
    clear R5_21
    have V5_22 := Lib.hid (V5_21.out.up hb)
    clear V5_21
    have S5_22 := Lib.hid (S5_21.out.up hb)
    clear S5_21
    have X5_22 := Lib.hid (X5_21.out.up hb)
    clear X5_21
    clear hb
    obtain ⟨⟨q0, q1, q2⟩, u0, u1, u2⟩ := cellsq HZA_22.out
    go_wp2_with fail
    clear q0 q1 q2 u0 u1 u2
    refine (rawIs_ch ev5 _ f5 _ R (HE0.out.up HB22.out) V5_22.out X5_22.out).mono ?_; rintro e w23 ⟨rfl, hb⟩
    have HB23 := Lib.hid (bstep HB22.out hb)
    have HZA_23 := Lib.hid ((hb.block _ (heap_ltQ HZA_22.out)).trans HZA_22.out)
    clear HZA_22
    have R5_23 := Lib.hid (R5_22.out.up hb)
    clear R5_22
    have V5_23 := Lib.hid (V5_22.out.up hb)
    clear V5_22
    have S5_23 := Lib.hid (S5_22.out.up hb)
    clear S5_22
    have X5_23 := Lib.hid (X5_22.out.up hb)
    clear X5_22
    clear hb
    go_wp2_with fail
    refine (kept16_any _ _ na _ _ _ ga A _ _ _ (HX.out.up HB23.out) (HA0.out.up HB23.out) (by omega) (light_lent HLa.out)).mono ?_; rintro e w24 ⟨rfl, hb⟩
    have HB24 := Lib.hid (bstep HB23.out hb)
    have HZA_24 := Lib.hid ((hb.block _ (heap_ltQ HZA_23.out)).trans HZA_23.out)
    clear HZA_23
    have R5_24 := Lib.hid (R5_23.out.up hb)
    clear R5_23
    have V5_24 := Lib.hid (V5_23.out.up hb)
    clear V5_23
    have S5_24 := Lib.hid (S5_23.out.up hb)
    clear S5_23
    have X5_24 := Lib.hid (X5_23.out.up hb)
    clear X5_23
    clear hb
    go_wp2_with fail
    refine (kept16_any _ _ 0 _ _ _ gb B _ _ _ (HY.out.up HB24.out) (HB00.out.up HB24.out) (by omega) (light_lent HLb.out)).mono ?_; rintro e w25 ⟨rfl, hb⟩
    have HB25 := Lib.hid (bstep HB24.out hb)
    have HZA_25 := Lib.hid ((hb.block _ (heap_ltQ HZA_24.out)).trans HZA_24.out)
    clear HZA_24
    have R5_25 := Lib.hid (R5_24.out.up hb)
    clear R5_24
    have V5_25 := Lib.hid (V5_24.out.up hb)
    clear V5_24
    have S5_25 := Lib.hid (S5_24.out.up hb)
    clear S5_24
    have X5_25 := Lib.hid (X5_24.out.up hb)
    clear X5_24
    clear hb
    go_wp2
    go_ret
    exact ⟨rfl, bstep HBW.out HB25.out⟩
  · skip
    have nb1 : (0 : Int) < (nb : Int) := by omega
    have nb2 : (nb : Int) > 0 := by omega
    obtain ⟨by_, oy, rfl, ly, hcy⟩ := HYM.out.addr (by omega)
    obtain ⟨av, cv, y0, _, _, _, hv⟩ := hcy 0 (by omega)
    rw [Nat.add_zero] at y0
    obtain ⟨bb, ob, rfl, lb, hcb⟩ := HB00.out.addr (by omega)
    obtain ⟨aw, cw, z0, _, _, _, hw⟩ := hcb 0 (by omega)
    rw [Nat.add_zero] at z0
    have y1 := (HB18.out.cell (p := ⟨by_, oy, none⟩) ly).trans y0
    have z1 := (HB18.out.cell (p := ⟨bb, ob, none⟩) lb).trans z0
    have HV := Lib.hid hv
    have HW9 := Lib.hid hw
    clear hcy hcb y0 z0 hv hw ly lb
    go_wp2_with fail
    clear y1 z1
    obtain ⟨m5, f5, hq5, hm5⟩ := goE_or (gb 0) na ga
    have HM5 := Lib.hid hq5
    clear hq5
    have HLA9 : Hid (gA < w18.heap.size) := heap_ltQ HZA_18.out
    refine (pgo av (gb 0) cv (B 0) ax na cx ga A _ R (HE0.out.up HB18.out).sent (HE0.out.up HB18.out).sent.glob (HXM.out.up HB18.out) (by omega) (light_len HLa.out 80 (by decide)) (HV.out.up HB18.out) (Nat.le_trans (HLb.out.2 0 (by omega)).1 (by omega)) (fun i hi => light_len HLb.out 80 (by decide) 0 i (by omega) hi) m5 f5 HM5.out).mono ?_; rintro e w19 ⟨a5, c5, ev5, rfl, ⟨it5, hr⟩, he, hb⟩
    have R5_19 := Lib.hid (hr.base (show gA + 1 ≤ _ from HLA9.out))
    have V5_19 := Lib.hid he
    clear hr he
    have HB19 := Lib.hid (bstep HB18.out hb)
    have HZA_19 := Lib.hid ((hb.block _ (heap_ltQ HZA_18.out)).trans HZA_18.out)
    clear HZA_18
    clear hb
    go_wp2_with fail
    have HLA8 : Hid (gA < w19.heap.size) := heap_ltQ HZA_19.out
    refine (ref16go aw (gb 0) cw (B 0) aa na ca ga A _ (HW9.out.up HB19.out) (HA0.out.up HB19.out) (by omega) (Nat.le_trans (HLb.out.2 0 (by omega)).1 (by omega)) (fun i hi => light_len HLb.out 80 (by decide) 0 i (by omega) hi) (light_len HLa.out 80 (by decide)) m5 f5 HM5.out).mono ?_; rintro e w20 ⟨b5, d5, sN, sa1, sn1, sc1, sa2, sn2, sc2, rfl, ⟨jt5, hr⟩, he, hf1, hf2, hb⟩
    have S5_20 := Lib.hid (hr.base (show gA + 1 ≤ _ from HLA8.out))
    have X5_20 := Lib.hid he
    have HF1 := Lib.hid (hf1.base (show gA + 1 ≤ _ from HLA8.out))
    have HF2 := Lib.hid (hf2.base (show gA + 1 ≤ _ from HLA8.out))
    clear hr he hf1 hf2
    have HB20 := Lib.hid (bstep HB19.out hb)
    have HZA_20 := Lib.hid ((hb.block _ (heap_ltQ HZA_19.out)).trans HZA_19.out)
    clear HZA_19
    have R5_20 := Lib.hid (R5_19.out.up hb)
    clear R5_19
    have V5_20 := Lib.hid (V5_19.out.up hb)
    clear V5_19
    clear hb
    obtain ⟨⟨q0, q1, q2⟩, u0, u1, u2⟩ := cellsq HZA_20.out
    obtain ⟨w21, e9, _, hk, hs, hbl, hzz⟩ := set3q HZA_20.out (.int .i64 sN) (.slice sa1 sn1 sc1) (.slice sa2 sn2 sc2)
    have HE9 := Lib.hid e9
    have HZA_21 := Lib.hid hzz
    have HB21 := Lib.hid (hbl w0 w0.heap.size HGA.out HB20.out)
    have R5_21 := Lib.hid (R5_20.out.heap (w' := w21) fun b hb => hk b (by omega))
    have S5_21 := Lib.hid (S5_20.out.heap (w' := w21) fun b hb => hk b (by omega))
    have V5_21 := Lib.hid (V5_20.out.othQ HE0.out.sent hk HZA_20.out HGA.out)
    have X5_21 := Lib.hid (X5_20.out.other hk hs HF1.out HF2.out)
    clear e9 hk hs hbl hzz R5_20 S5_20 V5_20 X5_20 HZA_20
    go_wp2_with fail
    rw [HE9.out]
    clear q0 q1 q2 u0 u1 u2
    refine (line_eq a5 b5 m5 c5 d5 _ _ R5_21.out.nsR S5_21.out.nsR (by omega)).mono ?_; rintro e w22 ⟨rfl, hb⟩
    have HB22 := Lib.hid (bstep HB21.out hb)
    have HZA_22 := Lib.hid ((hb.block _ (heap_ltQ HZA_21.out)).trans HZA_21.out)
    clear HZA_21
    have R5_22 := Lib.hid (R5_21.out.up hb)
    clear R5_21
    have V5_22 := Lib.hid (V5_21.out.up hb)
    clear V5_21
    have S5_22 := Lib.hid (S5_21.out.up hb)
    clear S5_21
    have X5_22 := Lib.hid (X5_21.out.up hb)
    clear X5_21
    clear hb
    obtain ⟨⟨q0, q1, q2⟩, u0, u1, u2⟩ := cellsq HZA_22.out
    go_wp2_with fail
    clear q0 q1 q2 u0 u1 u2
    refine (rawIs_ch ev5 _ f5 _ R (HE0.out.up HB22.out) V5_22.out X5_22.out).mono ?_; rintro e w23 ⟨rfl, hb⟩
    have HB23 := Lib.hid (bstep HB22.out hb)
    have HZA_23 := Lib.hid ((hb.block _ (heap_ltQ HZA_22.out)).trans HZA_22.out)
    clear HZA_22
    have R5_23 := Lib.hid (R5_22.out.up hb)
    clear R5_22
    have V5_23 := Lib.hid (V5_22.out.up hb)
    clear V5_22
    have S5_23 := Lib.hid (S5_22.out.up hb)
    clear S5_22
    have X5_23 := Lib.hid (X5_22.out.up hb)
    clear X5_22
    clear hb
    go_wp2_with fail
    refine (kept16_any _ _ na _ _ _ ga A _ _ _ (HX.out.up HB23.out) (HA0.out.up HB23.out) (by omega) (light_lent HLa.out)).mono ?_; rintro e w24 ⟨rfl, hb⟩
    have HB24 := Lib.hid (bstep HB23.out hb)
    have HZA_24 := Lib.hid ((hb.block _ (heap_ltQ HZA_23.out)).trans HZA_23.out)
    clear HZA_23
    have R5_24 := Lib.hid (R5_23.out.up hb)
    clear R5_23
    have V5_24 := Lib.hid (V5_23.out.up hb)
    clear V5_23
    have S5_24 := Lib.hid (S5_23.out.up hb)
    clear S5_23
    have X5_24 := Lib.hid (X5_23.out.up hb)
    clear X5_23
    clear hb
    go_wp2_with fail
    refine (kept16_any _ _ nb _ _ _ gb B _ _ _ (HY.out.up HB24.out) (HB00.out.up HB24.out) (by omega) (light_lent HLb.out)).mono ?_; rintro e w25 ⟨rfl, hb⟩
    have HB25 := Lib.hid (bstep HB24.out hb)
    have HZA_25 := Lib.hid ((hb.block _ (heap_ltQ HZA_24.out)).trans HZA_24.out)
    clear HZA_24
    have R5_25 := Lib.hid (R5_24.out.up hb)
    clear R5_24
    have V5_25 := Lib.hid (V5_24.out.up hb)
    clear V5_24
    have S5_25 := Lib.hid (S5_24.out.up hb)
    clear S5_24
    have X5_25 := Lib.hid (X5_24.out.up hb)
    clear X5_24
    clear hb
    go_wp2
    go_ret
    exact ⟨rfl, bstep HBW.out HB25.out⟩
end Go.Proofs.YteneiianpghalaaDoor
