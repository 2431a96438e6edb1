/- The contract of edenref21.quarter. -/
import Derived.Test.YtocfkmdoalhjmaaDoorRefPD
import Derived.Deep.RegionLaw
namespace Go.Proofs.YtocfkmdoalhjmaaDoor
open Go.RowKit
set_option linter.unusedVariables false
set_option maxRecDepth 100000

theorem quarter_getD {w h : Nat} {l : List Int} {x y : Nat} (hx : x < h) (hy : y < w) : l.getD ((h - 1 - x) * w + y) 0 = (turnL w h l 1).getD (y * h + x) 0 := by
  have h1 : turnL w h l 1 = madeL h w (fun x y => atL w l y (h - 1 - x)) := rfl
  rw [h1, madeL_getD hx hy]
  rfl
theorem turn1_len (w h : Nat) (l : List Int) : (turnL w h l 1).length = h * w := madeL_len _ _ _

set_option maxHeartbeats 16000000 in
theorem refquarter (w h : Nat) (a : Option Addr) (n c : Nat) (l : List Int) (W : World) (hR : RK .i64 W a n l) (hm : n ≤ maxLen) (hp : IsPatch w h l) :
    Calls Tryd.prog 112 #[patV w h a n c] W fun e w' => ∃ a' c', e = .returned (patV h w a' (h * w) c') ∧ OwI w' W.heap.size a' (h * w) c' (turnL w h l 1) ∧ Below W.heap.size W w' := by
  have T0 := Tk.nil W
  have T1 := T0.add (fun wv => Below W.heap.size W wv) (bnil W)
  clear T0
  have T2 := T1.add (fun wv => RK .i64 wv a n l) (hR)
  clear T1
  have hw1 := hp.w1
  have hw2 := hp.w2
  have hh1 := hp.h1
  have hh2 := hp.h2
  have HPP := Lib.hid hp
  have hmx : n ≤ 9223372036854775807 := hm
  clear hR hp
  obtain ⟨Wb, hWb⟩ : ∃ Wb, (W.alloc (.cells #[.int .i64 w, .int .i64 h, .slice a n c] 24)).alloc (.cells #[.int .i64 0, .int .i64 0, .slice none 0 0] 24) = Wb := ⟨_, rfl⟩
  have hbWb : Below W.heap.size W Wb := by rw [← hWb]; exact balloc (balloc (bnil W) _) _
  have T3 := T2.up hbWb
  clear T2
  have T4 := T3.add (fun wv => wv.cell? ⟨W.heap.size, 0, none⟩ = some (.int .i64 w) ∧ wv.cell? ⟨W.heap.size, 1, none⟩ = some (.int .i64 h) ∧ wv.cell? ⟨W.heap.size, 2, none⟩ = some (.slice a n c)) (by rw [← hWb]; exact ⟨al000 (cnw (by simp) rfl), al000 (cnw (by simp) rfl), al000 (cnw (by simp) rfl)⟩)
  clear T3
  have HWb := Lib.hid hWb
  clear hWb hbWb
  have hz1 : Wb.heap[W.heap.size + 1]? = some (.cells #[.int .i64 0, .int .i64 0, .slice none 0 0] 24) := by
    rw [← HWb.out]
    have := heap_alloc_new (W.alloc (.cells #[.int .i64 w, .int .i64 h, .slice a n c] 24)) (.cells #[.int .i64 0, .int .i64 0, .slice none 0 0] 24)
    simpa using this
  have hsz : W.heap.size + 2 = Wb.heap.size := by rw [← HWb.out]; simp
  have T5 := T4.add (fun wv => wv.heap[W.heap.size + 1]? = some (.cells #[.int .i64 0, .int .i64 0, .slice none 0 0] 24)) (hz1)
  clear T4
  have HSZ := Lib.hid hsz
  clear hz1 hsz
  obtain ⟨LL, hLL⟩ : ∃ LL, turnL w h l 1 = LL := ⟨_, rfl⟩
  have HLL := Lib.hid hLL
  have hlen : LL.length = h * w := by rw [← hLL]; exact turn1_len _ _ _
  obtain ⟨K, hK⟩ : ∃ K, h * w = K := ⟨_, rfl⟩
  have hK4 : K ≤ 4096 := by rw [← hK]; exact Nat.mul_le_mul hh2 hw2
  rw [hK, hLL]
  rw [hK] at hlen
  have HK := Lib.hid hK
  have HLEN := Lib.hid hlen
  clear hLL hK hlen
  go_enter Tryd.func112, Tryd.ntmps112
  have v_p0 : ((W.alloc (.cells #[.int .i64 w, .int .i64 h, .slice a n c] 24)).alloc (.cells #[.int .i64 0, .int .i64 0, .slice none 0 0] 24)).cell? ⟨W.heap.size, 0, none⟩ = some (.int .i64 w) := by rw [HWb.out]; exact T5.out.1.2.1
  have v_p1 : ((W.alloc (.cells #[.int .i64 w, .int .i64 h, .slice a n c] 24)).alloc (.cells #[.int .i64 0, .int .i64 0, .slice none 0 0] 24)).cell? ⟨W.heap.size, 1, none⟩ = some (.int .i64 h) := by rw [HWb.out]; exact T5.out.1.2.2.1
  have v_p2 : ((W.alloc (.cells #[.int .i64 w, .int .i64 h, .slice a n c] 24)).alloc (.cells #[.int .i64 0, .int .i64 0, .slice none 0 0] 24)).cell? ⟨W.heap.size, 2, none⟩ = some (.slice a n c) := by rw [HWb.out]; exact T5.out.1.2.2.2
  go_wp2_with fail
  rw [HWb.out]
  clear v_p0 v_p1 v_p2
  obtain ⟨wv, hwv⟩ : ∃ wv, Wb.alloc (.cells #[.int .i64 h, .int .i64 w, .slice none 0 0] 24) = wv := ⟨_, rfl⟩
  obtain ⟨v, hv⟩ : ∃ v, Wb.heap.size = v := ⟨_, rfl⟩
  have hh0 : wv.heap[v]? = some (.cells #[.int .i64 h, .int .i64 w, .slice none 0 0] 24) := by rw [← hwv, ← hv]; exact heap_alloc_new Wb _
  have hb0 : Below v Wb wv := by rw [← hwv, ← hv]; exact balloc (bnil Wb) _
  have HH0 := Lib.hid hh0
  have HB0 := Lib.hid hb0
  have HV := Lib.hid hv
  have hvs : W.heap.size + 1 + 1 = v := by rw [← hv]; exact HSZ.out
  rw [hwv, hvs]
  clear hvs
  clear hh0 hb0 hwv hv
  go_loopw [4] (fun jx wr => ∃ (r s : Nat) (aa : Option Addr) (cc : Nat), r ≤ w ∧ s = 0 ∧ jx = .int .i64 (r : Nat) ∧ wr.heap[v]? = some (.cells #[.int .i64 h, .int .i64 w, .slice aa (r * h + s) cc] 24) ∧ OwI wr (v + 1) aa (r * h + s) cc (LL.take (r * h + s)) ∧ Below v Wb wr) (fun jx _ => w - (intOf jx).toNat)
  case atStart => exact ⟨0, 0, none, 0, by omega, by omega, rfl, by simpa using HH0.out, by simpa using OwI.nil _ _, HB0.out⟩
  case round =>
    obtain ⟨r, s0, aa, cc, hr, rfl, rfl, hh, ho, hb⟩ := hrel
    have HH := Lib.hid hh
    have HO := Lib.hid ho
    have HB := Lib.hid hb
    obtain ⟨⟨b0, b1, b2⟩, _, _, _⟩ := p_cells hh
    clear b0 b2
    clear hh ho hb
    generalize wr = wo at *
    by_cases hrq : r < w
    · skip
      have j1 : (r : Int) < (w : Int) := by omega
      go_wp2_with fail
      clear b1
      go_loopw [5] (fun ix wr => ∃ (r1 s : Nat) (aa : Option Addr) (cc : Nat), r1 = r ∧ s ≤ h ∧ ix = .int .i64 (s : Nat) ∧ wr.heap[v]? = some (.cells #[.int .i64 h, .int .i64 w, .slice aa (r1 * h + s) cc] 24) ∧ OwI wr (v + 1) aa (r1 * h + s) cc (LL.take (r1 * h + s)) ∧ Below v Wb wr) (fun ix _ => h - (intOf ix).toNat)
      case atStart => exact ⟨r, 0, aa, cc, rfl, by omega, rfl, HH.out, HO.out, HB.out⟩
      case round =>
        obtain ⟨r1, s, a3, c3, rfl, hs, rfl, hh3, ho3, hb3⟩ := hrel
        have HH3 := Lib.hid hh3
        have HO3 := Lib.hid ho3
        have HB3 := Lib.hid hb3
        by_cases hsp : s < h
        · skip
          have hbw := HB3.out
          rw [← HV.out] at hbw
          clear hb3
          have T6 := T5.up hbw
          clear T5
          obtain ⟨k, hk⟩ : ∃ k, r1 * h + s = k := ⟨_, rfl⟩
          have hkK : k < K := by have h1 := place_lt hsp hrq; rw [hk] at h1; have := HK.out; omega
          obtain ⟨ab, ao, hab0, hab, hcell⟩ := (T6.out.1.1.2).addr (by have h1 := (T6.out.1.1.2).len; have h2 := HPP.out.len; have h3 := place_lt (show r1 < w by omega) (show h - 1 - s < h by omega); omega)
          subst hab0
          obtain ⟨Q, hQ⟩ : ∃ Q, (h - 1 - s) * w = Q := ⟨_, rfl⟩
          have hQ4 : Q ≤ 4096 := by rw [← hQ]; exact Nat.mul_le_mul (show h - 1 - s ≤ 64 by omega) hw2
          have hsI : (h : Int) - 1 - (s : Int) = ((h - 1 - s : Nat) : Int) := by omega
          have hQI : ((h : Int) - 1 - (s : Int)) * (w : Int) = (Q : Int) := by rw [hsI, ← hQ, Int.natCast_mul]
          have hw1a : IntKind.i64.wrap ((h : Int) - 1) = (h : Int) - 1 := IntWalk.i64_in _ (by omega)
          have hw2a : IntKind.i64.wrap ((h : Int) - 1 - (s : Int)) = (h : Int) - 1 - (s : Int) := IntWalk.i64_in _ (by omega)
          have hQw : IntKind.i64.wrap (Q : Int) = (Q : Int) := IntWalk.i64_in _ (by omega)
          have hQn : Q + r1 < n := by have h1 := (T6.out.1.1.2).len; have h2 := HPP.out.len; have h3 := place_lt (show r1 < w by omega) (show h - 1 - s < h by omega); rw [hQ] at h3; omega
          have z0 := hcell (Q + r1) hQn
          have hval : l.getD (Q + r1) 0 = LL.getD k 0 := by
            rw [← HLL.out, ← hk, ← hQ]
            exact quarter_getD hsp hrq
          rw [hval] at z0
          have hQiw : IntKind.i64.wrap ((Q : Int) + (r1 : Int)) = (Q : Int) + (r1 : Int) := IntWalk.i64_in _ (by omega)
          have k0 : (0 : Int) ≤ (Q : Int) + (r1 : Int) := by omega
          have k1 : (Q : Int) + (r1 : Int) < (n : Int) := by omega
          have k2 : ((Q : Int) + (r1 : Int)).toNat = Q + r1 := by omega
          clear hcell hval hQ hsI
          rw [hk] at hh3 ho3
          have hsn := take_snoc (l := LL) (k := k) (by have := HLEN.out; have := HK.out; omega)
          have HKE := Lib.hid hk
          generalize LL.getD k 0 = u at *
          obtain ⟨⟨u0, u1, u2⟩, g0, g1, g2⟩ := p_cells hh3
          have hvs : v + 1 ≤ wr.heap.size := heap_ltT hh3
          have i1 : (s : Int) < (h : Int) := by omega
          have HSN := Lib.hid hsn
          have hO3 := Lib.hid ho3
          have HH4 := Lib.hid hh3
          clear hsn ho3 hh3 hk u1 g0 g1 HH3 HO3
          have y3 : (wr.alloc (.cells #[.int .i64 u] 3)).cell? ⟨v, 2, none⟩ = some (.slice a3 k c3) := al000 u2
          have v_p0 : wr.cell? ⟨W.heap.size, 0, none⟩ = some (.int .i64 w) := T6.out.1.2.1
          have v_p1 : wr.cell? ⟨W.heap.size, 1, none⟩ = some (.int .i64 h) := T6.out.1.2.2.1
          have v_p2 : wr.cell? ⟨W.heap.size, 2, none⟩ = some (.slice (some ⟨ab, ao, none⟩) n c) := T6.out.1.2.2.2
          have va_p0 : (wr.alloc (.cells #[.int .i64 u] 3)).cell? ⟨W.heap.size, 0, none⟩ = some (.int .i64 w) := al000 v_p0
          have va_p1 : (wr.alloc (.cells #[.int .i64 u] 3)).cell? ⟨W.heap.size, 1, none⟩ = some (.int .i64 h) := al000 v_p1
          have va_p2 : (wr.alloc (.cells #[.int .i64 u] 3)).cell? ⟨W.heap.size, 2, none⟩ = some (.slice (some ⟨ab, ao, none⟩) n c) := al000 v_p2
          go_wp2_with fail
          go_region_law (first
            | (refine step_app_lit (by rfl) _ _ _ (by rfl) (v + 1) et_int _ k _ hO3.out.own (by rfl) 1 _ _ (by rfl) (by simp) (by rfl) (by rfl) (by unfold maxLen; omega) (by omega) hvs ?_; intro a5 c5 w5 ho5 hg5 hb5 hs5; have y5 : w5.cell? ⟨v, 2, none⟩ = some (.slice a3 k c3) := (hb5.cell (p := ⟨v, 2, none⟩) (Nat.lt_succ_self v)).trans u2; have q5 := (hb5.frozen (p := ⟨v, 2, none⟩) (Nat.lt_succ_self v)).trans g2))
          all_goals
            have hh5 := (hb5.block v (Nat.lt_succ_self v)).trans HH4.out
            have HH6 := Lib.hid (set2q hh5 (.slice a5 (k + 1) c5))
            rw [HSN.out] at ho5
            have HO6 : Hid (OwI (w5.setCell ⟨v, 2, none⟩ (.slice a5 (k + 1) c5)) (v + 1) a5 (k + 1) c5 (LL.take (k + 1))) :=
              ⟨own_of_heap' ho5 fun b hb => Below.heap_setCell _ _ _ _ (by have := (ho5.lt b hb).1; show b ≠ v; omega)⟩
            have HB6 := Lib.hid ((HB3.out.trans (hb5.mono (Nat.le_succ v))).setCell (p := ⟨v, 2, none⟩) (Nat.le_refl v) (.slice a5 (k + 1) c5))
            have HK1 : Hid (r1 * h + (s + 1) = k + 1) := by show _ = _; have := HKE.out; omega
            clear hh5 ho5 hg5 hb5 hs5 y5 q5 y3 u2 g2 hbw u0 va_p0 v_p0 va_p1 v_p1 va_p2 v_p2 hQI hw1a hw2a hQw hQiw k0 k1 k2 z0
            go_wp2
            go_roundw
            case rel => exact ⟨r1, s + 1, a5, c5, rfl, by omega, by go_num, by rw [HK1.out]; exact HH6.out, by rw [HK1.out]; exact HO6.out, HB6.out⟩
            case measure => simp [intOf]; omega
        · skip
          obtain rfl : h = s := by omega
          have i2 : ¬ (h : Int) < (h : Int) := by omega
          have HK1 : Hid ((r1 + 1) * h + 0 = r1 * h + h) := by show _ = _; rw [Nat.add_mul]; omega
          obtain ⟨⟨u0, u1, u2⟩, _, _, _⟩ := p_cells hh3
          clear u1 u2
          clear hh3 ho3 hb3
          go_wp2
          go_roundw
          case rel => exact ⟨r1 + 1, 0, a3, c3, by omega, rfl, by go_num, by rw [HK1.out]; exact HH3.out, by rw [HK1.out]; exact HO3.out, HB3.out⟩
          case measure => simp [intOf]; omega
    · skip
      obtain rfl : w = r := by omega
      have j2 : ¬ (w : Int) < (w : Int) := by omega
      have hkk : w * h + 0 = K := by have := HK.out; rw [Nat.mul_comm]; omega
      have hh := HH.out
      have ho := HO.out
      rw [hkk, List.take_of_length_le (by have := HLEN.out; have := HK.out; omega)] at ho
      rw [hkk] at hh
      have HO9 := Lib.hid ho
      have HH9 := Lib.hid hh
      obtain ⟨⟨u0, u1, u2⟩, g0, g1, g2⟩ := p_cells hh
      have hbw := HB.out
      rw [← HV.out] at hbw
      clear HO HH hkk ho hh b1
      have T6 := T5.up hbw
      clear T5
      have hv2 : W.heap.size + 2 = v := by have h1 := HSZ.out; have h2 := HV.out; omega
      obtain ⟨⟨q0, q1, q2⟩, f0, f1, f2⟩ := p_cells (T6.out.2)
      obtain ⟨w9, e9, ⟨r0, r1, r2⟩, hk9, hs9, hb9⟩ := set3p (T6.out.2) (.int .i64 h) (.int .i64 w) (.slice aa K cc)
      have HRET := Lib.hid (And.intro (OwI.mk (own_of_heap' HO9.out.own fun b hb => hk9 b (by have := (HO9.out.own.lt b hb).1; omega))) (hb9 W W.heap.size (by omega) (T6.out.1.1.1.2)))
      have hne : W.heap.size + 1 ≠ v := by omega
      have HE9 := Lib.hid e9
      have HVV := Lib.hid hv2
      clear hbw hk9 hs9 hb9 e9 hv2
      go_wp2_with fail
      rw [HE9.out]
      refine bodyPost_ret (v := patV h w aa K cc) (by simp [results, Tryd.results112, go_sem, r0, r1, r2]) rfl ?_
      exact ⟨aa, cc, rfl, HRET.out.1.base (by have := HVV.out; omega), HRET.out.2⟩
end Go.Proofs.YtocfkmdoalhjmaaDoor
