/- edenlaw25.EveSums returns true. -/
import Derived.Test.YtoaooblodgejdaaDoorAwk25
import Derived.Test.YtoaooblodgejdaaDoorEvC
import Derived.Test.YtoaooblodgejdaaDoorEvP
import Derived.Test.YtoaooblodgejdaaDoorBitI
import Derived.Test.YtoaooblodgejdaaDoorNatD
import Derived.Test.YtoaooblodgejdaaDoorNatE
import Derived.Deep.RegionLaw
import Derived.Deep.Cut
namespace Go.Proofs.YtoaooblodgejdaaDoor
open Go.RowKit
set_option linter.unusedVariables false
set_option maxRecDepth 100000

theorem modE (s : Int) (m : Nat) (hm : 0 < m) : ∃ (r : Int) (X : Nat), s.tmod (m : Int) = r ∧ -(m : Int) < r ∧ r < (m : Int) ∧ (r + m).tmod m = (X : Int) ∧ (r + m) % (m : Int) = (X : Int) ∧ X < m := by
  have h1 := Int.lt_tmod_of_pos s (show (0 : Int) < (m : Int) by omega)
  have h2 := Int.tmod_lt_of_pos s (show (0 : Int) < (m : Int) by omega)
  have h3 := Int.emod_nonneg (s.tmod m + m) (show (m : Int) ≠ 0 by omega)
  have h4 := Int.emod_lt_of_pos (s.tmod m + m) (show (0 : Int) < (m : Int) by omega)
  have e : (s.tmod m + m) % (m : Int) = (((s.tmod m + m) % (m : Int)).toNat : Int) := by omega
  refine ⟨s.tmod m, ((s.tmod m + m) % (m : Int)).toNat, rfl, by omega, h2, ?_, e, by omega⟩
  rw [Int.tmod_eq_emod_of_nonneg (by omega)]
  exact e
theorem i64_bit (K i : Nat) : I64 (bitC K i) := by
  intro u hu
  have := bitC_sym K i u hu
  omega
instance monoNV {a : Option Addr} {n c x : Nat} : Mono (fun w => NV w a n c x) := ⟨⟨fun hb h => h.up hb⟩⟩
theorem nv_zero (w : World) : NV w none 0 0 0 := ⟨⟨RK.nil, nofun⟩, Nat.le_refl _, by decide, fun _ => rfl⟩
set_option maxHeartbeats 32000000 in
theorem eve_sums (w0 h0 : Int) (aT : Option Addr) (nT cT : Nat) (t : List Int) (W : World) (R : Nat → Addr) (hE : Sent W R) (hT : RK .i64 W aT nT t) (hmT : nT ≤ maxLen) :
    Calls Tryd.prog 4 #[.slice aT nT cT, .int .i64 w0, .int .i64 h0] W (TrueBelow W) := by
  have T0 := Tk.nil W
  have T1 := T0.add (fun wv => Below W.heap.size W wv) (bnil W)
  clear T0
  have T2 := T1.add (fun wv => Sent wv R) (hE)
  clear T1
  have T3 := T2.add (fun wv => RK .i64 wv aT nT t) (hT)
  clear T2
  clear hE hT
  go_enter Tryd.func4, Tryd.ntmps4
  go_wp2_with fail
  refine (awake25_any W R T3.out.1.2).mono ?_; rintro e w1 ⟨rfl, hbw1⟩
  have T4 := T3.up hbw1
  clear T3
  obtain ⟨rx, X, mx1, mx2, mx3, mx4, mx5, hX⟩ := modE w0 3 (by omega)
  obtain ⟨ry, Y, my1, my2, my3, my4, my5, hY⟩ := modE h0 2 (by omega)
  have mx1 : w0.tmod 3 = rx := mx1
  have my1 : h0.tmod 2 = ry := my1
  have mx4 : (rx + 3).tmod 3 = (X : Int) := mx4
  have my4 : (ry + 2).tmod 2 = (Y : Int) := my4
  obtain ⟨w, hw⟩ : ∃ w, X + 1 = w := ⟨_, rfl⟩
  obtain ⟨h, hh⟩ : ∃ h, Y + 1 = h := ⟨_, rfl⟩
  obtain ⟨K, hK⟩ : ∃ K, w * h = K := ⟨_, rfl⟩
  have b1 : IntKind.i64.wrap (rx + 3) = rx + 3 := IntWalk.i64_in _ (by omega)
  have b2 : IntKind.i64.wrap (ry + 2) = ry + 2 := IntWalk.i64_in _ (by omega)
  have b3 : (X : Int) + 1 = (w : Int) := by omega
  have b4 : (Y : Int) + 1 = (h : Int) := by omega
  have b5 : IntKind.i64.wrap (w : Int) = (w : Int) := IntWalk.i64_in _ (by omega)
  have b6 : IntKind.i64.wrap (h : Int) = (h : Int) := IntWalk.i64_in _ (by omega)
  have b7 : (w : Int) * (h : Int) = (K : Int) := by rw [← hK]; exact (Int.natCast_mul _ _).symm
  have hK6 : K ≤ 6 := by rw [← hK]; exact Nat.mul_le_mul (show w ≤ 3 by omega) (show h ≤ 2 by omega)
  have hK1 : 1 ≤ K := by rw [← hK]; exact Nat.mul_pos (show 0 < w by omega) (show 0 < h by omega)
  have b8 : IntKind.i64.wrap (K : Int) = (K : Int) := IntWalk.i64_in _ (by omega)
  clear mx2 mx3 mx5 my2 my3 my5
  have HKW := Lib.hid hK
  clear hK
  by_cases hk4 : (4 : Int) < (K : Int)
  · skip
    go_wp2
    go_ret
    exact ⟨rfl, T4.out.1.1.2⟩
  by_cases htd : tabD t = none
  · skip
    skip
    have HT := Lib.hid (tabD_none htd)
    clear htd
    obtain rfl : nT = 512 := (T4.out.2).len.trans HT.out.len
    obtain ⟨bT, oT, hbo, _⟩ := (T4.out.2).addr (by omega)
    subst hbo
    go_wp2_with fail
    refine (plcheck_ok (some ⟨bT, oT, none⟩) 512 cT t w1 R T4.out.1.2 T4.out.2 hmT HT.out).mono ?_; rintro e w2 ⟨rfl, hbw2⟩
    have T5 := T4.up hbw2
    clear T4
    have T6 := T5.add (fun wv => Below w2.heap.size w2 wv) (bnil w2)
    clear T5
    have hsa := sum_all (w := w) (h := h) HT.out (by omega) (by omega) (by omega) (by omega)
    have hbp := fun i => bitC_patch (w := w) (h := h) (i := i) (by omega) (by omega) (by omega) (by omega)
    have hm64 := m_le (show h ≤ 4 by omega)
    have hfl := fun i => cntN_lt (t := t) (cols := colL w h (bitC (w * h) i)) (h := h) hm64.1 (show w ≤ 8 by omega)
    have c_c := fun i aa cc W hS hR hT => evcount_ok w h aa (w * h) cc bT oT cT (bitC (w * h) i) t W R hS hR (by rw [HKW.out]; unfold maxLen; omega) (i64_bit (w * h) i) hT HT.out (hbp i) (by omega) (by omega)
    rw [HKW.out] at hsa
    simp only [HKW.out] at hfl c_c
    obtain ⟨F, hF⟩ : ∃ F : Nat → Nat, (fun i => cntN t (colL w h (bitC K i)) h (4 * 2 ^ h) w) = F := ⟨_, rfl⟩
    have hF2 : ∀ i, cntN t (colL w h (bitC K i)) h (4 * 2 ^ h) w = F i := fun i => by rw [← hF]
    simp only [hF2] at hfl c_c hsa
    have hsa2 : sumN (2 ^ K) F = 2 ^ ((w + 2) * (h + 2)) := hsa
    obtain ⟨Q, hQ⟩ : ∃ Q, (w + 2) * (h + 2) = Q := ⟨_, rfl⟩
    obtain ⟨PK, hPK⟩ : ∃ PK, 2 ^ K = PK := ⟨_, rfl⟩
    rw [hQ] at hsa2
    rw [hPK] at hsa2
    have hPI : (2 : Int) ^ K = (PK : Int) := by rw [← hPK, Int.natCast_pow]; rfl
    have hP16 : PK ≤ 16 := by rw [← hPK]; exact Nat.pow_le_pow_right (n := 2) (by omega) (show K ≤ 4 by omega)
    have hPw : IntKind.i64.wrap (PK : Int) = (PK : Int) := IntWalk.i64_in _ (by omega)
    have hQ20 : Q ≤ 20 := by rw [← hQ]; exact Nat.mul_le_mul (show w + 2 ≤ 5 by omega) (show h + 2 ≤ 4 by omega)
    obtain ⟨A, hA⟩ : ∃ A, w + 2 = A := ⟨_, rfl⟩
    obtain ⟨B, hB⟩ : ∃ B, h + 2 = B := ⟨_, rfl⟩
    rw [hA, hB] at hQ
    have hAI : (w : Int) + 2 = (A : Int) := by omega
    have hBI : (h : Int) + 2 = (B : Int) := by omega
    have hAw : IntKind.i64.wrap (A : Int) = (A : Int) := IntWalk.i64_in _ (by omega)
    have hBw : IntKind.i64.wrap (B : Int) = (B : Int) := IntWalk.i64_in _ (by omega)
    have hQI : (A : Int) * (B : Int) = (Q : Int) := by rw [← hQ]; exact (Int.natCast_mul _ _).symm
    have hQw : IntKind.i64.wrap (Q : Int) = (Q : Int) := IntWalk.i64_in _ (by omega)
    have HSA := Lib.hid hsa2
    have HFL := Lib.hid hfl
    have HCC := Lib.hid c_c
    have hpw := fun w => (pow_any 2 Q w (by decide) (by omega) : Calls Tryd.prog 24 #[.int .u32 2, .int .i64 Q] w _)
    have HPW := Lib.hid hpw
    clear hsa hsa2 hbp hm64 hfl c_c hF hF2 hQ hPK hA hB HKW hpw
    go_wp2_with fail
    go_loopw [7, 8] (fun s7 s8 wr => ∃ (i : Nat) (a : Option Addr) (n c : Nat), i ≤ PK ∧ s8 = .int .i64 (i : Nat) ∧ s7 = .slice a n c ∧ NV wr a n c (sumN i F) ∧ Below w2.heap.size w2 wr) (fun _ i _ => PK - (intOf i).toNat)
    case atStart => exact ⟨0, none, 0, 0, by omega, rfl, rfl, nv_zero w2, bnil w2⟩
    case round =>
      obtain ⟨i, a, n, c, hi, rfl, rfl, hnv, hb⟩ := hrel
      have T7 := T6.up hb
      clear T6
      have T8 := T7.add (fun wv => NV wv a n c (sumN i F)) (hnv)
      clear T7
      clear hnv
      generalize wr = wo at *
      by_cases hip : i < PK
      · skip
        have j1 : (i : Int) < (PK : Int) := by omega
        go_wp2_with fail
        obtain ⟨wv, hwv⟩ : ∃ wv, wo.alloc (.cells #[.int .i64 (w : Nat), .int .i64 (h : Nat), .slice none 0 0] 24) = wv := ⟨_, rfl⟩
        obtain ⟨v, hv⟩ : ∃ v, wo.heap.size = v := ⟨_, rfl⟩
        have hh0 : wv.heap[v]? = some (.cells #[.int .i64 (w : Nat), .int .i64 (h : Nat), .slice none 0 0] 24) := by rw [← hwv, ← hv]; exact heap_alloc_new wo _
        have hb0 : Below v wo wv := by rw [← hwv, ← hv]; exact balloc (bnil wo) _
        have HH0 := Lib.hid hh0
        have HB0 := Lib.hid hb0
        have HV := Lib.hid hv
        rw [hwv, hv]
        clear hh0 hb0 hwv hv
        go_loopw [10] (fun ix wr => ∃ (s : Nat) (aa : Option Addr) (cc : Nat), s ≤ K ∧ ix = .int .i64 (s : Nat) ∧ wr.heap[v]? = some (.cells #[.int .i64 (w : Nat), .int .i64 (h : Nat), .slice aa s cc] 24) ∧ OwI wr (v + 1) aa s cc (bitC s i) ∧ Below v wo wr) (fun ix _ => K - (intOf ix).toNat)
        case atStart => exact ⟨0, none, 0, by omega, rfl, HH0.out, OwI.nil _ _, HB0.out⟩
        case round =>
          obtain ⟨s, a3, c3, hs, rfl, hh3, ho3, hb3⟩ := hrel
          have HB3 := Lib.hid hb3
          by_cases hsp : s < K
          · skip
            obtain ⟨⟨u0, u1, u2⟩, g0, g1, g2⟩ := p_cells hh3
            have hvs : v + 1 ≤ wr.heap.size := heap_ltT hh3
            have i1 : (s : Int) < (K : Int) := by omega
            have i2 : (0 : Int) ≤ (s : Int) := by omega
            have i3 : (s : Int) ≤ 64 := by omega
            obtain ⟨A1, hA1⟩ : ∃ A1, i / 2 ^ s = A1 := ⟨_, rfl⟩
            have hA1I : (i : Int) / 2 ^ s = (A1 : Int) := by rw [← hA1, Int.natCast_ediv, Int.natCast_pow]; rfl
            have hA2 : A1 ≤ i := by rw [← hA1]; exact Nat.div_le_self _ _
            have haa := and1_i64 (a := A1) (by omega)
            have hsn : bitC (s + 1) i = bitC s i ++ [((A1 % 2 : Nat) : Int)] := by rw [bitC_succ, hA1]
            obtain ⟨u, hu⟩ : ∃ u : Int, ((A1 % 2 : Nat) : Int) = u := ⟨_, rfl⟩
            rw [hu] at haa hsn
            have HSN := Lib.hid hsn
            have hO3 := Lib.hid ho3
            have HH4 := Lib.hid hh3
            clear hsn ho3 hh3 hA1 u1 g0 g1 u0 hu hA2 hb3
            have y3 : (wr.alloc (.cells #[.int .i64 u] 3)).cell? ⟨v, 2, none⟩ = some (.slice a3 s c3) := al000 u2
            go_wp2_with fail
            go_region_law (first
              | (refine step_app_lit (by rfl) _ _ _ (by rfl) (v + 1) et_int _ s _ hO3.out.own (by rfl) 1 _ _ (by rfl) (by simp) (by rfl) (by rfl) (by unfold maxLen; omega) (by omega) hvs ?_; intro a5 c5 w5 ho5 hg5 hb5 hs5; have y5 : w5.cell? ⟨v, 2, none⟩ = some (.slice a3 s c3) := (hb5.cell (p := ⟨v, 2, none⟩) (Nat.lt_succ_self v)).trans u2; have q5 := (hb5.frozen (p := ⟨v, 2, none⟩) (Nat.lt_succ_self v)).trans g2))
            all_goals
              have hh5 := (hb5.block v (Nat.lt_succ_self v)).trans HH4.out
              have HH6 := Lib.hid (set2q hh5 (.slice a5 (s + 1) c5))
              have HO6 : Hid (OwI (w5.setCell ⟨v, 2, none⟩ (.slice a5 (s + 1) c5)) (v + 1) a5 (s + 1) c5 (bitC (s + 1) i)) := by
                show OwI _ _ _ _ _ _
                rw [HSN.out]
                exact ⟨by simpa using own_of_heap' ho5 fun b hb => Below.heap_setCell _ _ _ _ (by have := (ho5.lt b hb).1; show b ≠ v; omega)⟩
              have HB6 := Lib.hid ((HB3.out.trans (hb5.mono (Nat.le_succ v))).setCell (p := ⟨v, 2, none⟩) (Nat.le_refl v) (.slice a5 (s + 1) c5))
              clear hh5 ho5 hg5 hb5 hs5 y5 q5 y3 u2 g2
              go_wp2
              go_roundw
              case rel => exact ⟨s + 1, a5, c5, by omega, by go_num, HH6.out, HO6.out, HB6.out⟩
              case measure => simp [intOf]; omega
          · skip
            obtain rfl : K = s := by omega
            have i2 : ¬ (K : Int) < (K : Int) := by omega
            have hbw := HB3.out
            rw [← HV.out] at hbw
            clear hb3
            have T9 := T8.up hbw
            clear T8
            have hrk := ho3.rk
            have T10 := T9.add (fun wv => RK .i64 wv a3 K (bitC K i)) (hrk)
            clear T9
            obtain ⟨⟨u0, u1, u2⟩, _, _, _⟩ := p_cells hh3
            obtain ⟨S, hS⟩ : ∃ S, sumN i F = S := ⟨_, rfl⟩
            have hS1 : sumN (i + 1) F = S + F i := by show sumN i F + F i = _; rw [hS]
            have hS2 : S < B32 ^ 3 := by
              have h1 := sumN_le (f := F) (b := M64) i (fun j _ => Nat.le_of_lt (HFL.out j))
              have h2 := Nat.mul_le_mul_right M64 (show i ≤ 16 by omega)
              rw [hS] at h1
              show _ < 79228162514264337593543950336
              have h3 : 16 * M64 = 295147905179352825856 := by decide
              omega
            have HSI := Lib.hid hS1
            have hsl := limbs_len_le hS2
            have T11 := T10.add (fun wv => NR wv a n (limbs S)) (by rw [← hS]; exact T10.out.1.2.nr)
            clear T10
            have hn3 : n ≤ 3 := by have := (T11.out.2).len; omega
            have hfi := limbs_len_le (x := F i) (m := 2) (by have := HFL.out i; exact this)
            clear ho3 hh3 hrk hS hS1 hS2 hsl
            go_wp2_with fail
            refine (HCC.out i a3 c3 wr T11.out.1.1.1.1.1.2 T11.out.1.2 T11.out.1.1.1.1.2).mono ?_; rintro e w4 ⟨gN, nN, rfl, _, hnN, hbw4⟩
            have T12 := T11.up hbw4
            clear T11
            clear u0 u1 u2
            have hnNl : nN ≤ 2 := hnN.le
            have T13 := T12.add (fun wv => NR wv (some ⟨gN, 0, none⟩) nN (limbs (F i))) (hnN.nr)
            clear T12
            clear hnN
            go_wp2_with fail
            refine (add_any a (some ⟨gN, 0, none⟩) n nN c 2 (limbs S) (limbs (F i)) w4 T13.out.1.2 T13.out.2 (by omega) (by omega)).mono ?_; rintro e w5 ⟨a6, n6, c6, rfl, _, hn6, hbw5⟩
            have T14 := T13.up hbw5
            clear T13
            rw [val_limbs, val_limbs, ← HSI.out] at hn6
            have HN6 := Lib.hid hn6
            clear hn6
            skip
            go_wp2
            go_roundw
            case rel => exact ⟨i + 1, a6, n6, c6, by omega, by go_num, rfl, HN6.out, T14.out.1.1.1.1.2⟩
            case measure => simp [intOf]; omega
      · skip
        obtain rfl : PK = i := by omega
        have j2 : ¬ (PK : Int) < (PK : Int) := by omega
        have T9 := T8.add (fun wv => NR wv a n (limbs (2 ^ Q))) (by rw [← HSA.out]; exact T8.out.2.nr)
        clear T8
        have hnc := T9.out.1.2.le
        have hcm := T9.out.1.2.cm
        go_wp2_with fail
        refine (HPW.out wo).mono ?_; rintro e w6 ⟨a7, n7, c7, rfl, _, hn7, hbw6⟩
        have T10 := T9.up hbw6
        clear T9
        have T11 := T10.add (fun wv => NR wv a7 n7 (limbs (2 ^ Q))) (hn7.nr)
        clear T10
        clear hn7
        go_wp2_with fail
        refine (nats_eqW a a7 n n7 c c7 (limbs (2 ^ Q)) w6 T11.out.1.2 T11.out.2 (by omega)).mono ?_; rintro e w7 ⟨rfl, hbw7⟩
        have T12 := T11.up hbw7
        clear T11
        go_wp2
        go_ret
        exact ⟨rfl, T12.out.1.1.1.1.1.1.2⟩
  · skip
    go_wp2_with fail
    refine (plcheck_er aT nT cT t w1 R T4.out.1.2 T4.out.2 hmT htd).mono ?_; rintro e w2 ⟨g0, rfl, _, hbw2⟩
    have T5 := T4.up hbw2
    clear T4
    go_wp2
    go_ret
    exact ⟨rfl, T5.out.1.1.2⟩
theorem eve_sums_row (aT : Option Addr) (cT : Nat) (t : List Int) (w0 h0 : Int) (W : World) (R : Nat → Addr) (hE : Sent W R)
    (hR0 : Rd W aT t.length 1 (t.map (Value.int .i64))) (hl0 : t.length ≤ cT) (hz0 : cT * 8 ≤ 140737488351232) (hn0 : aT = none → cT = 0) (hx0 : ∀ x ∈ t, -9223372036854775808 ≤ x ∧ x ≤ 9223372036854775807) :
    Calls Tryd.prog 4 #[.slice aT t.length cT, .int .i64 w0, .int .i64 h0] W (TrueBelow W) :=
  eve_sums w0 h0 aT t.length cT t W R hE ⟨rfl, hR0⟩ (by unfold maxLen; omega)
end Go.Proofs.YtoaooblodgejdaaDoor
