/- The contract of patch.Parse. -/
import Derived.Test.YtnlpobkmjhajcaaDoorPatG
import Derived.Deep.RegionLaw
import Derived.Laws.Closers25b
namespace Go.Proofs.YtnlpobkmjhajcaaDoor
open Go.RowKit
set_option linter.unusedVariables false
set_option maxRecDepth 100000

set_option maxHeartbeats 16000000 in
theorem parse_q (s : ByteArray) (W : World) (R : Nat → Addr) (hS : Sent W R) (m : Int) (hm : W.cell? ⟨13, 0, none⟩ = some (.int .i64 m)) (Q : Ending → World → Prop)
    (hQe : ∀ x e w', parErrP s = some x → PatErr R (some ([(opPatch, x.1)], x.2)) W e w' → Q e w') (hQo : ∀ e w', parErrP s = none → ParOk W s e w' → Q e w') :
    Calls Tryd.prog 19 #[.string s] W Q := by
  obtain ⟨Wb, hWb⟩ : ∃ Wb, W.alloc (.cells #[.int .i64 0, .int .i64 0, .slice none 0 0] 24) = Wb := ⟨_, rfl⟩
  have HZ : Hid (Wb.heap[W.heap.size]? = some (.cells #[.int .i64 0, .int .i64 0, .slice none 0 0] 24)) := by show _ = _; rw [← hWb]; exact heap_alloc_new W _
  have HSZ : Hid (Wb.heap.size = W.heap.size + 1) := by show _ = _; rw [← hWb]; simp
  have HBX : Hid (Below W.heap.size W Wb) := by rw [← hWb]; exact balloc (bnil W) _
  have HS := Lib.hid hS
  have HM := Lib.hid (cpa HBX.out hm)
  have HWB := Lib.hid hWb
  clear hS hm hWb
  by_cases hbig : 8192 < s.size
  · have HP := Lib.hid (par_big hbig)
    have hbI : (8192 : Int) < (s.size : Int) := by omega
    clear hQo
    go_enter Tryd.func19, Tryd.ntmps19
    have hzz := HZ.out
    have HBB := Lib.hid (HBX.out)
    obtain ⟨hz2, w9, e9, ⟨r0, r1, r2⟩, hpe⟩ := pe_fin HS.out HBB.out hzz (0) 4
    have HPE := Lib.hid hpe
    have HE9 := Lib.hid e9
    clear hpe e9 hzz
    obtain ⟨⟨d0, d1, d2⟩, q0, q1, q2⟩ := p_cells hz2
    clear hz2
    go_wp2_with fail
    rw [HWB.out]
    refine (patch_wrong _ _ _ R (HS.out.up HBB.out).glob rfl).mono ?_; rintro e wx ⟨rfl, rfl⟩
    go_wp2
    rw [HE9.out]
    refine bodyPost_ret (v := .tuple #[patV 0 0 none 0 0, .iface 78 (.pointer (some ⟨Wb.heap.size, 0, none⟩))]) (by simp [results, Tryd.results19, go_sem, r0, r1, r2]) rfl ?_
    exact hQe _ _ _ (HP.out) HPE.out
  have hsm : s.size ≤ 8192 := by omega
  have HBG := Lib.hid hbig
  clear hbig
  obtain ⟨L, hL⟩ : ∃ L, lnsB s = L := ⟨_, rfl⟩
  obtain ⟨w, hw⟩ : ∃ w, wid s = w := ⟨_, rfl⟩
  obtain ⟨H, hH⟩ : ∃ H, L.length = H := ⟨_, rfl⟩
  have hlen := lns_len s
  have hle := lns_le s
  rw [hL, hH] at hlen hle
  have HLS : Hid (∀ (j : Nat) (x : ByteArray), L[j]? = some x → x.size ≤ s.size) := fun j x hx => lns_size (hL ▸ List.mem_of_getElem? hx)
  have h0 : ∃ x0, L[0]? = some x0 := ⟨_, List.getElem?_eq_getElem (by omega)⟩
  obtain ⟨x0, hx0⟩ := h0
  have hw0 : x0.size = w := by
    rw [← hw]; unfold wid; rw [hL]
    simp [List.getD_eq_getElem?_getD, hx0]
  have hw8 : w ≤ 8192 := by have := HLS.out 0 x0 hx0; omega
  have HX0 := Lib.hid hx0
  have HW0 := Lib.hid hw0
  have HLEN := Lib.hid hlen
  have HLL := Lib.hid hL
  have HLH := Lib.hid hH
  have HWW := Lib.hid hw
  clear hL hH hw hlen hx0 hw0
  go_enter Tryd.func19, Tryd.ntmps19
  go_wp2
  rw [HWB.out]
  go_loop [18] (fun ix => ∃ j : Nat, j ≤ s.size ∧ ix = .int .i64 j ∧ Hid (∀ q (hq : q < s.size), q < j → badC s[q] = false)) (fun ix => s.size - (intOf ix).toNat)
  case atStart => exact ⟨0, by omega, rfl, Lib.hid fun q hq h => absurd h (by omega)⟩
  case round =>
    obtain ⟨j, hj, rfl, HG⟩ := hrel
    by_cases hjn : j < s.size
    · have jI : (j : Int) < (s.size : Int) := by omega
      have j0 : (0 : Int) ≤ (j : Int) := by omega
      have jw : IntKind.i64.wrap ((j : Int) + 1) = (j : Int) + 1 := IntWalk.i64_in _ (by omega)
      obtain ⟨c, hc⟩ : ∃ c, s[j] = c := ⟨_, rfl⟩
      have HC := Lib.hid hc
      have HN : Hid (∀ c0 : UInt8, c = c0 → badC c0 = false → ∀ q (hq : q < s.size), q < j + 1 → badC s[q] = false) := fun c0 h1 h2 q hq hq2 => by
        by_cases hqj : q < j
        · exact HG.out q hq hqj
        · obtain rfl : q = j := by omega
          rw [hc, h1]; exact h2
      by_cases c46 : c = 46
      · have k46 : s[j].toNat = 46 := by rw [hc, c46]; rfl
        have HN2 := Lib.hid (HN.out 46 c46 (by decide))
        clear hc
        go_wp2
        go_round
        case rel => exact ⟨j + 1, by omega, by go_num, HN2⟩
        case measure => simp [intOf]; omega
      have n46 : ¬ s[j].toNat = 46 := by
        rw [hc]; intro h; exact c46 (UInt8.toNat_inj.1 (by rw [h]; rfl))
      by_cases c35 : c = 35
      · have k35 : s[j].toNat = 35 := by rw [hc, c35]; rfl
        have HN2 := Lib.hid (HN.out 35 c35 (by decide))
        clear hc
        go_wp2
        go_round
        case rel => exact ⟨j + 1, by omega, by go_num, HN2⟩
        case measure => simp [intOf]; omega
      have n35 : ¬ s[j].toNat = 35 := by
        rw [hc]; intro h; exact c35 (UInt8.toNat_inj.1 (by rw [h]; rfl))
      by_cases c47 : c = 47
      · have k47 : s[j].toNat = 47 := by rw [hc, c47]; rfl
        have HN2 := Lib.hid (HN.out 47 c47 (by decide))
        clear hc
        go_wp2
        go_round
        case rel => exact ⟨j + 1, by omega, by go_num, HN2⟩
        case measure => simp [intOf]; omega
      have n47 : ¬ s[j].toNat = 47 := by
        rw [hc]; intro h; exact c47 (UInt8.toNat_inj.1 (by rw [h]; rfl))
      have hbad : badC s[j] = true := by
        rw [hc]; unfold badC; simp [c46, c35, c47]
      have HP := Lib.hid (par_bad HBG.out hjn HG.out hbad)
      clear hbad hc c46 c35 c47 hQo
      have hzz := HZ.out
      have HBB := Lib.hid (HBX.out)
      obtain ⟨hz2, w9, e9, ⟨r0, r1, r2⟩, hpe⟩ := pe_fin HS.out HBB.out hzz (j) 6
      have HPE := Lib.hid hpe
      have HE9 := Lib.hid e9
      clear hpe e9 hzz
      obtain ⟨⟨d0, d1, d2⟩, q0, q1, q2⟩ := p_cells hz2
      clear hz2
      go_wp2_with fail
      refine (patch_wrong _ _ _ R (HS.out.up HBB.out).glob rfl).mono ?_; rintro e wx ⟨rfl, rfl⟩
      go_wp2
      rw [HE9.out]
      refine bodyPost_ret (v := .tuple #[patV 0 0 none 0 0, .iface 78 (.pointer (some ⟨Wb.heap.size, 0, none⟩))]) (by simp [results, Tryd.results19, go_sem, r0, r1, r2]) rfl ?_
      exact hQe _ _ _ (HP.out) HPE.out
    obtain rfl : s.size = j := by omega
    have hfine := par_fine HBG.out (fun q hq => HG.out q hq hq)
    rw [HWW.out, HLL.out, HLH.out] at hfine
    obtain ⟨E, hE⟩ : ∃ E, lineErr w (-1) L = E := ⟨_, rfl⟩
    rw [hE] at hfine
    have HF := Lib.hid hfine
    have HE := Lib.hid hE
    clear hfine hE HG
    obtain ⟨wl, hwl⟩ : ∃ wl, Wb.alloc (.cells (L.map Value.string).toArray 9) = wl := ⟨_, rfl⟩
    have HWLh : Hid (wl.heap[Wb.heap.size]? = some (.cells (L.map Value.string).toArray 9)) := by show _ = _; rw [← hwl]; exact heap_alloc_new Wb _
    have HLB : Hid (Below Wb.heap.size Wb wl) := by rw [← hwl]; exact balloc (bnil Wb) _
    have HLZ : Hid (wl.heap.size = Wb.heap.size + 1) := by show _ = _; rw [← hwl]; simp
    have HWL := Lib.hid hwl
    clear hwl
    have HCL : Hid (∀ (wr : World) (j : Nat) (x : ByteArray), Below wl.heap.size wl wr → L[j]? = some x → wr.cell? ⟨Wb.heap.size, j, none⟩ = some (.string x)) := fun wr j x hb hx => by
      refine cpa hb ?_
      have hh := HWLh.out
      simp only [World.cell?, hh]
      simp [hx]
    have z0 := HCL.out wl 0 x0 (bnil wl) HX0.out
    have hH1 : 1 ≤ H := by have := HLEN.out; omega
    have hHI : (1 : Int) ≤ (H : Int) := by omega
    have hHp : (0 : Int) < (H : Int) := by omega
    go_wp2_with fail
    refine (Tryd.strings_Split s ⟨#[47]⟩ m _ (by omega) HM.out (by decide)).mono ?_; rintro e wl' ⟨rfl, rfl⟩
    rw [show Lib.splitB ⟨#[47]⟩ 0 (Lib.countB s ⟨#[47]⟩) s = L from HLL.out, HWL.out, ← HLEN.out]
    go_wp2
    obtain ⟨v, hv⟩ : ∃ v, wl.heap.size = v := ⟨_, rfl⟩
    obtain ⟨Wv, hWv⟩ : ∃ Wv, wl.alloc (.cells #[.int .i64 x0.size, .int .i64 H, .slice none 0 0] 24) = Wv := ⟨_, rfl⟩
    have HV0 : Hid (Wv.heap[v]? = some (.cells #[.int .i64 w, .int .i64 H, .slice none 0 0] 24)) := by show _ = _; rw [← hWv, ← hv, ← HW0.out]; exact heap_alloc_new wl _
    have HVB : Hid (Below v wl Wv) := by rw [← hWv, ← hv]; exact balloc (bnil wl) _
    have HVZ : Hid (Wv.heap.size = v + 1) := by show _ = _; rw [← hWv, ← hv]; simp
    have HCV : Hid (∀ (wr : World) (j : Nat) (x : ByteArray), Below v Wv wr → L[j]? = some x → wr.cell? ⟨Wb.heap.size, j, none⟩ = some (.string x)) := fun wr j x hb hx => HCL.out wr j x (hv ▸ HVB.out.trans hb) hx
    have HBV : Hid (∀ (wr : World), Below v Wv wr → Below W.heap.size W wr ∧ wr.heap[W.heap.size]? = some (.cells #[.int .i64 0, .int .i64 0, .slice none 0 0] 24)) := fun wr hb => by
      have hb2 : Below Wb.heap.size Wb wr := HLB.out.trans ((hv ▸ HVB.out.trans hb : Below wl.heap.size wl wr).mono HLB.out.size)
      exact ⟨HBX.out.trans (hb2.mono HBX.out.size), (hb2.block _ (by have := HSZ.out; omega)).trans HZ.out⟩
    rw [hWv, hv]
    have HWV := Lib.hid hWv
    have HVV := Lib.hid hv
    have hvW : W.heap.size < v := by have := HLZ.out; have := HSZ.out; omega
    clear hWv hv z0
    go_loopw [7, 43] (fun ex jx wr => ∃ (j : Nat) (e : Int) (a : Option Addr) (k c : Nat), j ≤ H ∧ jx = .int .i64 j ∧ ex = .int .i64 e ∧ Hid (lineErr w e (L.drop j) = E) ∧ -1 ≤ e ∧ e ≤ 8193 * j ∧ k ≤ 8193 * j ∧ wr.heap[v]? = some (.cells #[.int .i64 w, .int .i64 H, .slice a k c] 24) ∧ OwI wr (v + 1) a k c ((L.take j).flatMap rowC) ∧ Below v Wv wr) (fun _ jx _ => H - (intOf jx).toNat)
    case atStart => exact ⟨0, -1, none, 0, 0, by omega, rfl, rfl, HE, by omega, by omega, by omega, HV0.out, OwI.nil _ _, (bnil Wv).mono (by have := HVZ.out; omega)⟩
    case round =>
      obtain ⟨j, e, a, k, c, hj, rfl, rfl, HR, he1, he2, hk, hh, ho, hb⟩ := hrel
      have HH := Lib.hid hh
      have HO := Lib.hid ho
      have HB := Lib.hid hb
      clear hh ho hb
      by_cases hjn : j < H
      · have hjL : j < L.length := by rw [HLH.out]; exact hjn
        obtain ⟨x, hx⟩ : ∃ x, L[j]? = some x := ⟨_, List.getElem?_eq_getElem hjL⟩
        have hdr : L.drop j = x :: L.drop (j + 1) := by
          rw [List.drop_eq_getElem_cons hjL]
          rw [List.getElem?_eq_getElem hjL] at hx
          rw [Option.some.inj hx]
        have hxs := HLS.out j x hx
        have z0 := HCV.out wr j x HB.out hx
        have hxx : x.size ≤ 8192 := by omega
        have HR2 : Hid (lineErr w e (x :: L.drop (j + 1)) = E) := by show _ = _; rw [← hdr]; exact HR.out
        have HXJ := Lib.hid hx
        have jI : (j : Int) < (H : Int) := by omega
        have j0 : (0 : Int) ≤ (j : Int) := by omega
        have jw : IntKind.i64.wrap ((j : Int) + 1) = (j : Int) + 1 := IntWalk.i64_in _ (by omega)
        have xw : IntKind.i64.wrap ((x.size : Int) + 1) = (x.size : Int) + 1 := IntWalk.i64_in _ (by omega)
        have ew : IntKind.i64.wrap (e + ((x.size : Int) + 1)) = e + ((x.size : Int) + 1) := IntWalk.i64_in _ (by omega)
        obtain ⟨⟨v0, v1, v2⟩, f0, f1, f2⟩ := p_cells HH.out
        clear hdr hx
        by_cases hx0 : x.size = 0
        · obtain rfl : x = ⟨#[]⟩ := by
            apply ByteArray.ext
            exact Array.eq_empty_of_size_eq_zero hx0
          have HER : Hid (parErrP s = some (e + 1, 6)) := by
            have h1 := HR2.out
            rw [line_bad (.inl rfl)] at h1
            show _ = _
            rw [HF.out, ← h1]
            rfl
          have ew1 : IntKind.i64.wrap (e + 1) = e + 1 := IntWalk.i64_in _ (by omega)
          clear hQo

          have hzz := (HBV.out wr HB.out).2
          have HBB := Lib.hid ((HBV.out wr HB.out).1)
          obtain ⟨hz2, w9, e9, ⟨r0, r1, r2⟩, hpe⟩ := pe_fin HS.out HBB.out hzz (e + 1) 6
          have HPE := Lib.hid hpe
          have HE9 := Lib.hid e9
          clear hpe e9 hzz
          obtain ⟨⟨d0, d1, d2⟩, q0, q1, q2⟩ := p_cells hz2
          clear hz2
          go_wp2_with fail
          refine (patch_wrong _ _ _ R (HS.out.up HBB.out).glob rfl).mono ?_; rintro e wx ⟨rfl, rfl⟩
          go_wp2
          rw [HE9.out]
          refine bodyPost_ret (v := .tuple #[patV 0 0 none 0 0, .iface 78 (.pointer (some ⟨wr.heap.size, 0, none⟩))]) (by simp [results, Tryd.results19, go_sem, r0, r1, r2]) rfl ?_
          exact hQe _ _ _ (HER.out) HPE.out
        have hxe : ¬ x = ⟨#[]⟩ := fun h => hx0 (by rw [h]; rfl)
        have hxl : ¬ x.toList = [] := fun h => hxe (toList_nil_iff_emptyBytes x |>.1 h)
        have hxi : x.toList.isEmpty = false := by simpa using hxl
        by_cases hxw : x.size = w
        · subst hxw
          have HR3 : Hid (lineErr x.size (e + ((x.size : Int) + 1)) (L.drop (j + 1)) = E) := by
            have h1 := HR2.out
            rw [line_fine hx0 rfl] at h1
            exact h1
          have hwb : ((x.size : Int) == (x.size : Int)) = true := by simp
          generalize wr = wo at *
          go_wp2
          go_loopw [66] (fun ix wr => ∃ (i : Nat) (a3 : Option Addr) (c3 : Nat), i ≤ x.size ∧ ix = .int .i64 i ∧ wr.heap[v]? = some (.cells #[.int .i64 x.size, .int .i64 H, .slice a3 (k + i) c3] 24) ∧ OwI wr (v + 1) a3 (k + i) c3 ((L.take j).flatMap rowC ++ (rowC x).take i) ∧ Below v Wv wr) (fun ix _ => x.size - (intOf ix).toNat)
          case atStart => exact ⟨0, a, c, by omega, rfl, HH.out, by rw [List.take_zero, List.append_nil]; exact HO.out, HB.out⟩
          case round =>
            obtain ⟨i, a3, c3, hi, rfl, hh3, ho3, hb3⟩ := hrel
            have HH3 := Lib.hid hh3
            have HO3 := Lib.hid ho3
            have HB3 := Lib.hid hb3
            by_cases hin : i < x.size
            · obtain ⟨⟨u0, u1, u2⟩, g0, g1, g2⟩ := p_cells hh3
              have hvs : v + 1 ≤ wr.heap.size := heap_lt hh3
              have iI : (i : Int) < (x.size : Int) := by omega
              have i0 : (0 : Int) ≤ (i : Int) := by omega
              have iw : IntKind.i64.wrap ((i : Int) + 1) = (i : Int) + 1 := IntWalk.i64_in _ (by omega)
              have y3 : (wr.alloc (.cells #[.int .i64 (cellC x[i])] 3)).cell? ⟨v, 2, none⟩ = some (.slice a3 (k + i) c3) := al000 u2
              clear hh3 ho3 hb3 v0 v1 v2 f0 f1 f2 z0
              go_wp2_with fail
              go_region_law (first
                | (refine step_app_lit (by rfl) _ _ _ (by rfl) (v + 1) et_int _ (k + i) _ HO3.out.own (by rfl) 1 _ _ (by rfl) (by simp) (by rfl) (by rfl) (by unfold maxLen; omega) (by omega) hvs ?_; intro a5 c5 w5 ho5 hg5 hb5 hs5; have y5 : w5.cell? ⟨v, 2, none⟩ = some (.slice a3 (k + i) c3) := (hb5.cell (p := ⟨v, 2, none⟩) (Nat.lt_succ_self v)).trans u2; have q5 := (hb5.frozen (p := ⟨v, 2, none⟩) (Nat.lt_succ_self v)).trans g2)
                | (go_simp; go_at_call 45; refine (ixb x i hin _).mono ?_; rintro e5 w5 ⟨rfl, rfl⟩))
              all_goals
                have hh5 := (hb5.block v (Nat.lt_succ_self v)).trans HH3.out
                have HH6 := Lib.hid (set2p hh5 (.slice a5 (k + i + 1) c5))
                have e6 : ((L.take j).flatMap rowC ++ (rowC x).take i).map (Value.int .i64) ++ (#[Value.int .i64 (cellC x[i])] : Array Value).toList = ((L.take j).flatMap rowC ++ (rowC x).take (i + 1)).map (Value.int .i64) := by
                  rw [rowC_snoc hin]; simp
                rw [e6] at ho5
                have HO6 : Hid (OwI (w5.setCell ⟨v, 2, none⟩ (.slice a5 (k + i + 1) c5)) (v + 1) a5 (k + i + 1) c5 ((L.take j).flatMap rowC ++ (rowC x).take (i + 1))) :=
                  ⟨own_of_heap' ho5 fun b hb => Below.heap_setCell _ _ _ _ (by have := (ho5.lt b hb).1; show b ≠ v; omega)⟩
                have HB6 := Lib.hid ((HB3.out.trans (hb5.mono (Nat.le_succ v))).setCell (p := ⟨v, 2, none⟩) (Nat.le_refl v) (.slice a5 (k + i + 1) c5))
                clear hh5 e6 ho5 hg5 hb5 hs5 y5 q5 y3 u0 u1 u2 g0 g1 g2
                go_wp2
                go_roundw
                case rel => exact ⟨i + 1, a5, c5, by omega, by go_num, HH6.out, HO6.out, HB6.out⟩
                case measure => simp [intOf]; omega
            · obtain rfl : x.size = i := by omega
              have HO7 : Hid (OwI wr (v + 1) a3 (k + x.size) c3 ((L.take (j + 1)).flatMap rowC)) := by
                have h1 := HO3.out
                rw [List.take_of_length_le (l := rowC x) (by rw [rowC_len]; exact Nat.le_refl _), ← rows_snoc HXJ.out] at h1
                exact h1
              clear hh3 ho3 hb3 v0 v1 v2 f0 f1 f2 z0
              go_wp2
              go_roundw
              case rel => exact ⟨j + 1, e + ((x.size : Int) + 1), a3, k + x.size, c3, by omega, by go_num, rfl, HR3, by omega, by omega, by omega, HH3.out, HO7.out, HB3.out⟩
              case measure => simp [intOf]; omega
        · have HER : Hid (parErrP s = some (e + ((x.size : Int) + 1), 6)) := by
            have h1 := HR2.out
            rw [line_bad (.inr hxw)] at h1
            show _ = _
            rw [HF.out, ← h1]
          have hwb : ((x.size : Int) == (w : Int)) = false := by rw [beq_eq_false_iff_ne]; omega
          clear hQo

          have hzz := (HBV.out wr HB.out).2
          have HBB := Lib.hid ((HBV.out wr HB.out).1)
          obtain ⟨hz2, w9, e9, ⟨r0, r1, r2⟩, hpe⟩ := pe_fin HS.out HBB.out hzz (e + ((x.size : Int) + 1)) 6
          have HPE := Lib.hid hpe
          have HE9 := Lib.hid e9
          clear hpe e9 hzz
          obtain ⟨⟨d0, d1, d2⟩, q0, q1, q2⟩ := p_cells hz2
          clear hz2
          go_wp2_with fail
          refine (patch_wrong _ _ _ R (HS.out.up HBB.out).glob rfl).mono ?_; rintro e wx ⟨rfl, rfl⟩
          go_wp2
          rw [HE9.out]
          refine bodyPost_ret (v := .tuple #[patV 0 0 none 0 0, .iface 78 (.pointer (some ⟨wr.heap.size, 0, none⟩))]) (by simp [results, Tryd.results19, go_sem, r0, r1, r2]) rfl ?_
          exact hQe _ _ _ (HER.out) HPE.out
      · obtain rfl : H = j := by omega
        have hE0 : E = none := by
          rw [← HR.out, List.drop_of_length_le (by rw [HLH.out]; exact Nat.le_refl _)]
          rfl
        have hP : parErrP s = if 64 < w then some (1, 4) else if 64 < H then some (2, 4) else none := by
          rw [HF.out, hE0]
        have HP := Lib.hid hP
        have HT : Hid ((L.take H).flatMap rowC = parCells s) := by
          show _ = _
          rw [← HLH.out, List.take_length]
          unfold parCells
          rw [HLL.out]
        clear hE0 hP
        obtain ⟨⟨v0, v1, v2⟩, f0, f1, f2⟩ := p_cells HH.out
        by_cases hw64 : 64 < w
        · have HER : Hid (parErrP s = some (1, 4)) := by show _ = _; rw [HP.out, if_pos hw64]
          have hwI : (64 : Int) < (w : Int) := by omega
          clear hQo

          have hzz := (HBV.out wr HB.out).2
          have HBB := Lib.hid ((HBV.out wr HB.out).1)
          obtain ⟨hz2, w9, e9, ⟨r0, r1, r2⟩, hpe⟩ := pe_fin HS.out HBB.out hzz (1) 4
          have HPE := Lib.hid hpe
          have HE9 := Lib.hid e9
          clear hpe e9 hzz
          obtain ⟨⟨d0, d1, d2⟩, q0, q1, q2⟩ := p_cells hz2
          clear hz2
          go_wp2_with fail
          refine (patch_wrong _ _ _ R (HS.out.up HBB.out).glob rfl).mono ?_; rintro e wx ⟨rfl, rfl⟩
          go_wp2
          rw [HE9.out]
          refine bodyPost_ret (v := .tuple #[patV 0 0 none 0 0, .iface 78 (.pointer (some ⟨wr.heap.size, 0, none⟩))]) (by simp [results, Tryd.results19, go_sem, r0, r1, r2]) rfl ?_
          exact hQe _ _ _ (HER.out) HPE.out
        have hwI : (w : Int) ≤ 64 := by omega
        by_cases hh64 : 64 < H
        · have HER : Hid (parErrP s = some (2, 4)) := by show _ = _; rw [HP.out, if_neg hw64, if_pos hh64]
          have hHI2 : (64 : Int) < (H : Int) := by omega
          clear hQo

          have hzz := (HBV.out wr HB.out).2
          have HBB := Lib.hid ((HBV.out wr HB.out).1)
          obtain ⟨hz2, w9, e9, ⟨r0, r1, r2⟩, hpe⟩ := pe_fin HS.out HBB.out hzz (2) 4
          have HPE := Lib.hid hpe
          have HE9 := Lib.hid e9
          clear hpe e9 hzz
          obtain ⟨⟨d0, d1, d2⟩, q0, q1, q2⟩ := p_cells hz2
          clear hz2
          go_wp2_with fail
          refine (patch_wrong _ _ _ R (HS.out.up HBB.out).glob rfl).mono ?_; rintro e wx ⟨rfl, rfl⟩
          go_wp2
          rw [HE9.out]
          refine bodyPost_ret (v := .tuple #[patV 0 0 none 0 0, .iface 78 (.pointer (some ⟨wr.heap.size, 0, none⟩))]) (by simp [results, Tryd.results19, go_sem, r0, r1, r2]) rfl ?_
          exact hQe _ _ _ (HER.out) HPE.out
        have hHI3 : (H : Int) ≤ 64 := by omega
        have HPN : Hid (parErrP s = none) := by show _ = _; rw [HP.out, if_neg hw64, if_neg hh64]
        have hkl : k = ((L.take H).flatMap rowC).length := by have := HO.out.own.1; simpa using this.symm
        have HKL := Lib.hid hkl
        clear hkl
        have hz := (HBV.out wr HB.out).2
        have HZR := Lib.hid hz
        obtain ⟨⟨d0, d1, d2⟩, q0, q1, q2⟩ := p_cells hz
        clear hz
        go_wp2
        obtain ⟨w9, e9, ⟨r0, r1, r2⟩, hk9, hs9, hbl9⟩ := set3p HZR.out (.int .i64 w) (.int .i64 H) (.slice a k c)
        rw [e9]
        refine bodyPost_ret (v := .tuple #[patV w H a k c, .nilIface]) (by simp [results, Tryd.results19, go_sem, r0, r1, r2]) rfl ?_
        refine hQo _ _ HPN.out ⟨a, c, ?_, ?_, hbl9 _ _ (Nat.le_refl _) (HBV.out wr HB.out).1⟩
        · rw [← HT.out, ← HKL.out, HLL.out, HLH.out, HWW.out]
        · rw [← HT.out, ← HKL.out]
          refine OwI.base (base := v + 1) ⟨own_of_heap' HO.out.own fun b hb => hk9 b ?_⟩ (by omega)
          have := (HO.out.own.lt b hb).1
          omega
end Go.Proofs.YtnlpobkmjhajcaaDoor
