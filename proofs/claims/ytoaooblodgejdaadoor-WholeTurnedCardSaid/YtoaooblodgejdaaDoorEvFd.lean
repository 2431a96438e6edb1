/- eve: (*search).found. -/
import Derived.Test.YtoaooblodgejdaaDoorEvO
namespace Go.Proofs.YtoaooblodgejdaaDoor
open Go.RowKit
set_option linter.unusedVariables false
set_option maxRecDepth 100000

abbrev fndV (kd : Int) (w h : Int) (a : Option Addr) (n c : Nat) (a2 : Option Addr) (n2 c2 : Nat) : Value := .agg #[.int .i64 kd, .int .i64 w, .int .i64 h, .slice a n c, .slice a2 n2 c2]
theorem f_cells {w : World} {g : Nat} {x0 x1 x2 x3 x4 : Value} {t : TypeId} (h : w.heap[g]? = some (.cells #[x0, x1, x2, x3, x4] t)) : (w.cell? ⟨g, 0, none⟩ = some x0 ∧ w.cell? ⟨g, 1, none⟩ = some x1 ∧ w.cell? ⟨g, 2, none⟩ = some x2 ∧ w.cell? ⟨g, 3, none⟩ = some x3 ∧ w.cell? ⟨g, 4, none⟩ = some x4) ∧ ∀ j, w.frozen? ⟨g, j, none⟩ = false := by
  refine ⟨by simp [World.cell?, h], fun j => ?_⟩
  simp [World.frozen?, h]
theorem set5f {w : World} {g : Nat} {x0 x1 x2 x3 x4 : Value} {t : TypeId} {fr : Nat × Nat} (h : w.heap[g]? = some (.cells #[x0, x1, x2, x3, x4] t fr)) (u0 u1 u2 u3 u4 : Value) :
    ∃ w6, (((((w.setCell ⟨g, 0, none⟩ u0).setCell ⟨g, 1, none⟩ u1).setCell ⟨g, 2, none⟩ u2).setCell ⟨g, 3, none⟩ u3).setCell ⟨g, 4, none⟩ u4) = w6 ∧ (w6.cell? ⟨g, 0, none⟩ = some u0 ∧ w6.cell? ⟨g, 1, none⟩ = some u1 ∧ w6.cell? ⟨g, 2, none⟩ = some u2 ∧ w6.cell? ⟨g, 3, none⟩ = some u3 ∧ w6.cell? ⟨g, 4, none⟩ = some u4) ∧ (∀ k, k ≠ g → w6.heap[k]? = w.heap[k]?) ∧ w6.heap.size = w.heap.size ∧ ∀ (V : World) (B : Nat), B ≤ g → Below B V w → Below B V w6 := by
  refine ⟨_, rfl, ?_, fun k hk => ?_, ?_, fun V B hB hb => ?_⟩
  · simp [World.cell?, World.setCell, Array.getElem?_modify, h]
  · rw [Below.heap_setCell _ _ _ _ hk, Below.heap_setCell _ _ _ _ hk, Below.heap_setCell _ _ _ _ hk, Below.heap_setCell _ _ _ _ hk, Below.heap_setCell _ _ _ _ hk]
  · simp [World.setCell]
  · exact ((((hb.setCell (p := ⟨g, 0, none⟩) hB _).setCell (p := ⟨g, 1, none⟩) hB _).setCell (p := ⟨g, 2, none⟩) hB _).setCell (p := ⟨g, 3, none⟩) hB _).setCell (p := ⟨g, 4, none⟩) hB _
set_option maxHeartbeats 16000000 in
theorem evfound (k : SK) (t l : List Int) (R : Nat → Addr) (w0 : World) (hst : ST k t l R w0) (S : SS) (W : World) (aO aW : Option Addr) (cO cW : Nat) (v : Nat → Nat) (hm : SM k S W aO cO aW cW) (hb : Below k.g w0 W) (hv : S.way.reverse = colsV v k.w) (hj : JoinOk (k.h + 2) (colsV v k.w)) :
    Calls Tryd.prog 101 #[.pointer (some ⟨k.g, 0, none⟩)] W fun e w' => ∃ a n c, e = .returned (.tuple #[fndV 1 ((k.w + 2 : Nat) : Int) ((k.h + 2 : Nat) : Int) a n c none 0 0, .nilIface]) ∧ OwI w' W.heap.size a n c (joinL (k.h + 2) (colsV v k.w)) ∧ Below W.heap.size W w' := by
  have hw8 := hst.w8
  have hh4 := hst.h4
  have hsn := (hst.up hb).1
  have hlen : S.way.length = k.w + 2 := by
    have h := congrArg List.length hv
    rw [List.length_reverse] at h
    rw [h]
    simp [colsV]
  obtain ⟨nW, hnW⟩ : ∃ nW, S.way.length = nW := ⟨_, rfl⟩
  have hbox := hm.box
  have hway := hm.way.rk
  rw [hnW] at hbox hway hlen
  have hcol : ∀ j, j < nW → S.way.getD (nW - 1 - j) 0 = (colsV v k.w).getD j 0 := fun j hj2 => by
    rw [← hv]
    rw [List.getD_eq_getElem?_getD, List.getD_eq_getElem?_getD, List.getElem?_reverse (by rw [hnW]; exact hj2), hnW]
  have hcl : (colsV v k.w).length = nW := by rw [hlen]; simp [colsV]
  obtain ⟨CS, hCS⟩ : ∃ CS, colsV v k.w = CS := ⟨_, rfl⟩
  rw [hCS] at hcol hcl hj ⊢
  have hjd := joinD_of hj
  have hjo : joinO ((k.h + 2 : Nat) : Int) CS = (((k.w + 2 : Nat) : Int), ((k.h + 2 : Nat) : Int), joinL (k.h + 2) CS) := by unfold joinO; rw [if_pos hjd, hcl, hlen]; rfl
  obtain ⟨HH, hHH⟩ : ∃ HH, k.h + 2 = HH := ⟨_, rfl⟩
  obtain ⟨WW, hWW⟩ : ∃ WW, k.w + 2 = WW := ⟨_, rfl⟩
  rw [hHH] at hjd hjo ⊢
  rw [hWW] at hjo ⊢
  have hHI : (k.h : Int) + 2 = (HH : Int) := by omega
  have hHw : IntKind.i64.wrap (HH : Int) = (HH : Int) := IntWalk.i64_in _ (by omega)
  have hnb : nW ≤ 10 := by omega
  have hnb1 : 1 ≤ nW := by omega
  have HCL := Lib.hid (And.intro hcol hcl)
  have HJO := Lib.hid (And.intro hjd hjo)
  clear hm hst hv hj hnW hlen hCS hcol hcl hjd hjo hHH hWW hb
  have T0 := Tk.nil W
  have T1 := T0.add (fun wv => Below W.heap.size W wv) (bnil W)
  clear T0
  have T2 := T1.add (fun wv => Sent wv R) (hsn)
  clear T1
  have T3 := T2.add (fun wv => wv.heap[k.g]? = some (sObj k S.tries S.left aO S.order.length cO aW nW cW)) (hbox)
  clear T2
  have T4 := T3.add (fun wv => RK .i64 wv aW nW S.way) (hway)
  clear T3
  clear hsn hbox hway
  obtain ⟨Wb, hWb⟩ : ∃ Wb, W.alloc (.cells #[.int .i64 0, .int .i64 0, .int .i64 0, .slice none 0 0, .slice none 0 0] 28) = Wb := ⟨_, rfl⟩
  have hbWb : Below W.heap.size W Wb := by rw [← hWb]; exact balloc (bnil W) _
  have T5 := T4.up hbWb
  clear T4
  have HWb := Lib.hid hWb
  clear hWb hbWb
  have hz : Wb.heap[W.heap.size]? = some (.cells #[.int .i64 0, .int .i64 0, .int .i64 0, .slice none 0 0, .slice none 0 0] 28) := by rw [← HWb.out]; exact heap_alloc_new W _
  have hsz : W.heap.size + 1 = Wb.heap.size := by rw [← HWb.out]; simp
  have T6 := T5.add (fun wv => wv.heap[W.heap.size]? = some (.cells #[.int .i64 0, .int .i64 0, .int .i64 0, .slice none 0 0, .slice none 0 0] 28)) (hz)
  clear T5
  have HSZ := Lib.hid hsz
  clear hz hsz
  go_enter Tryd.func101, Tryd.ntmps101
  obtain ⟨⟨e0, e1, e2, e4, e5, e6, e7, e8, e9, e10⟩, _⟩ := s_cells (T6.out.1.1.2)
  clear e0 e1 e2 e4 e5 e6 e7 e8 e9
  have e10' : (W.alloc (.cells #[.int .i64 0, .int .i64 0, .int .i64 0, .slice none 0 0, .slice none 0 0] 28)).cell? ⟨k.g, 10, none⟩ = some (.slice aW nW cW) := by rw [HWb.out]; exact e10
  go_wp2_with (first
    | (at_make; rw [HWb.out]; refine mk_cap rfl _ _ _ rfl Wb.heap.size et_int .i64 .i64 _ nW rfl rfl rfl (by omega) (by unfold maxLen; omega) (Nat.le_refl _) ?_; intro w5 hown5 hb5 hsz5; have HOB := Lib.hid hown5; have HBB := Lib.hid hb5; have y10 : w5.cell? ⟨k.g, 10, none⟩ = some (.slice aW nW cW) := cpa hb5 e10; clear hown5 hb5 hsz5))
  obtain ⟨gl, hgl⟩ : ∃ gl, Wb.heap.size = gl := ⟨_, rfl⟩
  have HO0 : Hid (OwI w5 gl (some ⟨gl, 0, none⟩) 0 nW (CS.take 0)) := by show OwI _ _ _ _ _ _; rw [← hgl]; exact ⟨HOB.out⟩
  have HB0 : Hid (Below gl Wb w5) := by rw [← hgl]; exact HBB.out
  have HGL := Lib.hid hgl
  have hnI : ((nW : Int) - 1) = ((nW - 1 : Nat) : Int) := by omega
  have hnw : IntKind.i64.wrap ((nW - 1 : Nat) : Int) = ((nW - 1 : Nat) : Int) := IntWalk.i64_in _ (by omega)
  try rw [hgl]
  clear hgl HOB HBB
  go_wp2_with fail
  go_loopw [4, 5] (fun lx ix wr => ∃ (j : Nat) (aa : Option Addr) (cc : Nat) (iv : Int), j ≤ nW ∧ ix = .int .i64 iv ∧ iv = (nW : Int) - 1 - (j : Int) ∧ lx = .slice aa j cc ∧ OwI wr gl aa j cc (CS.take j) ∧ Below gl Wb wr) (fun _ ix _ => (intOf ix + 1).toNat)
  case atStart => exact ⟨0, _, _, _, by omega, rfl, by omega, rfl, HO0.out, HB0.out⟩
  case round =>
    clear y10 e10 e10'
    obtain ⟨j, aa, cc, iv, hj, rfl, hiv, rfl, ho, hb⟩ := hrel
    have HO := Lib.hid ho
    have HBx := Lib.hid hb
    have hbT : Below Wb.heap.size Wb wr := by rw [HGL.out]; exact hb
    clear ho hb HO0 HB0
    have T7 := T6.up hbT
    clear T6
    clear hbT
    by_cases hjn : j < nW
    · skip
      obtain ⟨q, hq⟩ : ∃ q, nW - 1 - j = q := ⟨_, rfl⟩
      obtain rfl : iv = (q : Int) := by omega
      obtain ⟨bw, ow, haw, _, hcw⟩ := (T7.out.1.2).addr (by omega)
      subst haw
      have z1 := hcw q (by omega)
      have hv1 := HCL.out.1 j hjn
      rw [hq] at hv1
      rw [hv1] at z1
      obtain ⟨u, hu⟩ : ∃ u, CS.getD j 0 = u := ⟨_, rfl⟩
      rw [hu] at z1
      have hsn := take_snoc (l := CS) (k := j) (by rw [HCL.out.2]; exact hjn)
      rw [hu] at hsn
      have HSN := Lib.hid hsn
      obtain ⟨⟨e0, e1, e2, e4, e5, e6, e7, e8, e9, e10⟩, _⟩ := s_cells (T7.out.1.1.2)
      have q0 : (0 : Int) ≤ (q : Int) := by omega
      have q1 : (q : Int) < (nW : Int) := by omega
      have qI : (q : Int) - 1 = (nW : Int) - 1 - ((j + 1 : Nat) : Int) := by omega
      have qw : IntKind.i64.wrap ((nW : Int) - 1 - ((j + 1 : Nat) : Int)) = (nW : Int) - 1 - ((j + 1 : Nat) : Int) := IntWalk.i64_in _ (by omega)
      have qw2 : IntKind.i64.wrap ((q : Int) - 1) = (q : Int) - 1 := IntWalk.i64_in _ (by omega)
      have hgs : gl ≤ wr.heap.size := by rw [← HGL.out]; exact HBx.out.size
      have hown := HO.out.own
      clear hcw hv1 hu hsn e0 e1 e2 e4 e5 e6 e7 e8 e9
      go_wp2_with (first
        | (at_builtin; refine app_lit rfl _ _ _ rfl gl et_int _ j _ hown (by rfl) 1 _ _ (by rfl) (by rfl) (by simp) (by rfl) (by unfold maxLen; omega) (by omega) hgs ?_; intro a7 c7 w7 ho7 hg7 hb7 hs7; have HO7 := Lib.hid ho7; have HB7 := Lib.hid hb7; clear ho7 hg7 hb7 hs7))
      have HO8 : Hid (OwI w7 gl a7 (j + 1) c7 (CS.take (j + 1))) := by
        refine ⟨?_⟩
        rw [← HSN.out]
        exact HO7.out
      have HB8 : Hid (Below gl Wb w7) := HBx.out.trans HB7.out
      clear hown
      go_wp2
      go_roundw
      case rel => exact ⟨j + 1, by omega, by omega, a7, c7, ⟨rfl, rfl, rfl⟩, HO8.out, HB8.out⟩
      case measure => simp [intOf]; omega
    obtain rfl : j = nW := by omega
    have HWL : Hid (W.heap.size < wr.heap.size) := heap_ltT (T7.out.2)
    have ho := HO.out
    rw [List.take_of_length_le (by rw [HCL.out.2]; exact Nat.le_refl _)] at ho
    obtain rfl : iv = -1 := by omega
    have T8 := T7.add (fun wv => OwI wv gl aa j cc CS) (ho)
    clear T7
    clear ho HO
    obtain ⟨⟨e0, e1, e2, e4, e5, e6, e7, e8, e9, e10⟩, _⟩ := s_cells (T8.out.1.1.1.2)
    clear e0 e1 e4 e5 e6 e7 e8 e9 e10
    go_wp2_with fail
    refine (join_any HH aa j cc CS wr R T8.out.1.1.1.1.2 (T8.out.2).rk (by unfold maxLen; omega)).mono ?_; rintro e w8 ⟨a7, n7, c7, ev7, rfl, ho7, he7, hbw8⟩
    have T9 := T8.up hbw8
    clear T8
    clear e2
    rw [HJO.out.1] at he7
    rw [HJO.out.2] at ho7
    rw [HJO.out.2]
    obtain rfl : ev7 = .nilIface := he7
    have T10 := T9.add (fun wv => OwI wv wr.heap.size a7 n7 c7 (joinL HH CS)) (ho7)
    clear T9
    have hwr : W.heap.size ≤ wr.heap.size := by have h1 := heap_ltT (T10.out.1.1.2); have := hbw8.size; have h2 := HBx.out.size; have := HGL.out; have := HSZ.out; omega
    clear ho7
    obtain ⟨w9, hw9⟩ : ∃ w9, w8.alloc (.cells #[.int .i64 (WW : Nat), .int .i64 (HH : Nat), .slice a7 n7 c7] 24) = w9 := ⟨_, rfl⟩
    have hbw9 : Below w8.heap.size w8 w9 := by rw [← hw9]; exact balloc (bnil w8) _
    have T11 := T10.up hbw9
    clear T10
    have T12 := T11.add (fun wv => wv.cell? ⟨w8.heap.size, 0, none⟩ = some (.int .i64 (WW : Nat)) ∧ wv.cell? ⟨w8.heap.size, 1, none⟩ = some (.int .i64 (HH : Nat)) ∧ wv.cell? ⟨w8.heap.size, 2, none⟩ = some (.slice a7 n7 c7)) (by rw [← hw9]; exact ⟨cnw (by simp) rfl, cnw (by simp) rfl, cnw (by simp) rfl⟩)
    clear T11
    have Hw9 := Lib.hid hw9
    clear hw9 hbw9
    obtain ⟨⟨z0, z1, z2, z3, z4⟩, zf⟩ := f_cells (T12.out.1.1.1.2)
    have zf0 := zf 0
    have zf1 := zf 1
    have zf2 := zf 2
    have zf3 := zf 3
    have zf4 := zf 4
    obtain ⟨wA, eA, ⟨r0, r1, r2, r3, r4⟩, hkA, hsA, hbA⟩ := set5f (T12.out.1.1.1.2) (.int .i64 1) (.int .i64 (WW : Nat)) (.int .i64 (HH : Nat)) (.slice a7 n7 c7) (.slice none 0 0)
    rw [← Hw9.out] at z0 z1 z2 z3 z4 zf0 zf1 zf2 zf3 zf4 eA
    have HEA := Lib.hid eA
    have HRA := Lib.hid (And.intro r0 (And.intro r1 (And.intro r2 (And.intro r3 r4))))
    have HBA := Lib.hid (hbA W W.heap.size (Nat.le_refl _) (T12.out.1.1.1.1.1.1.1.2))
    have hoA : OwI wA W.heap.size a7 n7 c7 (joinL HH CS) := by
      have h7 := T12.out.1.2
      have hlz := heap_ltT (T12.out.1.1.1.2)
      exact OwI.base ⟨own_of_heap' h7.own fun b hb => hkA b (by have h1 := (h7.own.lt b hb).1; have h2 : W.heap.size < wr.heap.size := HWL.out; omega)⟩ hwr
    have HOA := Lib.hid hoA
    clear zf r0 r1 r2 r3 r4 hkA hsA hbA eA hoA hwr
    have v_p0 : (w8.alloc (.cells #[.int .i64 (WW : Nat), .int .i64 (HH : Nat), .slice a7 n7 c7] 24)).cell? ⟨w8.heap.size, 0, none⟩ = some (.int .i64 (WW : Nat)) := by rw [Hw9.out]; exact T12.out.2.1
    have v_p1 : (w8.alloc (.cells #[.int .i64 (WW : Nat), .int .i64 (HH : Nat), .slice a7 n7 c7] 24)).cell? ⟨w8.heap.size, 1, none⟩ = some (.int .i64 (HH : Nat)) := by rw [Hw9.out]; exact T12.out.2.2.1
    have v_p2 : (w8.alloc (.cells #[.int .i64 (WW : Nat), .int .i64 (HH : Nat), .slice a7 n7 c7] 24)).cell? ⟨w8.heap.size, 2, none⟩ = some (.slice a7 n7 c7) := by rw [Hw9.out]; exact T12.out.2.2.2
    go_wp2
    rw [HEA.out]
    have r0 := HRA.out.1
    have r1 := HRA.out.2.1
    have r2 := HRA.out.2.2.1
    have r3 := HRA.out.2.2.2.1
    have r4 := HRA.out.2.2.2.2
    refine bodyPost_ret (v := .tuple #[fndV 1 (WW : Nat) (HH : Nat) a7 n7 c7 none 0 0, .nilIface]) (by simp [results, Tryd.results101, go_sem, r0, r1, r2, r3, r4]) rfl ?_
    exact ⟨_, _, _, rfl, HOA.out, HBA.out⟩
end Go.Proofs.YtoaooblodgejdaaDoor
