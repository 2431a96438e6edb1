/- eve: (*search).all. -/
import Derived.Test.YtoaooblodgejdaaDoorEvFd
import Derived.Deep.RegionHeld3
namespace Go.Proofs.YtoaooblodgejdaaDoor
open Go.RowKit
set_option linter.unusedVariables false
set_option maxRecDepth 100000

theorem encode_okM (w h : Int) (a : Option Addr) (c n : Nat) (l : List (Int × Int × Int)) (W : World) (hn : n = l.length) (hR : Rd W a l.length 3 (entsC l)) (H : EncOk w h l) :
    Calls Tryd.prog 55 #[.int .i64 w, .int .i64 h, .slice a n c] W fun e w' =>
      ∃ a' c', e = .returned (.tuple #[.slice a' (4 + 3 * l.length) c', .nilIface]) ∧ w'.ownsRow W.heap.size 5 1 (.slice a' (4 + 3 * l.length) c') (4 + 3 * l.length) ((encL w h l).map (Value.int .u8)) ∧ Below W.heap.size W w' := by
  subst hn
  rw [encL_map]
  exact encode_ok w h a c l W hR H.w1 H.w2 H.h1 H.h2 H.len H.fit
theorem own_nF {w : World} {b sz n gr : Nat} {e : TypeId} {v : Value} {cs : List Value} {xs : Array Value} (h : w.ownsRow b e sz v n cs) (hne : e ≠ 28) (hz : w.heap[gr]? = some (.cells xs 28)) : v.ownBlock ≠ some gr := fun e3 => by
  rcases h.2 with ⟨rfl, _⟩ | ⟨k1, _, _, rfl, _, q1, _⟩
  · cases e3
  · simp only [Value.ownBlock, Option.some.injEq] at e3
    subst e3
    rw [q1] at hz
    simp only [Option.some.injEq, Obj.cells.injEq] at hz
    exact hne hz.2.1
theorem SM.oth {k : SK} {S : SS} {w w' : World} {aO aW : Option Addr} {cO cW gr : Nat} {xs : Array Value} (h : SM k S w aO cO aW cW) (hz : w.heap[gr]? = some (.cells xs 28)) (hk : ∀ j, j ≠ gr → w'.heap[j]? = w.heap[j]?) : SM k S w' aO cO aW cW := by
  have hg : k.g ≠ gr := fun e => by
    have h1 := h.box
    rw [e, hz] at h1
    simp only [Option.some.injEq, Obj.cells.injEq] at h1
    exact absurd h1.2.1 (by decide)
  refine ⟨(hk _ hg).trans h.box, own_of_heap' h.dead fun b hb => hk b fun e => ?_, own_of_heap' h.ord fun b hb => hk b fun e => ?_, ⟨own_of_heap' h.way.own fun b hb => hk b fun e => ?_⟩⟩
  · exact own_nF h.dead (by decide) hz (e ▸ hb)
  · exact own_nF h.ord (by decide) hz (e ▸ hb)
  · exact own_nF h.way.own (by decide) hz (e ▸ hb)
/-- what the search hands back -/
def FndR (k : SK) (R : Nat → Addr) (B : Nat) (w' : World) (X : SS × Option Bool) (val ev : Value) : Prop := match X.2 with
  | none => val = fndV 0 0 0 none 0 0 none 0 0 ∧ ev = nbV R
  | some true => ∃ a n c, val = fndV 1 ((k.w + 2 : Nat) : Int) ((k.h + 2 : Nat) : Int) a n c none 0 0 ∧ ev = .nilIface ∧ OwI w' B a n c (joinL (k.h + 2) X.1.way.reverse)
  | some false => ∃ a c, val = fndV 2 0 0 none 0 0 a (4 + 3 * X.1.order.length) c ∧ ev = .nilIface ∧ w'.ownsRow B 5 1 (.slice a (4 + 3 * X.1.order.length) c) (4 + 3 * X.1.order.length) ((encL (k.w : Int) (k.h : Int) X.1.order).map (Value.int .u8))
def AllRet (k : SK) (R : Nat → Addr) (w0 W : World) (X : SS × Option Bool) (e : Ending) (w' : World) : Prop := ∃ val ev aO cO aW cW, e = .returned (.tuple #[val, ev]) ∧ SM k X.1 w' aO cO aW cW ∧ Below k.g w0 w' ∧ FndR k R W.heap.size w' X val ev
set_option maxHeartbeats 32000000 in
theorem evall (k : SK) (t l : List Int) (R : Nat → Addr) (w0 : World) (hst : ST k t l R w0) (L0 : Nat) (hL0 : L0 ≤ 1099511627776) (W : World) (aO aW : Option Addr) (cO cW : Nat) (hm : SM k (S0 L0) W aO cO aW cW) (hb : Below k.g w0 W) :
    Calls Tryd.prog 59 #[.pointer (some ⟨k.g, 0, none⟩)] W (AllRet k R w0 W (seekF t (colL k.w k.h l) k.h k.m k.w L0)) := by
  have hm64 := (m_le hst.h4).1
  rw [← hst.me] at hm64
  have hend := seek_end (t := t) (l := l) hst.ist hst.isp hst.w8 hst.h4 L0
  rw [← hst.me] at hend
  obtain ⟨Y, hY⟩ : ∃ Y, seekF t (colL k.w k.h l) k.h k.m k.w L0 = Y := ⟨_, rfl⟩
  rw [hY] at hend ⊢
  have hY2 : allF (mkK k t l) k.m k.w (k.m * k.m - 0 * k.m) (0 * k.m) (S0 L0) = Y := by rw [Nat.zero_mul, Nat.sub_zero]; exact hY
  have hlw : W.heap.size < (W.alloc (.cells #[.int .i64 0, .int .i64 0, .int .i64 0, .slice none 0 0, .slice none 0 0] 28)).heap.size := by simp
  obtain ⟨gr, hgr⟩ : ∃ gr, W.heap.size = gr := ⟨_, rfl⟩
  have hbx := hm.box
  obtain ⟨Wb, hWb⟩ : ∃ Wb, W.alloc (.cells #[.int .i64 0, .int .i64 0, .int .i64 0, .slice none 0 0, .slice none 0 0] 28) = Wb := ⟨_, rfl⟩
  have hz : Wb.heap[gr]? = some (.cells #[.int .i64 0, .int .i64 0, .int .i64 0, .slice none 0 0, .slice none 0 0] 28) := by rw [← hWb, ← hgr]; exact heap_alloc_new W _
  have hbb : Below W.heap.size W Wb := by rw [← hWb]; exact balloc (bnil W) _
  have hmb := hm.below hbb
  have hbw := hb.trans (hbb.mono (Nat.le_of_lt (heap_ltT hbx)))
  obtain ⟨⟨e0, e1, e2, e4, e5, e6, e7, e8, e9, e10⟩, _⟩ := s_cells hmb.box
  rw [← hWb] at e5
  have HZ0 := Lib.hid hz
  have HMB := Lib.hid hmb
  have HBB := Lib.hid hbw
  have HWB := Lib.hid hWb
  have HST := Lib.hid hst
  have HEND := Lib.hid hend
  have HY := Lib.hid hY2
  have HGR : Hid (k.g < gr) := by show _ < _; rw [← hgr]; exact heap_ltT hbx
  have HGW := Lib.hid hgr
  clear hm hb hst hend hY hY2 hbx hz hbb hmb hbw e0 e1 e2 e4 e6 e7 e8 e9 e10 hWb hlw
  go_enter Tryd.func59, Tryd.ntmps59
  go_wp2_with fail
  rw [HWB.out]
  try rw [HGW.out]
  clear e5 hgr
  go_loopw [14] (fun cx wr => ∃ (a : Nat) (S2 : SS) (aO : Option Addr) (cO : Nat) (aW : Option Addr) (cW : Nat), a ≤ k.m ∧ cx = .int .i64 (a : Nat) ∧ SM k S2 wr aO cO aW cW ∧ Below k.g w0 wr ∧ wr.heap[gr]? = some (.cells #[.int .i64 0, .int .i64 0, .int .i64 0, .slice none 0 0, .slice none 0 0] 28) ∧ allF (mkK k t l) k.m k.w (k.m * k.m - a * k.m) (a * k.m) S2 = Y ∧ Inv t (colL k.w k.h l) k.h k.m k.w L0 S2 ∧ (∀ x ∈ S2.st, x ∈ S2.order) ∧ S2.way = []) (fun cx _ => k.m - (intOf cx).toNat)
  case atStart => exact ⟨0, S0 L0, aO, cO, aW, cW, by omega, rfl, HMB.out, HBB.out, HZ0.out, HY.out, inv0 _ _ _ _ _ _, nofun, rfl⟩
  case round =>
    clear HZ0 HMB HBB HY
    obtain ⟨a, S2, aO2, cO2, aW2, cW2, ha, rfl, hm2, hb2, hz2, hrun, hi2, hA2, hw2⟩ := hrel
    obtain ⟨⟨e0, e1, e2, e4, e5, e6, e7, e8, e9, e10⟩, hf⟩ := s_cells hm2.box
    have HM2 := Lib.hid hm2
    have HB2 := Lib.hid hb2
    have HZ2 := Lib.hid hz2
    have HI2 := Lib.hid (And.intro hi2 (And.intro hA2 hw2))
    clear hm2 hb2 hz2 hi2 hA2 hw2 hf e0 e4 e6 e7 e8 e10
    by_cases ham : a < k.m
    · have ai : (a : Int) < (k.m : Int) := by omega
      have aw : IntKind.i64.wrap ((a : Int) + 1) = (a : Int) + 1 := IntWalk.i64_in _ (by omega)
      have hrn : allF (mkK k t l) k.m k.w (k.m * k.m - (a * k.m + 0)) (a * k.m + 0) S2 = Y := hrun
      have HRN := Lib.hid hrn
      clear hrun hrn e1 e2 e9
      go_wp2_with fail
      go_loopw [21] (fun cx wr => ∃ (b : Nat) (S2 : SS) (aO : Option Addr) (cO : Nat) (aW : Option Addr) (cW : Nat), b ≤ k.m ∧ cx = .int .i64 (b : Nat) ∧ SM k S2 wr aO cO aW cW ∧ Below k.g w0 wr ∧ wr.heap[gr]? = some (.cells #[.int .i64 0, .int .i64 0, .int .i64 0, .slice none 0 0, .slice none 0 0] 28) ∧ allF (mkK k t l) k.m k.w (k.m * k.m - (a * k.m + b)) (a * k.m + b) S2 = Y ∧ Inv t (colL k.w k.h l) k.h k.m k.w L0 S2 ∧ (∀ x ∈ S2.st, x ∈ S2.order) ∧ S2.way = []) (fun cx _ => k.m - (intOf cx).toNat)
      case atStart => exact ⟨0, S2, aO2, cO2, aW2, cW2, by omega, rfl, HM2.out, HB2.out, HZ2.out, HRN.out, HI2.out⟩
      case round =>
        clear HM2 HB2 HZ2 HI2 HRN e5
        obtain ⟨b, S3, aO3, cO3, aW3, cW3, hb, rfl, hm3, hb3, hz3, hrun, hi3, hA3, hw3⟩ := hrel
        have HM3 := Lib.hid hm3
        have HB3 := Lib.hid hb3
        have HZ3 := Lib.hid hz3
        have HI3 := Lib.hid (And.intro hi3 (And.intro hA3 hw3))
        clear hm3 hb3 hz3
        by_cases hbm : b < k.m
        · have bi : (b : Int) < (k.m : Int) := by omega
          have bw : IntKind.i64.wrap ((b : Int) + 1) = (b : Int) + 1 := IntWalk.i64_in _ (by omega)
          have hpl : a * k.m + b < k.m * k.m := by
            have h1 : (a + 1) * k.m ≤ k.m * k.m := Nat.mul_le_mul_right _ ham
            rw [Nat.succ_mul] at h1
            omega
          obtain ⟨r, hr⟩ : ∃ r, k.m * k.m - (a * k.m + b) = r + 1 := ⟨k.m * k.m - (a * k.m + b) - 1, by omega⟩
          have hr2 : k.m * k.m - (a * k.m + (b + 1)) = r := by omega
          rw [hr] at hrun
          unfold allF at hrun
          rw [pair_div hbm, pair_rem hbm, ← hr2, Nat.add_assoc] at hrun
          have hpo := on_post (t := t) (cols := colL k.w k.h l) (h := k.h) (m := k.m) (w := k.w) (L0 := L0) k.w 0 a b S3 (by omega) ham hbm hi3 (fun x hx _ => hA3 x hx)
          have hC : Calls Tryd.prog 100 #[.pointer (some ⟨k.g, 0, none⟩), .int .i64 0, .int .i64 (a : Nat), .int .i64 (b : Nat)] wr (OnRet k R w0 wr (onF (mkK k t l) k.m k.w 0 a b S3)) :=
            evon_any k t l R w0 HST.out L0 hL0 k.w 0 a b S3 wr aO3 aW3 cO3 cW3 (by omega) ham hbm hi3 (fun x hx _ => hA3 x hx) hw3 HM3.out HB3.out
          obtain ⟨S4, o4, hX⟩ : ∃ S4 o4, onF (mkK k t l) k.m k.w 0 a b S3 = (S4, o4) := ⟨_, _, rfl⟩
          rw [hX] at hrun hpo hC
          have HC := Lib.hid hC
          have HPO := Lib.hid hpo
          have HRN := Lib.hid hrun
          clear hC hX hrun hpo hr hr2 hi3 hA3 hw3 hpl
          go_wp2_with fail
          refine HC.out.mono ?_; rintro e w6 ⟨aO6, cO6, aW6, cW6, rfl, hm6, hb6, hkf⟩
          have HM6 := Lib.hid hm6
          have HBW := Lib.hid hb6
          have hzW := hkf _ _ HZ3.out
          have HZW := Lib.hid hzW
          clear hm6 hb6 hkf
          cases o4 with
          | none =>
            have hv : onV R none = .tuple #[.bool false, nbV R] := rfl
            rw [hv]
            clear hv
            have HRY : Hid ((S4, none) = Y) := HRN.out
            obtain ⟨⟨z0, z1, z2, z3, z4⟩, zf⟩ := f_cells hzW
            have zf0 := zf 0
            have zf1 := zf 1
            have zf2 := zf 2
            have zf3 := zf 3
            have zf4 := zf 4
            obtain ⟨wA, eA, ⟨r0, r1, r2, r3, r4⟩, hkA, hsA, hbA⟩ := set5f hzW (.int .i64 0) (.int .i64 0) (.int .i64 0) (.slice none 0 0) (.slice none 0 0)
            have HEA := Lib.hid eA
            have HRA := Lib.hid (And.intro r0 (And.intro r1 (And.intro r2 (And.intro r3 r4))))
            have HBA := Lib.hid (hbA w0 k.g (by have := HGR.out; omega) HBW.out)
            have HSA := Lib.hid (SM.oth HM6.out hzW hkA)
            have HKA := Lib.hid hkA
            clear zf r0 r1 r2 r3 r4 hkA hsA hbA eA
            go_wp2
            rw [HEA.out]
            have r0 := HRA.out.1
            have r1 := HRA.out.2.1
            have r2 := HRA.out.2.2.1
            have r3 := HRA.out.2.2.2.1
            have r4 := HRA.out.2.2.2.2
            refine bodyPost_ret (v := .tuple #[fndV 0 0 0 none 0 0 none 0 0, nbV R]) (by simp [results, Tryd.results59, go_sem, r0, r1, r2, r3, r4]) rfl ?_
            exact ⟨_, _, _, _, _, _, rfl, by rw [← HRY.out]; exact HSA.out, HBA.out, by rw [← HRY.out]; exact ⟨rfl, rfl⟩⟩
          | some o4 =>
            cases o4 with
            | true =>
              have hv : onV R (some true) = .tuple #[.bool true, .nilIface] := rfl
              rw [hv]
              clear hv hzW
              have HRY : Hid ((S4, some true) = Y) := HRN.out
              obtain ⟨v, v1, v2, v3, _, _⟩ := HEND.out.patch (by rw [← HRY.out])
              rw [← HRY.out] at v1
              have HV := Lib.hid (And.intro v1 v2)
              have hFC := evfound k t l R w0 HST.out S4 w6 aO6 aW6 cO6 cW6 v HM6.out HBW.out HV.out.1 HV.out.2
              obtain ⟨WW, hWW⟩ : ∃ WW, k.w + 2 = WW := ⟨_, rfl⟩
              obtain ⟨HH, hHH⟩ : ∃ HH, k.h + 2 = HH := ⟨_, rfl⟩
              simp only [hWW, hHH] at hFC
              have HFC := Lib.hid hFC
              have HWH := Lib.hid (And.intro hWW hHH)
              clear v1 v2 v3 hFC hWW hHH
              go_wp2_with fail
              refine HFC.out.mono ?_; rintro e w7 ⟨a7, n7, c7, rfl, ho7, hb7⟩
              have HM7 := Lib.hid (HM6.out.below hb7)
              have HO7 := Lib.hid ho7
              have hB7 := HBW.out.trans (hb7.mono (Nat.le_of_lt (heap_ltT HM6.out.box)))
              have hzW := (hb7.block _ (heap_ltT HZW.out)).trans HZW.out
              have hlt6 := heap_ltT HZW.out
              clear HBW
              have HBW := Lib.hid hB7
              have HLT6 := Lib.hid hlt6
              clear hb7 ho7 hB7 hlt6
              obtain ⟨⟨z0, z1, z2, z3, z4⟩, zf⟩ := f_cells hzW
              have zf0 := zf 0
              have zf1 := zf 1
              have zf2 := zf 2
              have zf3 := zf 3
              have zf4 := zf 4
              obtain ⟨wA, eA, ⟨r0, r1, r2, r3, r4⟩, hkA, hsA, hbA⟩ := set5f hzW (.int .i64 1) (.int .i64 (WW : Nat)) (.int .i64 (HH : Nat)) (.slice a7 n7 c7) (.slice none 0 0)
              have HEA := Lib.hid eA
              have HRA := Lib.hid (And.intro r0 (And.intro r1 (And.intro r2 (And.intro r3 r4))))
              have HBA := Lib.hid (hbA w0 k.g (by have := HGR.out; omega) HBW.out)
              have HSA := Lib.hid (SM.oth HM7.out hzW hkA)
              have HKA := Lib.hid hkA
              clear zf r0 r1 r2 r3 r4 hkA hsA hbA eA
              go_wp2
              rw [HEA.out]
              have r0 := HRA.out.1
              have r1 := HRA.out.2.1
              have r2 := HRA.out.2.2.1
              have r3 := HRA.out.2.2.2.1
              have r4 := HRA.out.2.2.2.2
              refine bodyPost_ret (v := .tuple #[fndV 1 (WW : Nat) (HH : Nat) a7 n7 c7 none 0 0, .nilIface]) (by simp [results, Tryd.results59, go_sem, r0, r1, r2, r3, r4]) rfl ?_
              exact ⟨_, _, _, _, _, _, rfl, by rw [← HRY.out]; exact HSA.out, HBA.out, by rw [← HRY.out]; exact ⟨_, _, _, by rw [HWH.out.1, HWH.out.2], rfl, by rw [HV.out.1, HWH.out.2]; exact OwI.base ⟨own_of_heap' HO7.out.own fun b hb => HKA.out b (by have h1 := (HO7.out.own.lt b hb).1; have := HLT6.out; omega)⟩ (by have := HLT6.out; rw [HGW.out]; omega)⟩⟩
            | false =>
              have hv : onV R (some false) = .tuple #[.bool false, .nilIface] := rfl
              rw [hv]
              clear hv hzW
              obtain ⟨n1, n2, n3⟩ := HPO.out.no rfl
              have HN1 : Hid (S4.way = []) := n1.trans HI3.out.2.2
              have HN3 : Hid (∀ x ∈ S4.st, x ∈ S4.order) := fun x hx => n3 x hx (HPO.out.inv.sfit x hx).a0
              clear n1 n2 n3
              go_wp2
              go_roundw
              case rel => exact ⟨b + 1, S4, aO6, cO6, aW6, cW6, by omega, by go_num, HM6.out, HBW.out, HZW.out, HRN.out, HPO.out.inv, HN3.out, HN1.out⟩
              case measure => simp [intOf]; omega
        · obtain rfl : b = k.m := by omega
          have HRN : Hid (allF (mkK k t l) k.m k.w (k.m * k.m - (a + 1) * k.m) ((a + 1) * k.m) S3 = Y) := by show _ = _; rw [Nat.succ_mul]; exact hrun
          have bi : ¬ (k.m : Int) < (k.m : Int) := by omega
          clear hrun hi3 hA3 hw3
          go_wp2
          go_roundw
          case rel => exact ⟨a + 1, S3, aO3, cO3, aW3, cW3, by omega, by go_num, HM3.out, HB3.out, HZ3.out, HRN.out, HI3.out⟩
          case measure => simp [intOf]; omega
    · obtain rfl : a = k.m := by omega
      rw [Nat.sub_self] at hrun
      have HRY : Hid ((S2, some false) = Y) := hrun
      have hen := HEND.out.enc
      rw [← HRY.out] at hen
      have hrd := (owns_rd HM2.out.ord).2
      have HEN := Lib.hid (And.intro hen hrd)
      have ai : ¬ (k.m : Int) < (k.m : Int) := by omega
      have HS0 : Hid (wr.drew.cell? ⟨k.g, 1, none⟩ = some (.int .i64 (k.w : Nat)) ∧ wr.drew.cell? ⟨k.g, 2, none⟩ = some (.int .i64 (k.h : Nat)) ∧ wr.drew.cell? ⟨k.g, 9, none⟩ = some (.slice aO2 S2.order.length cO2)) := ⟨e1, e2, e9⟩
      clear hrun hen hrd
      go_wp2_with fail
      go_region_held3 (fun w' => w'.cell? ⟨k.g, 1, none⟩ = some (.int .i64 (k.w : Nat)) ∧ w'.cell? ⟨k.g, 2, none⟩ = some (.int .i64 (k.h : Nat)) ∧ w'.cell? ⟨k.g, 9, none⟩ = some (.slice aO2 S2.order.length cO2))
        (first | with_reducible exact HS5.out | with_reducible exact HS0.out | go_keep)
        (first
          | (go_at_call 55; refine (encode_okM (k.w : Int) (k.h : Int) aO2 cO2 _ S2.order wr.drew rfl (HEN.out.2.up (Below.drew (bnil wr))) HEN.out.1).mono ?_; rintro e w7 ⟨a7, c7, rfl, ho7, hb7⟩; have HO7 := Lib.hid ho7; have HB7 := Lib.hid hb7; have HS5 := Lib.hid (And.intro (cpa hb7 (HS0.out).1) (And.intro (cpa hb7 (HS0.out).2.1) (cpa hb7 (HS0.out).2.2))); clear ho7 hb7))
      all_goals
        have hb7 : Below wr.heap.size wr w7 := (Below.drew (bnil wr)).trans HB7.out
        have HM7 := Lib.hid (HM2.out.below hb7)
        have HBW := Lib.hid (HB2.out.trans (hb7.mono (Nat.le_of_lt (heap_ltT HM2.out.box))))
        have hzW := (hb7.block _ (heap_ltT HZ2.out)).trans HZ2.out
        have hlt6 := heap_ltT HZ2.out
        have HLT6 : Hid (gr < wr.drew.heap.size) := hlt6
        clear hb7 hlt6 e1 e2 e9 HS0 HS5
        obtain ⟨⟨z0, z1, z2, z3, z4⟩, zf⟩ := f_cells hzW
        have zf0 := zf 0
        have zf1 := zf 1
        have zf2 := zf 2
        have zf3 := zf 3
        have zf4 := zf 4
        obtain ⟨wA, eA, ⟨r0, r1, r2, r3, r4⟩, hkA, hsA, hbA⟩ := set5f hzW (.int .i64 2) (.int .i64 0) (.int .i64 0) (.slice none 0 0) (.slice a7 (4 + 3 * S2.order.length) c7)
        have HEA := Lib.hid eA
        have HRA := Lib.hid (And.intro r0 (And.intro r1 (And.intro r2 (And.intro r3 r4))))
        have HBA := Lib.hid (hbA w0 k.g (by have := HGR.out; omega) HBW.out)
        have HSA := Lib.hid (SM.oth HM7.out hzW hkA)
        have HKA := Lib.hid hkA
        clear zf r0 r1 r2 r3 r4 hkA hsA hbA eA
        go_wp2
        rw [HEA.out]
        have r0 := HRA.out.1
        have r1 := HRA.out.2.1
        have r2 := HRA.out.2.2.1
        have r3 := HRA.out.2.2.2.1
        have r4 := HRA.out.2.2.2.2
        refine bodyPost_ret (v := .tuple #[fndV 2 0 0 none 0 0 a7 (4 + 3 * S2.order.length) c7, .nilIface]) (by simp [results, Tryd.results59, go_sem, r0, r1, r2, r3, r4]) rfl ?_
        exact ⟨_, _, _, _, _, _, rfl, by rw [← HRY.out]; exact HSA.out, HBA.out, by rw [← HRY.out]; exact ⟨_, _, rfl, rfl, owns_base (own_of_heap' HO7.out fun b hb => HKA.out b (by have h1 := (HO7.out.lt b hb).1; have := HLT6.out; omega)) (by have := HLT6.out; rw [HGW.out]; omega)⟩⟩
end Go.Proofs.YtoaooblodgejdaaDoor
