/- plane.Step where it answers. -/
import Derived.Test.YtoaooblodgejdaaDoorPlaX
import Derived.Test.YtoaooblodgejdaaDoorIdx3
import Derived.Deep.QuietTactic
import Derived.BigQuiet
import Derived.Deep.RegionLaw
import Derived.Deep.RegionHeld3
import Derived.BigRegion
import Derived.Deep.Cut
import Derived.Deep.CutRange
namespace Go.Proofs.YtoaooblodgejdaaDoor
open Go.RowKit
set_option linter.unusedVariables false
set_option maxRecDepth 100000

/-- numbers of the call's own lie in another block than other cells -/
theorem OwI.ne_ty {w : World} {B gl : Nat} {a : Option Addr} {n c : Nat} {l : List Int} {cs : Array Value} {T : TypeId} (h : OwI w B a n c l) (hz : w.heap[gl]? = some (.cells cs T)) (hT : T ≠ 3) : (Value.slice a n c).ownBlock ≠ some gl := by
  intro e
  rcases h.own.2 with ⟨e1, _⟩ | ⟨g, cap, cur, e1, _, k1, _⟩
  · rw [e1] at e; cases e
  · rw [e1] at e
    cases e
    rw [k1] at hz
    cases hz
    exact hT rfl
/-- the three lines of a window -/
def lnC (ab ao n c : Nat) (Q0 Q1 Q2 : Nat) : Array Value := #[.slice (some ⟨ab, ao + Q0, none⟩) (n - Q0) (c - Q0), .slice (some ⟨ab, ao + Q1, none⟩) (n - Q1) (c - Q1), .slice (some ⟨ab, ao + Q2, none⟩) (n - Q2) (c - Q2)]
theorem take_snocH {l : List Int} {k : Nat} (h : k < l.length) : (l.take k).map (Value.int .i64) ++ (#[Value.int .i64 (l.getD k 0)] : Array Value).toList = (l.take (k + 1)).map (Value.int .i64) := by
  rw [List.take_succ_eq_append_getElem h, List.map_append, show l.getD k 0 = l[k] by simp [h]]
  rfl
theorem set2qH {w : World} {g : Nat} {x0 x1 x2 : Value} {t : TypeId} {fr : Nat × Nat} (h : w.heap[g]? = some (.cells #[x0, x1, x2] t fr)) (u : Value) : (w.setCell ⟨g, 2, none⟩ u).heap[g]? = some (.cells #[x0, x1, u] t fr) := by
  simp [World.setCell, Array.getElem?_modify, h]
/-- the lines lie in a block of their own -/
structure LnW (v gl : Nat) (wo wx : World) (ab ao n c Q0 Q1 Q2 : Nat) : Prop where
  hz : wx.heap[gl]? = some (.cells #[.slice (some ⟨ab, ao + Q0, none⟩) (n - Q0) (c - Q0), .slice (some ⟨ab, ao + Q1, none⟩) (n - Q1) (c - Q1), .slice (some ⟨ab, ao + Q2, none⟩) (n - Q2) (c - Q2)] 121)
  hv : v < gl
  hb : Below wo.heap.size wo wx
set_option maxHeartbeats 16000000 in
theorem plstep_ok (w h : Nat) (a aT : Option Addr) (n c nT cT : Nat) (l t : List Int) (W : World) (R : Nat → Addr) (hS : Sent W R) (hR : SlI W a n c l) (hT : RK .i64 W aT nT t) (hmT : nT ≤ maxLen) (ht : IsTab t) (hp : IsPatch w h l) (hw3 : 3 ≤ w) (hh3 : 3 ≤ h) :
    Calls Tryd.prog 27 #[.slice aT nT cT, patV w h a n c] W fun e w' => ∃ a' n' c', e = .returned (.tuple #[patV (w - 2 : Nat) (h - 2 : Nat) a' n' c', .nilIface]) ∧ OwI w' W.heap.size a' n' c' (stepL t w h l) ∧ Below W.heap.size W w' := by
  have hm : n ≤ maxLen := hR.nm
  have T0 := Tk.nil W
  have T1 := T0.add (fun wv => Below W.heap.size W wv) (bnil W)
  clear T0
  have T2 := T1.add (fun wv => Sent wv R) (hS)
  clear T1
  have T3 := T2.add (fun wv => RK .i64 wv a n l) (hR.rk)
  clear T2
  have T4 := T3.add (fun wv => RK .i64 wv aT nT t) (hT)
  clear T3
  have hnc := hR.le
  have hnm := hR.mx
  unfold maxLen at hnm
  have hpl := hp.len
  have hnl := hR.rk.len
  have hw2 := hp.w2
  have hh2 := hp.h2
  have hn1 : 0 < n := by rw [hnl, hpl]; exact Nat.mul_pos (by omega) (by omega)
  have hn4 : n ≤ 4096 := by rw [hnl, hpl]; exact Nat.mul_le_mul hw2 hh2
  have hwh : n = w * h := by rw [hnl, hpl]
  have hT5 : nT = 512 := by rw [hT.len, ht.len]
  subst hT5
  have HPP := Lib.hid hp
  have HTT := Lib.hid ht
  have HWH := Lib.hid hwh
  obtain ⟨WN, hWN⟩ : ∃ WN, w - 2 = WN := ⟨_, rfl⟩
  obtain ⟨HN, hHN⟩ : ∃ HN, h - 2 = HN := ⟨_, rfl⟩
  have hwI : (w : Int) - 2 = (WN : Int) := by omega
  have hhI : (h : Int) - 2 = (HN : Int) := by omega
  have hwn1 : 1 ≤ WN := by omega
  have hhn1 : 1 ≤ HN := by omega
  have hwn2 : WN ≤ 64 := by omega
  have hhn2 : HN ≤ 64 := by omega
  have hWNw : IntKind.i64.wrap (WN : Int) = (WN : Int) := IntWalk.i64_in _ (by omega)
  have hHNw : IntKind.i64.wrap (HN : Int) = (HN : Int) := IntWalk.i64_in _ (by omega)
  have hw3I : ¬ (w : Int) < 3 := by omega
  have hh3I : ¬ (h : Int) < 3 := by omega
  have hw3b : decide ((w : Int) < 3) = false := decide_eq_false hw3I
  have hh3b : decide ((h : Int) < 3) = false := decide_eq_false hh3I
  have HWN := Lib.hid (And.intro hWN hHN)
  obtain ⟨LL, hLL⟩ : ∃ LL, stepL t w h l = LL := ⟨_, rfl⟩
  have HLL := Lib.hid hLL
  have hlen : LL.length = WN * HN := by rw [← hLL, ← hWN, ← hHN]; exact madeL_len _ _ _
  obtain ⟨K, hK⟩ : ∃ K, WN * HN = K := ⟨_, rfl⟩
  have hK4 : K ≤ 4096 := by rw [← hK]; exact Nat.mul_le_mul hwn2 hhn2
  rw [hK] at hlen
  have HK := Lib.hid hK
  have HLEN := Lib.hid hlen
  rw [hWN, hHN, hLL]
  have HI6 := Lib.hid (show I64 l from fun x hx => by have := hp.sym x hx; omega)
  clear hS hR hT hp ht hpl hnl hwh hWN hHN hLL hlen hK
  obtain ⟨Wb, hWb⟩ : ∃ Wb, (W.alloc (.cells #[.int .i64 w, .int .i64 h, .slice a n c] 24)).alloc (.cells #[.int .i64 0, .int .i64 0, .slice none 0 0] 24) = Wb := ⟨_, rfl⟩
  have hbWb : Below W.heap.size W Wb := by rw [← hWb]; exact balloc (balloc (bnil W) _) _
  have T5 := T4.up hbWb
  clear T4
  have T6 := T5.add (fun wv => wv.cell? ⟨W.heap.size, 0, none⟩ = some (.int .i64 w) ∧ wv.cell? ⟨W.heap.size, 1, none⟩ = some (.int .i64 h) ∧ wv.cell? ⟨W.heap.size, 2, none⟩ = some (.slice a n c)) (by rw [← hWb]; exact ⟨al000 (cnw (by simp) rfl), al000 (cnw (by simp) rfl), al000 (cnw (by simp) rfl)⟩)
  clear T5
  have HWb := Lib.hid hWb
  clear hWb hbWb
  have hz1 : Wb.heap[W.heap.size + 1]? = some (.cells #[.int .i64 0, .int .i64 0, .slice none 0 0] 24) := by
    rw [← HWb.out]
    have := heap_alloc_new (W.alloc (.cells #[.int .i64 w, .int .i64 h, .slice a n c] 24)) (.cells #[.int .i64 0, .int .i64 0, .slice none 0 0] 24)
    simpa using this
  have T7 := T6.add (fun wv => wv.heap[W.heap.size + 1]? = some (.cells #[.int .i64 0, .int .i64 0, .slice none 0 0] 24)) (hz1)
  clear T6
  clear hz1
  go_enter Tryd.func27, Tryd.ntmps27
  go_wp2_with fail
  rw [HWb.out]
  refine (plcheck_ok aT 512 cT t Wb R T7.out.1.1.1.1.2 T7.out.1.1.2 hmT HTT.out).mono ?_; rintro e w1 ⟨rfl, hbw1⟩
  have T8 := T7.up hbw1
  clear T7
  have v_p0 : w1.cell? ⟨W.heap.size, 0, none⟩ = some (.int .i64 w) := T8.out.1.2.1
  have v_p1 : w1.cell? ⟨W.heap.size, 1, none⟩ = some (.int .i64 h) := T8.out.1.2.2.1
  have v_p2 : w1.cell? ⟨W.heap.size, 2, none⟩ = some (.slice a n c) := T8.out.1.2.2.2
  go_wp2_with fail
  refine (pcheck_ok w h a n c l w1 R T8.out.1.1.1.1.2 T8.out.1.1.1.2 hm HI6.out HPP.out).mono ?_; rintro e w2 ⟨rfl, hbw2⟩
  clear v_p0 v_p1 v_p2
  have T9 := T8.up hbw2
  clear T8
  have v_p0 : w2.cell? ⟨W.heap.size, 0, none⟩ = some (.int .i64 w) := T9.out.1.2.1
  have v_p1 : w2.cell? ⟨W.heap.size, 1, none⟩ = some (.int .i64 h) := T9.out.1.2.2.1
  have v_p2 : w2.cell? ⟨W.heap.size, 2, none⟩ = some (.slice a n c) := T9.out.1.2.2.2
  go_wp2_with fail
  clear hwI hhI hWNw hHNw hw3b hh3b hw3I hh3I
  clear v_p0 v_p1 v_p2
  have HZV := Lib.hid (heap_ltT (T9.out.2))
  obtain ⟨wv, hwv⟩ : ∃ wv, w2.alloc (.cells #[.int .i64 WN, .int .i64 HN, .slice none 0 0] 24) = wv := ⟨_, rfl⟩
  obtain ⟨v, hv⟩ : ∃ v, w2.heap.size = v := ⟨_, rfl⟩
  have hh0 : wv.heap[v]? = some (.cells #[.int .i64 WN, .int .i64 HN, .slice none 0 0] 24) := by rw [← hwv, ← hv]; exact heap_alloc_new w2 _
  have hb0 : Below v w2 wv := by rw [← hwv, ← hv]; exact balloc (bnil w2) _
  have HH0 := Lib.hid hh0
  have HB0 := Lib.hid hb0
  have HV := Lib.hid hv
  rw [hwv, hv]
  clear hh0 hb0 hwv hv
  go_loopw [47] (fun jx wr => ∃ (r s : Nat) (aa : Option Addr) (cc : Nat), r ≤ HN ∧ s = 0 ∧ jx = .int .i64 (r : Nat) ∧ wr.heap[v]? = some (.cells #[.int .i64 WN, .int .i64 HN, .slice aa (r * WN + s) cc] 24) ∧ OwI wr (v + 1) aa (r * WN + s) cc (LL.take (r * WN + s)) ∧ Below v w2 wr) (fun jx _ => HN - (intOf jx).toNat)
  case atStart => exact ⟨0, 0, none, 0, by omega, by omega, rfl, by simpa using HH0.out, by simpa using OwI.nil _ _, HB0.out⟩
  case round =>
    obtain ⟨r, s0, aa, cc, hr, rfl, rfl, hh, ho, hb⟩ := hrel
    have HH := Lib.hid hh
    have HO := Lib.hid ho
    have HB := Lib.hid hb
    clear hh ho hb
    generalize wr = wo at *
    by_cases hrq : r < HN
    · skip
      obtain ⟨ab, ao, hab0, _, _⟩ := (T9.out.1.1.1.2).addr (by omega)
      subst hab0
      have hbo := HB.out
      rw [← HV.out] at hbo
      have TT := T9.up hbo
      have v_p0 : wo.cell? ⟨W.heap.size, 0, none⟩ = some (.int .i64 w) := TT.out.1.2.1
      have v_p2 : wo.cell? ⟨W.heap.size, 2, none⟩ = some (.slice (some ⟨ab, ao, none⟩) n c) := TT.out.1.2.2.2
      clear TT
      obtain ⟨Q0, hQ0⟩ : ∃ Q, r * w = Q := ⟨_, rfl⟩
      obtain ⟨Q1, hQ1⟩ : ∃ Q, (r + 1) * w = Q := ⟨_, rfl⟩
      obtain ⟨Q2, hQ2⟩ : ∃ Q, (r + 2) * w = Q := ⟨_, rfl⟩
      have hq3 : (r + 3) * w ≤ n := by rw [HWH.out, Nat.mul_comm w h]; exact Nat.mul_le_mul_right _ (by have := HWN.out; omega)
      have hq01 : Q1 = Q0 + w := by rw [← hQ0, ← hQ1, Nat.add_mul]; omega
      have hq12 : Q2 = Q1 + w := by rw [← hQ1, ← hQ2, Nat.add_mul, Nat.add_mul]; omega
      have hq23 : Q2 + w ≤ n := by rw [← hQ2]; rw [Nat.add_mul] at hq3 ⊢; omega
      have hI0 : (r : Int) * (w : Int) = (Q0 : Int) := by rw [← hQ0, Int.natCast_mul]
      have hI1 : ((r : Int) + 1) * (w : Int) = (Q1 : Int) := by rw [← hQ1, Int.natCast_mul]; rfl
      have hI2 : ((r : Int) + 2) * (w : Int) = (Q2 : Int) := by rw [← hQ2, Int.natCast_mul]; rfl
      have hr1 : IntKind.i64.wrap ((r : Int) + 1) = (r : Int) + 1 := IntWalk.i64_in _ (by omega)
      have hr2 : IntKind.i64.wrap ((r : Int) + 2) = (r : Int) + 2 := IntWalk.i64_in _ (by omega)
      have hW0 : IntKind.i64.wrap (Q0 : Int) = (Q0 : Int) := IntWalk.i64_in _ (by omega)
      have hW1 : IntKind.i64.wrap (Q1 : Int) = (Q1 : Int) := IntWalk.i64_in _ (by omega)
      have hW2 : IntKind.i64.wrap (Q2 : Int) = (Q2 : Int) := IntWalk.i64_in _ (by omega)
      have b0 : (0 : Int) ≤ (Q0 : Int) := by omega
      have b1' : (0 : Int) ≤ (Q1 : Int) := by omega
      have b2' : (0 : Int) ≤ (Q2 : Int) := by omega
      have l0 : Q0 ≤ n := by omega
      have l1 : Q1 ≤ n := by omega
      have l2 : Q2 ≤ n := by omega
      have m0 : (Q0 : Int) ≤ (n : Int) := by omega
      have m1 : (Q1 : Int) ≤ (n : Int) := by omega
      have m2 : (Q2 : Int) ≤ (n : Int) := by omega
      have ncI : (n : Int) ≤ (c : Int) := by omega
      have c0 : ¬ c = Q0 := by omega
      have c1 : ¬ c = Q1 := by omega
      have c2 : ¬ c = Q2 := by omega
      have d0 : ¬ c - Q0 = 0 := by omega
      have d1 : ¬ c - Q1 = 0 := by omega
      have d2 : ¬ c - Q2 = 0 := by omega
      have HQ := Lib.hid (And.intro hQ0 (And.intro hQ1 (And.intro hQ2 (And.intro hq01 (And.intro hq12 hq23)))))
      clear hQ0 hQ1 hQ2 hq01 hq12 hq23 hq3
      have j1 : (r : Int) < (HN : Int) := by omega
      have va_p0 : (wo.alloc (.cells #[.slice none 0 0, .slice none 0 0, .slice none 0 0] 121)).cell? ⟨W.heap.size, 0, none⟩ = some (.int .i64 w) := al000 v_p0
      have va_p2 : (wo.alloc (.cells #[.slice none 0 0, .slice none 0 0, .slice none 0 0] 121)).cell? ⟨W.heap.size, 2, none⟩ = some (.slice (some ⟨ab, ao, none⟩) n c) := al000 v_p2
      go_upto_region 13 with (fail)
      go_cut [10, 47] from 47 to 115 (fun s10 s47 wx => ∃ gl : Nat, s10 = .pointer (some ⟨gl, 0, none⟩) ∧ s47 = .int .i64 (r : Nat) ∧ LnW v gl wo wx ab ao n c Q0 Q1 Q2)
      case first =>
        go_region
        go_wp2_with fail
        go_meet
        exact ⟨wo.heap.size, rfl, rfl, heap_alloc_new wo _, heap_ltT HH.out, Below.drew (balloc (bnil wo) _)⟩
      case rest =>
        obtain ⟨gl, rfl, rfl, hln⟩ := hcut
        clear va_p0 va_p2 v_p0 v_p2 hI0 hI1 hI2 hr1 hr2 hW0 hW1 hW2
        generalize wc = wl at *
        have HZL := Lib.hid hln.hz
        have HVL := Lib.hid hln.hv
        have hbl := hln.hb
        clear hln
        have hhl := (hbl.block v (heap_ltT HH.out)).trans HH.out
        have HHL := Lib.hid hhl
        have HOL := Lib.hid (OwI.up HO.out hbl)
        have HBL := Lib.hid (HB.out.trans (hbl.mono (Nat.le_of_lt (heap_ltT HH.out))))
        obtain ⟨⟨x0, x1, x2⟩, _, _, _⟩ := p_cells hhl
        clear hhl hbl hbo x1 x2 m0 m1 m2 ncI c0 c1 c2 d0 d1 d2 b0 b1' b2' HH HO HB
        go_wp2_with fail
        clear x0
        go_loopw [76] (fun ix wr => ∃ (r1 s : Nat) (aa : Option Addr) (cc : Nat), r1 = r ∧ s ≤ WN ∧ ix = .int .i64 (s : Nat) ∧ wr.heap[v]? = some (.cells #[.int .i64 WN, .int .i64 HN, .slice aa (r1 * WN + s) cc] 24) ∧ OwI wr (v + 1) aa (r1 * WN + s) cc (LL.take (r1 * WN + s)) ∧ Below v w2 wr ∧ wr.heap[gl]? = some (.cells #[.slice (some ⟨ab, ao + Q0, none⟩) (n - Q0) (c - Q0), .slice (some ⟨ab, ao + Q1, none⟩) (n - Q1) (c - Q1), .slice (some ⟨ab, ao + Q2, none⟩) (n - Q2) (c - Q2)] 121)) (fun ix _ => WN - (intOf ix).toNat)
        case atStart => exact ⟨r, 0, aa, cc, rfl, by omega, rfl, HHL.out, HOL.out, HBL.out, HZL.out⟩
        case round =>
          obtain ⟨r1, s, a3, c3, rfl, hs, rfl, hh3, ho3, hb3, hg3⟩ := hrel
          clear HHL HOL HBL HZL
          have HB3 := Lib.hid hb3
          generalize wr = wi at *
          by_cases hsp : s < WN
          · skip
            have hbw := HB3.out
            rw [← HV.out] at hbw
            clear hb3
            have T10 := T9.up hbw
            clear T9
            have T11 := T10.add (fun wv => wv.heap[v]? = some (.cells #[.int .i64 WN, .int .i64 HN, .slice a3 (r1 * WN + s) c3] 24)) (hh3)
            clear T10
            have T12 := T11.add (fun wv => OwI wv (v + 1) a3 (r1 * WN + s) c3 (LL.take (r1 * WN + s))) (ho3)
            clear T11
            have T13 := T12.add (fun wv => wv.heap[gl]? = some (.cells #[.slice (some ⟨ab, ao + Q0, none⟩) (n - Q0) (c - Q0), .slice (some ⟨ab, ao + Q1, none⟩) (n - Q1) (c - Q1), .slice (some ⟨ab, ao + Q2, none⟩) (n - Q2) (c - Q2)] 121)) (hg3)
            clear T12
            have T14 := T13.add (fun wv => wv.cell? ⟨gl, 0, none⟩ = some (.slice (some ⟨ab, ao + Q0, none⟩) (n - Q0) (c - Q0)) ∧ wv.cell? ⟨gl, 1, none⟩ = some (.slice (some ⟨ab, ao + Q1, none⟩) (n - Q1) (c - Q1)) ∧ wv.cell? ⟨gl, 2, none⟩ = some (.slice (some ⟨ab, ao + Q2, none⟩) (n - Q2) (c - Q2))) ((p_cells hg3).1)
            clear T13
            have HVI := Lib.hid (heap_ltT hh3)
            clear hh3 ho3 hg3 hbw
            have v_G0 : wi.cell? ⟨gl, 0, none⟩ = some (.slice (some ⟨ab, ao + Q0, none⟩) (n - Q0) (c - Q0)) := T14.out.2.1
            have v_G1 : wi.cell? ⟨gl, 1, none⟩ = some (.slice (some ⟨ab, ao + Q1, none⟩) (n - Q1) (c - Q1)) := T14.out.2.2.1
            have v_G2 : wi.cell? ⟨gl, 2, none⟩ = some (.slice (some ⟨ab, ao + Q2, none⟩) (n - Q2) (c - Q2)) := T14.out.2.2.2
            have i1 : (s : Int) < (WN : Int) := by omega
            go_wp2_with fail
            clear i1
            clear v_G0 v_G1 v_G2
            go_loopw [12, 80] (fun nx kx wx => ∃ k : Nat, k ≤ 3 ∧ nx = .int .i64 (winP w l s r1 k : Nat) ∧ kx = .int .i64 (k : Nat) ∧ Below wi.heap.size wi wx) (fun _ kx _ => 3 - (intOf kx).toNat)
            case atStart => exact ⟨0, by omega, rfl, rfl, bnil wi⟩
            case round =>
              obtain ⟨k, hk3, rfl, rfl, hbx⟩ := hrel
              have HBX := Lib.hid hbx
              have T15 := T14.up hbx
              clear T14
              generalize wr = wx at *
              clear hbx
              by_cases hkk : k < 3
              · skip
                have hlt := winP_lt HPP.out (x := s) (y := r1) (by have := HWN.out; omega) (by have := HWN.out; omega) k (by omega)
                have h64 : 8 ^ k ≤ 64 := by
                  have := Nat.pow_le_pow_right (n := 8) (by omega) (show k ≤ 2 by omega)
                  have h9 : (8 : Nat) ^ 2 = 64 := by decide
                  omega
                have hNx : winP w l s r1 (k + 1) = 8 * winP w l s r1 k + 4 * (atL w l s (r1 + k)).toNat + 2 * (atL w l (s + 1) (r1 + k)).toNat + (atL w l (s + 2) (r1 + k)).toNat := rfl
                obtain ⟨A0, eA0, hA0⟩ := atL_nat HPP.out (x := s) (y := r1 + k) (by have := HWN.out; omega) (by have := HWN.out; omega)
                obtain ⟨A1, eA1, hA1⟩ := atL_nat HPP.out (x := s + 1) (y := r1 + k) (by have := HWN.out; omega) (by have := HWN.out; omega)
                obtain ⟨A2, eA2, hA2⟩ := atL_nat HPP.out (x := s + 2) (y := r1 + k) (by have := HWN.out; omega) (by have := HWN.out; omega)
                rw [eA0, eA1, eA2] at hNx
                simp only [Int.toNat_natCast] at hNx
                generalize winP w l s r1 k = N at *
                have hN : N < 64 := by omega
                obtain ⟨o1, o2, o3⟩ := or_line ⟨N, hN⟩ ⟨A0, by omega⟩ ⟨A1, by omega⟩ ⟨A2, by omega⟩
                simp only at o1 o2 o3
                rw [← Nat.mul_comm N 8] at hNx
                have q1 : bits .or .i64 ((N * 8 : Nat) : Int) ((A0 * 4 : Nat) : Int) = ((N * 8 ||| A0 * 4 : Nat) : Int) := or_i64 (by omega) (by omega)
                generalize N * 8 ||| A0 * 4 = Y1 at *
                have q2 : bits .or .i64 (Y1 : Int) ((A1 * 2 : Nat) : Int) = ((Y1 ||| A1 * 2 : Nat) : Int) := or_i64 (by omega) (by omega)
                generalize Y1 ||| A1 * 2 = Y2 at *
                have q3 : bits .or .i64 (Y2 : Int) (A2 : Int) = ((Y2 ||| A2 : Nat) : Int) := or_i64 (by omega) (by omega)
                generalize Y2 ||| A2 = Y3 at *
                have hqv : bits .or .i64 (bits .or .i64 (bits .or .i64 ((N : Int) * 8) ((A0 : Int) * 4)) ((A1 : Int) * 2)) (A2 : Int) = (Y3 : Int) := by
                  rw [show (N : Int) * 8 = ((N * 8 : Nat) : Int) by omega, show (A0 : Int) * 4 = ((A0 * 4 : Nat) : Int) by omega, show (A1 : Int) * 2 = ((A1 * 2 : Nat) : Int) by omega, q1, q2, q3]
                have HQV := Lib.hid hqv
                clear hqv q1 q2 q3
                rw [show N * 8 + 4 * A0 + 2 * A1 + A2 = Y3 by omega] at hNx
                have HNX := Lib.hid hNx
                have s1 : IntKind.i64.wrap ((N : Int) * 8) = ((N * 8 : Nat) : Int) := by rw [Int.natCast_mul]; exact IntWalk.i64_in _ (by omega)
                have s2 : IntKind.i64.wrap ((A0 : Int) * 4) = ((A0 * 4 : Nat) : Int) := by rw [Int.natCast_mul]; exact IntWalk.i64_in _ (by omega)
                have s3 : IntKind.i64.wrap ((A1 : Int) * 2) = ((A1 * 2 : Nat) : Int) := by rw [Int.natCast_mul]; exact IntWalk.i64_in _ (by omega)
                clear hNx hlt h64
                obtain ⟨ab2, ao2, hq, _, hcell⟩ := (T15.out.1.1.1.1.1.1.1.2).addr (by omega)
                cases hq
                have HQQ := HQ.out
                have HW3 := HWN.out
                rcases (show k = 0 ∨ k = 1 ∨ k = 2 by omega) with rfl | rfl | rfl
                · skip
                  have hQs : (r1 + 0) * w + s = Q0 + s := by rw [Nat.add_zero, HQ.out.1]
                  have z0 := hcell (Q0 + s) (by omega)
                  have z1 := hcell (Q0 + (s + 1)) (by omega)
                  have z2 := hcell (Q0 + (s + 2)) (by omega)
                  have y0 : l.getD (Q0 + s) 0 = (A0 : Int) := by rw [← eA0, ← hQs]; rfl
                  have y1 : l.getD (Q0 + (s + 1)) 0 = (A1 : Int) := by rw [← eA1, ← Nat.add_assoc, ← hQs, Nat.add_assoc]; rfl
                  have y2 : l.getD (Q0 + (s + 2)) 0 = (A2 : Int) := by rw [← eA2, ← Nat.add_assoc, ← hQs, Nat.add_assoc]; rfl
                  rw [y0, ← Nat.add_assoc] at z0
                  rw [y1, ← Nat.add_assoc ao] at z1
                  rw [y2, ← Nat.add_assoc ao] at z2
                  have x0 : (0 : Int) ≤ (s : Int) := by omega
                  have x1 : (0 : Int) ≤ (s : Int) + 1 := by omega
                  have x2 : (0 : Int) ≤ (s : Int) + 2 := by omega
                  have x3 : (s : Int) < ((n - Q0 : Nat) : Int) := by omega
                  have x4 : (s : Int) + 1 < ((n - Q0 : Nat) : Int) := by omega
                  have x5 : (s : Int) + 2 < ((n - Q0 : Nat) : Int) := by omega
                  have x6 : ((s : Int) + 1).toNat = s + 1 := by omega
                  have x7 : ((s : Int) + 2).toNat = s + 2 := by omega
                  have x8 : IntKind.i64.wrap ((s : Int) + 1) = (s : Int) + 1 := IntWalk.i64_in _ (by omega)
                  have x9 : IntKind.i64.wrap ((s : Int) + 2) = (s : Int) + 2 := IntWalk.i64_in _ (by omega)
                  clear hcell hQs y0 y1 y2 HQQ HW3 eA0 eA1 eA2
                  have eix : (Instr.index 121 (.agg #[.slice (some ⟨ab, ao + Q0, none⟩) (n - Q0) (c - Q0), .slice (some ⟨ab, ao + Q1, none⟩) (n - Q1) (c - Q1), .slice (some ⟨ab, ao + Q2, none⟩) (n - Q2) (c - Q2)]) (.int .i64 0)).run Tryd.prog wx = .ok (.slice (some ⟨ab, ao + Q0, none⟩) (n - Q0) (c - Q0)) wx := idx3 _ _ _ _ 0 _ _ _ wx rfl (by omega) rfl
                  go_wp2_with fail
                  clear eix
                  go_quiet (fail)
                  go_wp2_with fail
                  refine ⟨⟨1, by omega, ?_, rfl, bdrewN HBX.out _⟩, by simp [intOf]⟩
                  rw [HQV.out]
                  exact congrArg (fun z : Nat => Value.int .i64 (z : Int)) HNX.out.symm
                · skip
                  have hQs : (r1 + 1) * w + s = Q1 + s := by rw [HQ.out.2.1]
                  have z0 := hcell (Q1 + s) (by omega)
                  have z1 := hcell (Q1 + (s + 1)) (by omega)
                  have z2 := hcell (Q1 + (s + 2)) (by omega)
                  have y0 : l.getD (Q1 + s) 0 = (A0 : Int) := by rw [← eA0, ← hQs]; rfl
                  have y1 : l.getD (Q1 + (s + 1)) 0 = (A1 : Int) := by rw [← eA1, ← Nat.add_assoc, ← hQs, Nat.add_assoc]; rfl
                  have y2 : l.getD (Q1 + (s + 2)) 0 = (A2 : Int) := by rw [← eA2, ← Nat.add_assoc, ← hQs, Nat.add_assoc]; rfl
                  rw [y0, ← Nat.add_assoc] at z0
                  rw [y1, ← Nat.add_assoc ao] at z1
                  rw [y2, ← Nat.add_assoc ao] at z2
                  have x0 : (0 : Int) ≤ (s : Int) := by omega
                  have x1 : (0 : Int) ≤ (s : Int) + 1 := by omega
                  have x2 : (0 : Int) ≤ (s : Int) + 2 := by omega
                  have x3 : (s : Int) < ((n - Q1 : Nat) : Int) := by omega
                  have x4 : (s : Int) + 1 < ((n - Q1 : Nat) : Int) := by omega
                  have x5 : (s : Int) + 2 < ((n - Q1 : Nat) : Int) := by omega
                  have x6 : ((s : Int) + 1).toNat = s + 1 := by omega
                  have x7 : ((s : Int) + 2).toNat = s + 2 := by omega
                  have x8 : IntKind.i64.wrap ((s : Int) + 1) = (s : Int) + 1 := IntWalk.i64_in _ (by omega)
                  have x9 : IntKind.i64.wrap ((s : Int) + 2) = (s : Int) + 2 := IntWalk.i64_in _ (by omega)
                  clear hcell hQs y0 y1 y2 HQQ HW3 eA0 eA1 eA2
                  have eix : (Instr.index 121 (.agg #[.slice (some ⟨ab, ao + Q0, none⟩) (n - Q0) (c - Q0), .slice (some ⟨ab, ao + Q1, none⟩) (n - Q1) (c - Q1), .slice (some ⟨ab, ao + Q2, none⟩) (n - Q2) (c - Q2)]) (.int .i64 1)).run Tryd.prog wx = .ok (.slice (some ⟨ab, ao + Q1, none⟩) (n - Q1) (c - Q1)) wx := idx3 _ _ _ _ 1 _ _ _ wx rfl (by omega) rfl
                  go_wp2_with fail
                  clear eix
                  go_quiet (fail)
                  go_wp2_with fail
                  refine ⟨⟨2, by omega, ?_, rfl, bdrewN HBX.out _⟩, by simp [intOf]⟩
                  rw [HQV.out]
                  exact congrArg (fun z : Nat => Value.int .i64 (z : Int)) HNX.out.symm
                · skip
                  have hQs : (r1 + 2) * w + s = Q2 + s := by rw [HQ.out.2.2.1]
                  have z0 := hcell (Q2 + s) (by omega)
                  have z1 := hcell (Q2 + (s + 1)) (by omega)
                  have z2 := hcell (Q2 + (s + 2)) (by omega)
                  have y0 : l.getD (Q2 + s) 0 = (A0 : Int) := by rw [← eA0, ← hQs]; rfl
                  have y1 : l.getD (Q2 + (s + 1)) 0 = (A1 : Int) := by rw [← eA1, ← Nat.add_assoc, ← hQs, Nat.add_assoc]; rfl
                  have y2 : l.getD (Q2 + (s + 2)) 0 = (A2 : Int) := by rw [← eA2, ← Nat.add_assoc, ← hQs, Nat.add_assoc]; rfl
                  rw [y0, ← Nat.add_assoc] at z0
                  rw [y1, ← Nat.add_assoc ao] at z1
                  rw [y2, ← Nat.add_assoc ao] at z2
                  have x0 : (0 : Int) ≤ (s : Int) := by omega
                  have x1 : (0 : Int) ≤ (s : Int) + 1 := by omega
                  have x2 : (0 : Int) ≤ (s : Int) + 2 := by omega
                  have x3 : (s : Int) < ((n - Q2 : Nat) : Int) := by omega
                  have x4 : (s : Int) + 1 < ((n - Q2 : Nat) : Int) := by omega
                  have x5 : (s : Int) + 2 < ((n - Q2 : Nat) : Int) := by omega
                  have x6 : ((s : Int) + 1).toNat = s + 1 := by omega
                  have x7 : ((s : Int) + 2).toNat = s + 2 := by omega
                  have x8 : IntKind.i64.wrap ((s : Int) + 1) = (s : Int) + 1 := IntWalk.i64_in _ (by omega)
                  have x9 : IntKind.i64.wrap ((s : Int) + 2) = (s : Int) + 2 := IntWalk.i64_in _ (by omega)
                  clear hcell hQs y0 y1 y2 HQQ HW3 eA0 eA1 eA2
                  have eix : (Instr.index 121 (.agg #[.slice (some ⟨ab, ao + Q0, none⟩) (n - Q0) (c - Q0), .slice (some ⟨ab, ao + Q1, none⟩) (n - Q1) (c - Q1), .slice (some ⟨ab, ao + Q2, none⟩) (n - Q2) (c - Q2)]) (.int .i64 2)).run Tryd.prog wx = .ok (.slice (some ⟨ab, ao + Q2, none⟩) (n - Q2) (c - Q2)) wx := idx3 _ _ _ _ 2 _ _ _ wx rfl (by omega) rfl
                  go_wp2_with fail
                  clear eix
                  go_quiet (fail)
                  go_wp2_with fail
                  refine ⟨⟨3, by omega, ?_, rfl, bdrewN HBX.out _⟩, by simp [intOf]⟩
                  rw [HQV.out]
                  exact congrArg (fun z : Nat => Value.int .i64 (z : Int)) HNX.out.symm
              · skip
                obtain rfl : k = 3 := by omega
                have hwn : winP w l s r1 3 = winN w l s r1 := winP_three HPP.out (by have := HWN.out; omega) (by have := HWN.out; omega)
                have hM := (winN_lt HPP.out (x := s) (y := r1) (by have := HWN.out; omega) (by have := HWN.out; omega)).1
                have hval : t.getD (winN w l s r1) 0 = LL.getD (r1 * WN + s) 0 := by
                  have h1 : LL.getD (r1 * WN + s) 0 = stepF t w l s r1 := by
                    rw [← HLL.out, ← HWN.out.1]
                    exact madeL_getD (by have := HWN.out; omega) (by have := HWN.out; omega)
                  exact h1.symm
                rw [hwn]
                generalize winN w l s r1 = M at *
                have hMI : (M : Int) < ((512 : Nat) : Int) := by omega
                have hMJ : (M : Int) < 512 := by omega
                have hM0 : (0 : Int) ≤ (M : Int) := by omega
                clear hwn
                obtain ⟨k, hk⟩ : ∃ k, r1 * WN + s = k := ⟨_, rfl⟩
                have hkK : k < K := by have h1 := place_lt hsp hrq; rw [hk] at h1; have := HK.out; omega
                obtain ⟨tb, tq, ht0, _, htc⟩ := (T15.out.1.1.1.1.1.1.2).addr (by omega)
                subst ht0
                have z0 := htc M hM
                rw [hval, hk] at z0
                clear htc hval
                have hh3 := T15.out.1.1.1.2
                have ho3 := T15.out.1.1.2
                have hg3 := T15.out.1.2
                rw [hk] at hh3 ho3
                have hsn := take_snocH (l := LL) (k := k) (by have := HLEN.out; have := HK.out; omega)
                have HKE := Lib.hid hk
                generalize LL.getD k 0 = u at *
                obtain ⟨⟨u0, u1, u2⟩, g0, g1, g2⟩ := p_cells hh3
                have hvs : v + 1 ≤ wx.heap.size := heap_ltT hh3
                have i1 : (s : Int) < (WN : Int) := by omega
                have HSN := Lib.hid hsn
                have hO3 := Lib.hid ho3
                have HH4 := Lib.hid hh3
                have HG4 := Lib.hid (And.intro hg3 (ho3.ne_ty hg3 (by decide)))
                clear hsn ho3 hh3 hg3 hk u1 g0 g1
                have y3 : (wx.alloc (.cells #[.int .i64 u] 3)).cell? ⟨v, 2, none⟩ = some (.slice a3 k c3) := al000 u2
                have z3 : (wx.alloc (.cells #[.int .i64 u] 3)).cell? ⟨tb, tq + M, none⟩ = some (.int .i64 u) := al000 z0
                clear u0
                go_wp2_with fail
                go_region_law (first
                  | (refine step_app_lit (by rfl) _ _ _ (by rfl) (v + 1) et_int _ k _ hO3.out.own (by rfl) 1 _ _ (by rfl) (by simp) (by rfl) (by rfl) (by unfold maxLen; omega) (by omega) hvs ?_; intro a5 c5 w5 ho5 hg5 hb5 hs5; have y5 : w5.cell? ⟨v, 2, none⟩ = some (.slice a3 k c3) := (hb5.cell (p := ⟨v, 2, none⟩) (Nat.lt_succ_self v)).trans u2; have q5 := (hb5.frozen (p := ⟨v, 2, none⟩) (Nat.lt_succ_self v)).trans g2))
                all_goals
                  have hh5 := (hb5.block v (Nat.lt_succ_self v)).trans HH4.out
                  have HH6 := Lib.hid (set2qH hh5 (.slice a5 (k + 1) c5))
                  have hg6 := (hg5.block gl (heap_ltT HG4.out.1) (fun e => HG4.out.2 e.symm)).trans HG4.out.1
                  have HG6 := Lib.hid ((Below.heap_setCell w5 ⟨v, 2, none⟩ (.slice a5 (k + 1) c5) gl (by show gl ≠ v; have := HVL.out; omega)).trans hg6)
                  rw [HSN.out] at ho5
                  have HO6 : Hid (OwI (w5.setCell ⟨v, 2, none⟩ (.slice a5 (k + 1) c5)) (v + 1) a5 (k + 1) c5 (LL.take (k + 1))) :=
                    ⟨own_of_heap' ho5 fun b hb => Below.heap_setCell _ _ _ _ (by have := (ho5.lt b hb).1; show b ≠ v; omega)⟩
                  have HB6 := Lib.hid (((HB3.out.trans (HBX.out.mono (Nat.le_of_lt HVI.out))).trans (hb5.mono (Nat.le_succ v))).setCell (p := ⟨v, 2, none⟩) (Nat.le_refl v) (.slice a5 (k + 1) c5))
                  have HK1 : Hid (r1 * WN + (s + 1) = k + 1) := by show _ = _; have := HKE.out; omega
                  clear hh5 hg6 ho5 hg5 hb5 hs5 y5 q5 y3 z3 z0 u2 g2 hMI hMJ hM0 hM
                  go_wp2
                  go_roundw
                  case rel => exact ⟨r1, s + 1, a5, c5, rfl, by omega, by go_num, by rw [HK1.out]; exact HH6.out, by rw [HK1.out]; exact HO6.out, HB6.out, HG6.out⟩
                  case measure => simp [intOf]; omega
          · skip
            obtain rfl : WN = s := by omega
            have i2 : ¬ (WN : Int) < (WN : Int) := by omega
            have HH3 := Lib.hid hh3
            have HO3 := Lib.hid ho3
            have HK1 : Hid ((r1 + 1) * WN + 0 = r1 * WN + WN) := by show _ = _; rw [Nat.add_mul]; omega
            clear hh3 ho3 hb3 hg3
            go_wp2
            go_roundw
            case rel => exact ⟨r1 + 1, 0, a3, c3, by omega, rfl, by go_num, by rw [HK1.out]; exact HH3.out, by rw [HK1.out]; exact HO3.out, HB3.out⟩
            case measure => simp [intOf]; omega
    · skip
      obtain rfl : HN = r := by omega
      have j2 : ¬ (HN : Int) < (HN : Int) := by omega
      have hkk : HN * WN + 0 = K := by have := HK.out; rw [Nat.mul_comm]; omega
      have hh := HH.out
      have ho := HO.out
      rw [hkk, List.take_of_length_le (by have := HLEN.out; have := HK.out; omega)] at ho
      rw [hkk] at hh
      have HO9 := Lib.hid ho
      obtain ⟨⟨u0, u1, u2⟩, g0, g1, g2⟩ := p_cells hh
      have hbw := HB.out
      rw [← HV.out] at hbw
      clear HO HH hkk ho hh
      have T10 := T9.up hbw
      clear T9
      obtain ⟨⟨q0, q1, q2⟩, d0, d1, d2⟩ := p_cells (T10.out.2)
      obtain ⟨w9, e9, ⟨r0, r1, r2⟩, hk9, hs9, hb9⟩ := set3p (T10.out.2) (.int .i64 WN) (.int .i64 HN) (.slice aa K cc)
      have HRET : Hid (OwI w9 W.heap.size aa K cc LL ∧ Below W.heap.size W w9) := ⟨OwI.base (OwI.mk (own_of_heap' HO9.out.own fun b hb => hk9 b (by have := (HO9.out.own.lt b hb).1; have := HZV.out; have := HV.out; omega))) (by have := HZV.out; have := HV.out; omega), hb9 W W.heap.size (by omega) (T10.out.1.1.1.1.1.2)⟩
      have HE9 := Lib.hid e9
      have HR5 := Lib.hid (And.intro r0 (And.intro r1 r2))
      clear hbw hk9 hs9 hb9 e9 r0 r1 r2
      go_wp2
      rw [HE9.out]
      have r3 := HR5.out.1
      have r4 := HR5.out.2.1
      have r5 := HR5.out.2.2
      refine bodyPost_ret (v := .tuple #[patV WN HN aa K cc, .nilIface]) (by simp [results, Tryd.results27, go_sem, r3, r4, r5]) rfl ?_
      exact ⟨_, _, _, rfl, HRET.out.1, HRET.out.2⟩
end Go.Proofs.YtoaooblodgejdaaDoor
