/- edenref22.number, edenref22.Image. -/
import Derived.Test.YtoaooblodgejdaaDoorPlaX
import Derived.Test.YtoaooblodgejdaaDoorPatX
import Derived.Deep.RegionLaw
namespace Go.Proofs.YtoaooblodgejdaaDoor
open Go.RowKit
set_option linter.unusedVariables false
set_option maxRecDepth 100000

theorem RK.sub {k : IntKind} {w : World} {ab ao n p m : Nat} {l : List Int} (h : RK k w (some ⟨ab, ao, none⟩) n l) (hp : p + m ≤ n) (hn : 0 < n) : Rd w (some ⟨ab, ao + p, none⟩) m 1 (((l.drop p).take m).map (Value.int k)) := by
  obtain ⟨ab2, ao2, hq, hlt, hcell⟩ := h.addr hn
  cases hq
  have hl := h.len
  refine ⟨by simp; omega, .inr ⟨ab, ao + p, rfl, hlt, fun j u hu => ?_⟩⟩
  rw [List.getElem?_map, Option.map_eq_some_iff] at hu
  obtain ⟨x, hx, rfl⟩ := hu
  have hj : j < m := by
    have := (List.getElem?_eq_some_iff.1 hx).1
    simp at this
    omega
  have hc := hcell (p + j) (by omega)
  rw [List.getElem?_take_of_lt hj, List.getElem?_drop] at hx
  rw [show l.getD (p + j) 0 = x by rw [List.getD_eq_getElem?_getD, hx]; rfl] at hc
  rw [Nat.add_assoc]
  exact hc
theorem int_one (xs : List Int) : ∀ u ∈ xs.map (Value.int .i64), u.oneCell' = true := by
  intro u hu
  obtain ⟨x, _, rfl⟩ := List.mem_map.1 hu
  rfl
/-- the number of the first cells -/
def numT (l : List Int) : Nat → Nat
  | 0 => 0
  | k + 1 => 2 * numT l k + (l.getD k 0).toNat
theorem numT_lt {l : List Int} (hs : ∀ x ∈ l, x = 0 ∨ x = 1) : ∀ k, numT l k < 2 ^ k
  | 0 => by simp [numT]
  | k + 1 => by
    have ih := numT_lt hs k
    have hx : (l.getD k 0).toNat ≤ 1 := by
      by_cases hk : k < l.length
      · rw [show l.getD k 0 = l[k] by simp [hk]]
        have := hs l[k] (List.getElem_mem hk)
        omega
      · rw [show l.getD k 0 = 0 by simp [show l.length ≤ k by omega]]
        decide
    unfold numT
    rw [Nat.pow_succ]
    omega
theorem number_any (a : Option Addr) (n c : Nat) (l : List Int) (W : World) (hR : RK .i64 W a n l) (hn : n ≤ 9) (hs : ∀ x ∈ l, x = 0 ∨ x = 1) :
    Calls Tryd.prog 108 #[.slice a n c] W fun e w' => e = .returned (.int .i64 (numT l n : Nat)) ∧ W = w' := by
  have HR := Lib.hid hR
  have HNL := Lib.hid hR.len
  have HS := Lib.hid hs
  clear hR hs
  go_enter Tryd.func108, Tryd.ntmps108
  go_wp2
  go_loop [3, 4] (fun nx ix => ∃ i : Nat, i ≤ n ∧ ix = .int .i64 (i : Nat) ∧ nx = .int .i64 (numT l i : Nat)) (fun _ ix => n - (intOf ix).toNat)
  case atStart => exact ⟨0, by omega, rfl, rfl⟩
  case round =>
    obtain ⟨i, hi, rfl, rfl⟩ := hrel
    by_cases hlt : i < n
    · obtain ⟨ab, ao, hab, _, hcell⟩ := HR.out.addr (by omega)
      subst hab
      have z0 := hcell i hlt
      obtain ⟨x, hx, hx1⟩ : ∃ x : Nat, l.getD i 0 = (x : Int) ∧ x ≤ 1 := by
        have hil : i < l.length := by rw [← HNL.out]; exact hlt
        rw [show l.getD i 0 = l[i] by simp [hil]]
        have := HS.out l[i] (List.getElem_mem hil)
        rcases this with h | h
        · exact ⟨0, h, by omega⟩
        · exact ⟨1, h, by omega⟩
      have hb := numT_lt HS.out i
      have hp : 2 ^ i ≤ 512 := by
        have := Nat.pow_le_pow_right (n := 2) (by omega) (show i ≤ 9 by omega)
        have h9 : (2 : Nat) ^ 9 = 512 := by decide
        omega
      have hb2 : numT l i ≤ 512 := by omega
      have HN : Hid (numT l (i + 1) = 2 * numT l i + x) := by show 2 * numT l i + (l.getD i 0).toNat = _; rw [hx, Int.toNat_natCast]
      rw [hx] at z0
      have i0 : (0 : Int) ≤ (i : Int) := by omega
      have i1 : (i : Int) < (n : Int) := by omega
      clear hcell hx hb hp
      generalize numT l i = N at *
      go_wp2
      go_round
      case rel => exact ⟨i + 1, by omega, by go_num, by rw [HN.out]; go_num⟩
      case measure => simp [intOf]; omega
    · obtain rfl : i = n := by omega
      go_wp2
      go_ret
      exact ⟨rfl, rfl⟩
/-- the nine cells of a window -/
def nineL (w : Nat) (l : List Int) (x y : Nat) : List Int := (List.range 9).map fun k => atL w l (x + k % 3) (y + k / 3)
theorem nineL_sym {w h : Nat} {l : List Int} (hp : IsPatch w h l) {x y : Nat} (hx : x + 2 < w) (hy : y + 2 < h) : ∀ u ∈ nineL w l x y, u = 0 ∨ u = 1 := by
  intro u hu
  obtain ⟨k, hk, rfl⟩ := List.mem_map.1 hu
  have := List.mem_range.1 hk
  exact atL_sym hp (by omega) (by omega)
theorem nine_num {w h : Nat} {l : List Int} (hp : IsPatch w h l) {x y : Nat} (hx : x + 2 < w) (hy : y + 2 < h) : numT (nineL w l x y) 9 = winN w l x y := by
  obtain ⟨c1, e1, _⟩ := atL_nat hp (show x < w by omega) (show y < h by omega)
  obtain ⟨c2, e2, _⟩ := atL_nat hp (show x + 1 < w by omega) (show y < h by omega)
  obtain ⟨c3, e3, _⟩ := atL_nat hp (show x + 2 < w by omega) (show y < h by omega)
  obtain ⟨c4, e4, _⟩ := atL_nat hp (show x < w by omega) (show y + 1 < h by omega)
  obtain ⟨c5, e5, _⟩ := atL_nat hp (show x + 1 < w by omega) (show y + 1 < h by omega)
  obtain ⟨c6, e6, _⟩ := atL_nat hp (show x + 2 < w by omega) (show y + 1 < h by omega)
  obtain ⟨c7, e7, _⟩ := atL_nat hp (show x < w by omega) (show y + 2 < h by omega)
  obtain ⟨c8, e8, _⟩ := atL_nat hp (show x + 1 < w by omega) (show y + 2 < h by omega)
  obtain ⟨c9, e9, _⟩ := atL_nat hp (show x + 2 < w by omega) (show y + 2 < h by omega)
  have hl : nineL w l x y = [(c1 : Int), c2, c3, c4, c5, c6, c7, c8, c9] := by
    rw [← e1, ← e2, ← e3, ← e4, ← e5, ← e6, ← e7, ← e8, ← e9]
    rfl
  rw [hl]
  unfold winN winZ
  rw [e1, e2, e3, e4, e5, e6, e7, e8, e9]
  clear hl e1 e2 e3 e4 e5 e6 e7 e8 e9
  simp only [numT, List.getD_cons_zero, List.getD_cons_succ, Int.toNat_natCast]
  omega
theorem nine_chunk {w : Nat} {l : List Int} {x y q J P : Nat} (hq : q < 3) (hJ : y + q = J) (hP : J * w + x = P) (hl : P + 3 ≤ l.length) : (nineL w l x y).take (3 * q) ++ (l.drop P).take 3 = (nineL w l x y).take (3 * q + 3) := by
  have hd : (l.drop P).take 3 = [l.getD P 0, l.getD (P + 1) 0, l.getD (P + 2) 0] := by
    rw [List.drop_eq_getElem_cons (show P < l.length by omega), List.drop_eq_getElem_cons (show P + 1 < l.length by omega), List.drop_eq_getElem_cons (show P + 1 + 1 < l.length by omega)]
    rw [show l.getD P 0 = l[P] by simp [show P < l.length by omega], show l.getD (P + 1) 0 = l[P + 1] by simp [show P + 1 < l.length by omega], show l.getD (P + 2) 0 = l[P + 2] by simp [show P + 2 < l.length by omega]]
    rfl
  have a0 : atL w l x J = l.getD P 0 := by rw [← hP]; rfl
  have a1 : atL w l (x + 1) J = l.getD (P + 1) 0 := by rw [← hP, Nat.add_assoc]; rfl
  have a2 : atL w l (x + 2) J = l.getD (P + 2) 0 := by rw [← hP, Nat.add_assoc]; rfl
  rw [hd, ← a0, ← a1, ← a2, ← hJ]
  have hq3 : q = 0 ∨ q = 1 ∨ q = 2 := by omega
  rcases hq3 with rfl | rfl | rfl <;> rfl
theorem take_snocN {l : List Int} {k : Nat} (h : k < l.length) : (l.take k).map (Value.int .i64) ++ (#[Value.int .i64 (l.getD k 0)] : Array Value).toList = (l.take (k + 1)).map (Value.int .i64) := by
  rw [List.take_succ_eq_append_getElem h, List.map_append, show l.getD k 0 = l[k] by simp [h]]
  rfl
theorem set2qN {w : World} {g : Nat} {x0 x1 x2 : Value} {t : TypeId} {fr : Nat × Nat} (h : w.heap[g]? = some (.cells #[x0, x1, x2] t fr)) (u : Value) : (w.setCell ⟨g, 2, none⟩ u).heap[g]? = some (.cells #[x0, x1, u] t fr) := by
  simp [World.setCell, Array.getElem?_modify, h]
set_option maxHeartbeats 16000000 in
theorem refimage (w h WN HN : Nat) (a aT : Option Addr) (n c cT : Nat) (l t LL : List Int) (W : World) (hR : SlI W a n c l) (hT : RK .i64 W aT 512 t) (ht : IsTab t) (hp : IsPatch w h l) (hw3 : 3 ≤ w) (hh3 : 3 ≤ h) (hWN : w - 2 = WN) (hHN : h - 2 = HN) (hLL : stepL t w h l = LL) :
    Calls Tryd.prog 82 #[.slice aT 512 cT, patV w h a n c] W fun e w' => ∃ a' n' c', e = .returned (patV WN HN a' n' c') ∧ OwI w' W.heap.size a' n' c' LL ∧ Below W.heap.size W w' := by
  have T0 := Tk.nil W
  have T1 := T0.add (fun wv => Below W.heap.size W wv) (bnil W)
  clear T0
  have T2 := T1.add (fun wv => RK .i64 wv a n l) (hR.rk)
  clear T1
  have T3 := T2.add (fun wv => RK .i64 wv aT 512 t) (hT)
  clear T2
  have hnc := hR.le
  have hnm := hR.mx
  unfold maxLen at hnm
  have hnl := hR.rk.len
  have hw2 := hp.w2
  have hh2 := hp.h2
  have hwh : w * h = n := by rw [hnl]; exact hp.len.symm
  have hn4 : n ≤ 4096 := by rw [← hwh]; exact Nat.mul_le_mul hw2 hh2
  have HPP := Lib.hid hp
  have HTT := Lib.hid ht
  have HWH := Lib.hid hwh
  have HNL := Lib.hid hnl
  have hwI : (w : Int) - 2 = (WN : Int) := by omega
  have hhI : (h : Int) - 2 = (HN : Int) := by omega
  have hwn2 : WN ≤ 64 := by omega
  have hhn2 : HN ≤ 64 := by omega
  have hwn3 : WN + 2 = w := by omega
  have hhn3 : HN + 2 = h := by omega
  have hWNw : IntKind.i64.wrap (WN : Int) = (WN : Int) := IntWalk.i64_in _ (by omega)
  have hHNw : IntKind.i64.wrap (HN : Int) = (HN : Int) := IntWalk.i64_in _ (by omega)
  have HWN := Lib.hid (And.intro hwn3 hhn3)
  have hlen : LL.length = WN * HN := by rw [← hLL, ← hWN, ← hHN]; exact madeL_len _ _ _
  obtain ⟨K, hK⟩ : ∃ K, WN * HN = K := ⟨_, rfl⟩
  have hK4 : K ≤ 4096 := by rw [← hK]; exact Nat.mul_le_mul hwn2 hhn2
  rw [hK] at hlen
  have HLL := Lib.hid (And.intro hLL (And.intro hWN hHN))
  have HK := Lib.hid hK
  have HLEN := Lib.hid hlen
  clear hR hT hp ht hnl hwh hWN hHN hLL hlen hK hwn3 hhn3
  obtain ⟨Wb, hWb⟩ : ∃ Wb, (W.alloc (.cells #[.int .i64 w, .int .i64 h, .slice a n c] 24)).alloc (.cells #[.int .i64 0, .int .i64 0, .slice none 0 0] 24) = Wb := ⟨_, rfl⟩
  have hbWb : Below W.heap.size W Wb := by rw [← hWb]; exact balloc (balloc (bnil W) _) _
  have T4 := T3.up hbWb
  clear T3
  have T5 := T4.add (fun wv => wv.cell? ⟨W.heap.size, 0, none⟩ = some (.int .i64 w) ∧ wv.cell? ⟨W.heap.size, 1, none⟩ = some (.int .i64 h) ∧ wv.cell? ⟨W.heap.size, 2, none⟩ = some (.slice a n c)) (by rw [← hWb]; exact ⟨al000 (cnw (by simp) rfl), al000 (cnw (by simp) rfl), al000 (cnw (by simp) rfl)⟩)
  clear T4
  have HWb := Lib.hid hWb
  clear hWb hbWb
  have hz1 : Wb.heap[W.heap.size + 1]? = some (.cells #[.int .i64 0, .int .i64 0, .slice none 0 0] 24) := by
    rw [← HWb.out]
    have := heap_alloc_new (W.alloc (.cells #[.int .i64 w, .int .i64 h, .slice a n c] 24)) (.cells #[.int .i64 0, .int .i64 0, .slice none 0 0] 24)
    simpa using this
  have hsz : W.heap.size + 1 + 1 = Wb.heap.size := by rw [← HWb.out]; simp
  have T6 := T5.add (fun wv => wv.heap[W.heap.size + 1]? = some (.cells #[.int .i64 0, .int .i64 0, .slice none 0 0] 24)) (hz1)
  clear T5
  have HSZ := Lib.hid hsz
  clear hz1 hsz
  go_enter Tryd.func82, Tryd.ntmps82
  have v_p0 : ((W.alloc (.cells #[.int .i64 w, .int .i64 h, .slice a n c] 24)).alloc (.cells #[.int .i64 0, .int .i64 0, .slice none 0 0] 24)).cell? ⟨W.heap.size, 0, none⟩ = some (.int .i64 w) := by rw [HWb.out]; exact T6.out.1.2.1
  have v_p1 : ((W.alloc (.cells #[.int .i64 w, .int .i64 h, .slice a n c] 24)).alloc (.cells #[.int .i64 0, .int .i64 0, .slice none 0 0] 24)).cell? ⟨W.heap.size, 1, none⟩ = some (.int .i64 h) := by rw [HWb.out]; exact T6.out.1.2.2.1
  go_wp2_with fail
  clear hwI hhI hWNw hHNw
  clear v_p0 v_p1
  have HZV := Lib.hid (heap_ltT (T6.out.2))
  rw [HWb.out]
  obtain ⟨wv, hwv⟩ : ∃ wv, Wb.alloc (.cells #[.int .i64 WN, .int .i64 HN, .slice none 0 0] 24) = wv := ⟨_, rfl⟩
  obtain ⟨v, hv⟩ : ∃ v, Wb.heap.size = v := ⟨_, rfl⟩
  have hh0 : wv.heap[v]? = some (.cells #[.int .i64 WN, .int .i64 HN, .slice none 0 0] 24) := by rw [← hwv, ← hv]; exact heap_alloc_new Wb _
  have hb0 : Below v Wb wv := by rw [← hwv, ← hv]; exact balloc (bnil Wb) _
  have HH0 := Lib.hid hh0
  have HB0 := Lib.hid hb0
  have HV := Lib.hid hv
  have hvs : W.heap.size + 1 + 1 = v := by rw [← hv]; exact HSZ.out
  rw [hwv, hvs]
  clear hvs
  clear hh0 hb0 hwv hv
  go_loopw [6] (fun jx wr => ∃ (r s : Nat) (aa : Option Addr) (cc : Nat), r ≤ HN ∧ s = 0 ∧ jx = .int .i64 (r : Nat) ∧ wr.heap[v]? = some (.cells #[.int .i64 WN, .int .i64 HN, .slice aa (r * WN + s) cc] 24) ∧ OwI wr (v + 1) aa (r * WN + s) cc (LL.take (r * WN + s)) ∧ Below v Wb wr) (fun jx _ => HN - (intOf jx).toNat)
  case atStart => exact ⟨0, 0, none, 0, by omega, by omega, rfl, by simpa using HH0.out, by simpa using OwI.nil _ _, HB0.out⟩
  case round =>
    obtain ⟨r, s0, aa, cc, hr, rfl, rfl, hh, ho, hb⟩ := hrel
    obtain ⟨⟨b0, b1, b2⟩, _, _, _⟩ := p_cells hh
    clear b0 b2
    have HH := Lib.hid hh
    have HO := Lib.hid ho
    have HB := Lib.hid hb
    clear hh ho hb
    generalize wr = wo at *
    by_cases hrq : r < HN
    · skip
      have j1 : (r : Int) < (HN : Int) := by omega
      go_wp2_with fail
      clear b1 j1
      go_loopw [7] (fun ix wr => ∃ (r1 s : Nat) (aa : Option Addr) (cc : Nat), r1 = r ∧ s ≤ WN ∧ ix = .int .i64 (s : Nat) ∧ wr.heap[v]? = some (.cells #[.int .i64 WN, .int .i64 HN, .slice aa (r1 * WN + s) cc] 24) ∧ OwI wr (v + 1) aa (r1 * WN + s) cc (LL.take (r1 * WN + s)) ∧ Below v Wb wr) (fun ix _ => WN - (intOf ix).toNat)
      case atStart => exact ⟨r, 0, aa, cc, rfl, by omega, rfl, HH.out, HO.out, HB.out⟩
      case round =>
        obtain ⟨r1, s, a3, c3, rfl, hs, rfl, hh3, ho3, hb3⟩ := hrel
        obtain ⟨⟨u0, u1, u2⟩, _, _, _⟩ := p_cells hh3
        clear u1 u2
        have HB3 := Lib.hid hb3
        generalize wr = wi at *
        by_cases hsp : s < WN
        · skip
          have hbw := HB3.out
          have HVI := Lib.hid (heap_ltT hh3)
          clear hb3
          have hbw2 : Below Wb.heap.size Wb wi := by rw [HV.out]; exact hbw
          clear hbw
          have T7 := T6.up hbw2
          clear T6
          have T8 := T7.add (fun wv => wv.heap[v]? = some (.cells #[.int .i64 WN, .int .i64 HN, .slice a3 (r1 * WN + s) c3] 24)) (hh3)
          clear T7
          have T9 := T8.add (fun wv => OwI wv (v + 1) a3 (r1 * WN + s) c3 (LL.take (r1 * WN + s))) (ho3)
          clear T8
          clear hh3 ho3 hbw2
          have i1 : (s : Int) < (WN : Int) := by omega
          obtain ⟨NL, hNL⟩ : ∃ NL, nineL w l s r1 = NL := ⟨_, rfl⟩
          have HNN := Lib.hid hNL
          clear hNL
          go_wp2_with fail
          clear i1 u0
          go_loopw [8, 9] (fun nx jx wx => ∃ (q : Nat) (aN : Option Addr) (cN : Nat), q ≤ 3 ∧ nx = .slice aN (3 * q) cN ∧ jx = .int .i64 ((r1 + q : Nat) : Int) ∧ OwI wx wi.heap.size aN (3 * q) cN (NL.take (3 * q)) ∧ Below wi.heap.size wi wx) (fun _ jx _ => r1 + 3 - (intOf jx).toNat)
          case atStart => exact ⟨0, none, 0, by omega, rfl, rfl, OwI.nil _ _, bnil wi⟩
          case round =>
            obtain ⟨q, aN, cN, hq3, rfl, rfl, hoN, hbx⟩ := hrel
            have HBX := Lib.hid hbx
            have HON := Lib.hid hoN
            have hwx : wi.heap.size ≤ wr.heap.size := hbx.size
            have T10 := T9.up hbx
            clear T9
            clear hbx hoN
            generalize wr = wx at *
            by_cases hqq : q < 3
            · skip
              obtain ⟨J, hJ⟩ : ∃ J, r1 + q = J := ⟨_, rfl⟩
              obtain ⟨Q, hQ⟩ : ∃ Q, J * w = Q := ⟨_, rfl⟩
              obtain ⟨P, hP⟩ : ∃ P, Q + s = P := ⟨_, rfl⟩
              have hPn : P + 3 ≤ n := by
                have h3 := place_lt (show s + 2 < w by have := HWN.out; omega) (show J < h by have := HWN.out; omega)
                rw [HWH.out, hQ] at h3
                omega
              have hch := nine_chunk (l := l) (w := w) (x := s) (y := r1) hqq hJ (show J * w + s = P by rw [hQ]; exact hP) (by rw [← HNL.out]; exact hPn)
              rw [HNN.out] at hch
              have HCH := Lib.hid hch
              have hQI : (J : Int) * (w : Int) = (Q : Int) := by rw [← hQ, Int.natCast_mul]
              have hPI : (Q : Int) + (s : Int) = (P : Int) := by omega
              have hQw : IntKind.i64.wrap (Q : Int) = (Q : Int) := IntWalk.i64_in _ (by omega)
              have hPw : IntKind.i64.wrap (P : Int) = (P : Int) := IntWalk.i64_in _ (by omega)
              have hPw3 : IntKind.i64.wrap ((P : Int) + 3) = (P : Int) + 3 := IntWalk.i64_in _ (by omega)
              have j1 : (J : Int) < (r1 : Int) + 3 := by omega
              have p0 : (0 : Int) ≤ (P : Int) := by omega
              have p1 : (P : Int) ≤ (P : Int) + 3 := by omega
              have p2 : (P : Int) + 3 ≤ (c : Int) := by omega
              have p3 : ((P : Int) + 3).toNat = P + 3 := by omega
              have p4 : ¬ c = P := by omega
              have p5 : P + 3 - P = 3 := by omega
              have p6 : (0 : Int) ≤ (P : Int) + 3 := by omega
              have HJ := Lib.hid hJ
              rw [hJ]
              clear hch hQ hP
              obtain ⟨ab, ao, hab, _, _⟩ := (T10.out.1.1.1.1.1.2).addr (by omega)
              subst hab
              have hsub := (T10.out.1.1.1.1.1.2).sub hPn (by omega)
              have HSUB := Lib.hid hsub
              clear hsub
              have v_p0 : wx.cell? ⟨W.heap.size, 0, none⟩ = some (.int .i64 w) := T10.out.1.1.1.2.1
              have v_p2 : wx.cell? ⟨W.heap.size, 2, none⟩ = some (.slice (some ⟨ab, ao, none⟩) n c) := T10.out.1.1.1.2.2.2
              go_wp2_with (first
                | (at_builtin; refine app_rd rfl _ _ _ rfl wi.heap.size et_int _ (3 * q) _ HON.out.own (by rfl) (some ⟨ab, ao + P, none⟩) 3 _ _ (by rfl) nofun HSUB.out (int_one _) (by unfold maxLen; omega) (by omega) hwx ?_; intro a5 c5 w5 ho5 hg5 hb5))
              have HO5 : Hid (OwI w5 wi.heap.size a5 (3 * (q + 1)) c5 (NL.take (3 * (q + 1)))) := by
                rw [← List.map_append, HCH.out] at ho5
                exact ⟨ho5⟩
              have HB5 := Lib.hid (HBX.out.trans hb5)
              clear ho5 hg5 hb5
              refine ⟨⟨q + 1, a5, c5, by omega, rfl, ?_, HO5.out, HB5.out⟩, ?_⟩
              · rw [show r1 + (q + 1) = J + 1 by have := HJ.out; omega]; go_num
              · have := HJ.out; simp [intOf]; omega
            · skip
              obtain rfl : q = 3 := by omega
              have hxw : s + 2 < w := by have := HWN.out; omega
              have hyh : r1 + 2 < h := by have := HWN.out; omega
              have hM := (winN_lt HPP.out hxw hyh).1
              have hval : t.getD (winN w l s r1) 0 = LL.getD (r1 * WN + s) 0 := by
                have h1 : LL.getD (r1 * WN + s) 0 = stepF t w l s r1 := by
                  rw [← HLL.out.1, ← HLL.out.2.1]
                  exact madeL_getD (by rw [HLL.out.2.1]; exact hsp) (by rw [HLL.out.2.2]; exact hrq)
                exact h1.symm
              have hnum := nine_num HPP.out hxw hyh
              have hsym := nineL_sym HPP.out hxw hyh
              rw [HNN.out] at hnum hsym
              have hn9 : NL.length = 9 := by rw [← HNN.out]; rfl
              have hrn := HON.out.rk
              rw [show 3 * 3 = 9 from rfl, List.take_of_length_le (by omega)] at hrn
              have HRN := Lib.hid hrn
              have HSYM := Lib.hid hsym
              rw [show 3 * 3 = 9 from rfl]
              generalize winN w l s r1 = M at *
              have HNUM := Lib.hid hnum
              have hMI : (M : Int) < ((512 : Nat) : Int) := by omega
              have hMJ : (M : Int) < 512 := by omega
              have hM0 : (0 : Int) ≤ (M : Int) := by omega
              have j1 : ¬ ((r1 + 3 : Nat) : Int) < (r1 : Int) + 3 := by omega
              obtain ⟨k, hk⟩ : ∃ k, r1 * WN + s = k := ⟨_, rfl⟩
              have hkK : k < K := by have h1 := place_lt hsp hrq; rw [hk] at h1; have := HK.out; omega
              clear hnum hsym hrn hn9
              obtain ⟨tb, tq, ht0, _, htc⟩ := (T10.out.1.1.1.1.2).addr (by omega)
              subst ht0
              have z0 := htc M hM
              rw [hval, hk] at z0
              clear htc hval
              have hh3 := T10.out.1.2
              have ho3 := T10.out.2
              rw [hk] at hh3 ho3
              have hsn := take_snocN (l := LL) (k := k) (by have := HLEN.out; have := HK.out; omega)
              have HKE := Lib.hid hk
              generalize LL.getD k 0 = u at *
              obtain ⟨⟨u0, u1, u2⟩, g0, g1, g2⟩ := p_cells hh3
              have hvs : v + 1 ≤ wx.heap.size := heap_ltT hh3
              have HSN := Lib.hid hsn
              have hO3 := Lib.hid ho3
              have HH4 := Lib.hid hh3
              clear hsn ho3 hh3 hk u1 g0 g1
              have y3 : (wx.alloc (.cells #[.int .i64 u] 3)).cell? ⟨v, 2, none⟩ = some (.slice a3 k c3) := al000 u2
              have z3 : (wx.alloc (.cells #[.int .i64 u] 3)).cell? ⟨tb, tq + M, none⟩ = some (.int .i64 u) := al000 z0
              have HRD : Hid (RK .i64 wx.drew aN 9 NL) := HRN.out.up (Below.drew (bnil wx))
              clear u0
              go_wp2_with fail
              go_region_law (first
                | (go_simp; go_at_call 108; refine (number_any aN 9 cN NL _ ?_ (Nat.le_refl 9) HSYM.out).mono ?_; (first | with_reducible exact HRN.out | with_reducible exact HRD.out); rintro e w3 ⟨rfl, rfl⟩; rw [HNUM.out])
                | (refine step_app_lit (by rfl) _ _ _ (by rfl) (v + 1) et_int _ k _ hO3.out.own (by rfl) 1 _ _ (by rfl) (by simp) (by rfl) (by rfl) (by unfold maxLen; omega) (by omega) hvs ?_; intro a5 c5 w5 ho5 hg5 hb5 hs5; have y5 : w5.cell? ⟨v, 2, none⟩ = some (.slice a3 k c3) := (hb5.cell (p := ⟨v, 2, none⟩) (Nat.lt_succ_self v)).trans u2; have q5 := (hb5.frozen (p := ⟨v, 2, none⟩) (Nat.lt_succ_self v)).trans g2))
              all_goals
                have hh5 := (hb5.block v (Nat.lt_succ_self v)).trans HH4.out
                have HH6 := Lib.hid (set2qN hh5 (.slice a5 (k + 1) c5))
                rw [HSN.out] at ho5
                have HO6 : Hid (OwI (w5.setCell ⟨v, 2, none⟩ (.slice a5 (k + 1) c5)) (v + 1) a5 (k + 1) c5 (LL.take (k + 1))) :=
                  ⟨own_of_heap' ho5 fun b hb => Below.heap_setCell _ _ _ _ (by have := (ho5.lt b hb).1; show b ≠ v; omega)⟩
                have HB6 := Lib.hid (((HB3.out.trans (HBX.out.mono (Nat.le_of_lt HVI.out))).trans (hb5.mono (Nat.le_succ v))).setCell (p := ⟨v, 2, none⟩) (Nat.le_refl v) (.slice a5 (k + 1) c5))
                have HK1 : Hid (r1 * WN + (s + 1) = k + 1) := by show _ = _; have := HKE.out; omega
                clear hh5 ho5 hg5 hb5 hs5 y5 q5 y3 z3 z0 u2 g2 hMI hMJ hM0 hM
                go_wp2
                go_roundw
                case rel => exact ⟨r1, s + 1, a5, c5, rfl, by omega, by go_num, by rw [HK1.out]; exact HH6.out, by rw [HK1.out]; exact HO6.out, HB6.out⟩
                case measure => simp [intOf]; omega
        · skip
          obtain rfl : WN = s := by omega
          have i2 : ¬ (WN : Int) < (WN : Int) := by omega
          have HH3 := Lib.hid hh3
          have HO3 := Lib.hid ho3
          have HK1 : Hid ((r1 + 1) * WN + 0 = r1 * WN + WN) := by show _ = _; rw [Nat.add_mul]; omega
          clear hh3 ho3 hb3
          go_wp2
          go_roundw
          case rel => exact ⟨r1 + 1, 0, a3, c3, by omega, rfl, by go_num, by rw [HK1.out]; exact HH3.out, by rw [HK1.out]; exact HO3.out, HB3.out⟩
          case measure => simp [intOf]; omega
    · skip
      obtain rfl : HN = r := by omega
      have j2 : ¬ (HN : Int) < (HN : Int) := by omega
      have hkk : HN * WN + 0 = K := by have := HK.out; rw [Nat.mul_comm]; omega
      have hh := HH.out
      have ho := HO.out
      rw [hkk, List.take_of_length_le (by have := HLEN.out; have := HK.out; omega)] at ho
      rw [hkk] at hh
      have HO9 := Lib.hid ho
      obtain ⟨⟨u0, u1, u2⟩, g0, g1, g2⟩ := p_cells hh
      have hbw : Below Wb.heap.size Wb wo := by rw [HV.out]; exact HB.out
      clear HO HH hkk ho hh b1
      have T7 := T6.up hbw
      clear T6
      obtain ⟨⟨q0, q1, q2⟩, d0, d1, d2⟩ := p_cells (T7.out.2)
      obtain ⟨w9, e9, ⟨r0, r1, r2⟩, hk9, hs9, hb9⟩ := set3p (T7.out.2) (.int .i64 WN) (.int .i64 HN) (.slice aa K cc)
      have HRET : Hid (OwI w9 W.heap.size aa K cc LL ∧ Below W.heap.size W w9) := ⟨OwI.base (OwI.mk (own_of_heap' HO9.out.own fun b hb => hk9 b (by have := (HO9.out.own.lt b hb).1; have := HZV.out; have := HV.out; omega))) (by have := HZV.out; have := HV.out; omega), hb9 W W.heap.size (by omega) (T7.out.1.1.1.1.2)⟩
      have HE9 := Lib.hid e9
      have HR5 := Lib.hid (And.intro r0 (And.intro r1 r2))
      clear hbw hk9 hs9 hb9 e9 r0 r1 r2
      go_wp2
      rw [HE9.out]
      have r3 := HR5.out.1
      have r4 := HR5.out.2.1
      have r5 := HR5.out.2.2
      refine bodyPost_ret (v := patV WN HN aa K cc) (by simp [results, Tryd.results82, go_sem, r3, r4, r5]) rfl ?_
      exact ⟨_, _, _, rfl, HRET.out.1, HRET.out.2⟩
end Go.Proofs.YtoaooblodgejdaaDoor
