/- The contract of edenref21.Turned. -/
import Derived.Test.YtocfkmdoalhjmaaDoorRefPF
import Derived.Test.YtocfkmdoalhjmaaDoorPatK
import Derived.Test.YtocfkmdoalhjmaaDoorLent
import Derived.Deep.RegionHeld3
import Derived.Deep.Cut
namespace Go.Proofs.YtocfkmdoalhjmaaDoor
open Go.RowKit
set_option linter.unusedVariables false
set_option maxRecDepth 100000

theorem set3q {w : World} {g : Nat} {x0 x1 x2 : Value} {t : TypeId} {fr : Nat × Nat} (h : w.heap[g]? = some (.cells #[x0, x1, x2] t fr)) (u0 u1 u2 : Value) : (((w.setCell ⟨g, 0, none⟩ u0).setCell ⟨g, 1, none⟩ u1).setCell ⟨g, 2, none⟩ u2).heap[g]? = some (.cells #[u0, u1, u2] t fr) := by
  simp [World.setCell, Array.getElem?_modify, h]
/-- the patch that is turned, in a block of the call's own -/
structure Bx (W Wb wg : World) (g5 : Nat) (x y : Int) (a : Option Addr) (n c : Nat) (L : List Int) : Prop where
  hz : wg.heap[g5]? = some (.cells #[.int .i64 x, .int .i64 y, .slice a n c] 24)
  own : OwI wg (W.heap.size + 2) a n c L
  gl : W.heap.size + 2 ≤ g5
  ne : (Value.slice a n c).ownBlock ≠ some g5
  bl : Below Wb.heap.size Wb wg
theorem bx_new {W Wb w5 : World} {a : Option Addr} {n c : Nat} {L : List Int} (hs : Wb.heap.size = W.heap.size + 2) (ho : OwI w5 Wb.drew.heap.size a n c L) (hb : Below Wb.drew.heap.size Wb.drew w5) (x y : Int) :
    Bx W Wb (w5.alloc (.cells #[.int .i64 x, .int .i64 y, .slice a n c] 24)) w5.heap.size x y a n c L := by
  have h0 : Wb.drew.heap.size = Wb.heap.size := rfl
  have h1 := hb.size
  exact ⟨heap_alloc_new w5 _, (ho.up (balloc (bnil w5) _)).base (by omega), by omega, fun e => Nat.lt_irrefl _ (ho.own.lt _ e).2, ((Below.drew (bnil Wb)).trans hb).alloc (by omega) _⟩
theorem bx_set {W Wb w7 : World} {g5 B : Nat} {a : Option Addr} {n c : Nat} {L : List Int} {x0 x1 x2 : Value} (hz : w7.heap[g5]? = some (.cells #[x0, x1, x2] 24)) (hB : W.heap.size + 2 ≤ B) (ho : OwI w7 B a n c L) (gl : W.heap.size + 2 ≤ g5) (gb : g5 < B) (gw : Wb.heap.size ≤ g5) (bl : Below Wb.heap.size Wb w7) (x y : Int) :
    Bx W Wb (((w7.setCell ⟨g5, 0, none⟩ (.int .i64 x)).setCell ⟨g5, 1, none⟩ (.int .i64 y)).setCell ⟨g5, 2, none⟩ (.slice a n c)) g5 x y a n c L := by
  obtain ⟨w8, e8, _, hk8, hs8, hb8⟩ := set3p hz (.int .i64 x) (.int .i64 y) (.slice a n c)
  have h3 := set3q hz (.int .i64 x) (.int .i64 y) (.slice a n c)
  rw [e8] at h3 ⊢
  exact ⟨h3, OwI.base ⟨own_of_heap' ho.own fun b hb => hk8 b (by have := (ho.own.lt b hb).1; omega)⟩ hB, gl, fun e => by have := (ho.own.lt _ e).1; omega, hb8 _ _ gw bl⟩
theorem bx_old {W Wb w5 : World} {a : Option Addr} {n c : Nat} {L : List Int} {o : Obj} {x0 x1 x2 : Value} (hs : Wb.heap.size = W.heap.size + 2) (ho : OwI w5 (Wb.alloc o).drew.heap.size a n c L) (hb : Below (Wb.alloc o).drew.heap.size (Wb.alloc o).drew w5) (hz : w5.heap[Wb.heap.size]? = some (.cells #[x0, x1, x2] 24)) (x y : Int) :
    Bx W Wb (((w5.setCell ⟨Wb.heap.size, 0, none⟩ (.int .i64 x)).setCell ⟨Wb.heap.size, 1, none⟩ (.int .i64 y)).setCell ⟨Wb.heap.size, 2, none⟩ (.slice a n c)) Wb.heap.size x y a n c L := by
  have h0 : (Wb.alloc o).drew.heap.size = Wb.heap.size + 1 := by show (Wb.alloc o).heap.size = _; simp
  have h1 : Below Wb.heap.size Wb (Wb.alloc o).drew := Below.drew (balloc (bnil Wb) o)
  exact bx_set hz (by omega) ho (by omega) (by omega) (Nat.le_refl _) (h1.trans (hb.mono (by omega))) x y
theorem Bx.put {W Wb wo w7 : World} {g5 : Nat} {x y : Int} {a a7 : Option Addr} {n c n7 c7 : Nat} {L L7 : List Int} (h : Bx W Wb wo g5 x y a n c L) (hs : Wb.heap.size = W.heap.size + 2) (ho : OwI w7 wo.heap.size a7 n7 c7 L7) (hb : Below wo.heap.size wo w7) (x' y' : Int) :
    Bx W Wb (((w7.setCell ⟨g5, 0, none⟩ (.int .i64 x')).setCell ⟨g5, 1, none⟩ (.int .i64 y')).setCell ⟨g5, 2, none⟩ (.slice a7 n7 c7)) g5 x' y' a7 n7 c7 L7 := by
  have hg := heap_ltT h.hz
  have hl := h.gl
  exact bx_set ((hb.block g5 hg).trans h.hz) (by omega) ho hl hg (by omega) (h.bl.trans (hb.mono (by omega))) x' y'
theorem turn_next {w h i : Nat} {l : List Int} (hw : 1 ≤ w) (hh : 1 ≤ h) (hi : i < 3) : turnW h w i = turnW w h (i + 1) ∧ turnW w h i = turnW h w (i + 1) ∧ turnL (turnW w h i) (turnW h w i) (turnL w h l i) 1 = turnL w h l (i + 1) := by
  have hb : bothT i 1 = i + 1 := by
    have : i = 0 ∨ i = 1 ∨ i = 2 := by omega
    rcases this with rfl | rfl | rfl <;> rfl
  have h1 := turn_turn (w := w) (h := h) (l := l) hw hh (show i < 8 by omega) (show 1 < 8 by omega)
  rw [hb] at h1
  exact h1
theorem turn_mirror {w h M : Nat} {l : List Int} (hw : 1 ≤ w) (hh : 1 ≤ h) (hi : M < 4) : turnW w h M = turnW w h (M + 4) ∧ turnW h w M = turnW h w (M + 4) ∧ turnL (turnW w h M) (turnW h w M) (turnL w h l M) 4 = turnL w h l (M + 4) := by
  have hb : bothT M 4 = M + 4 := by
    have : M = 0 ∨ M = 1 ∨ M = 2 ∨ M = 3 := by omega
    rcases this with rfl | rfl | rfl | rfl <;> rfl
  have h1 := turn_turn (w := w) (h := h) (l := l) hw hh (show M < 8 by omega) (show 4 < 8 by omega)
  rw [hb] at h1
  exact h1
theorem mirror_getD {w h : Nat} {l : List Int} {x y : Nat} (hx : x < w) (hy : y < h) : l.getD (y * w + (w - 1 - x)) 0 = (turnL w h l 4).getD (y * w + x) 0 := by
  have h1 : turnL w h l 4 = madeL w h (fun x y => atL w l (w - 1 - x) y) := rfl
  rw [h1, madeL_getD hx hy]
  rfl
theorem turnL_zero {w h : Nat} {l : List Int} (hp : IsPatch w h l) : turnL w h l 0 = l := made_atL hp.w1 hp.len

set_option maxHeartbeats 16000000 in
theorem refturned (w h T : Nat) (a : Option Addr) (n c : Nat) (l : List Int) (W : World) (hR : SlI W a n c l) (hp : IsPatch w h l) (hT : T < 8) :
    Calls Tryd.prog 78 #[patV w h a n c, .int .i64 T] W fun e w' => ∃ a' N c', e = .returned (patV (turnW w h T) (turnW h w T) a' N c') ∧ OwI w' W.heap.size a' N c' (turnL w h l T) ∧ Below W.heap.size W w' := by
  have T0 := Tk.nil W
  have T1 := T0.add (fun wv => Below W.heap.size W wv) (bnil W)
  clear T0
  have T2 := T1.add (fun wv => SlI wv a n c l) (hR)
  clear T1
  have hw1 := hp.w1
  have hh1 := hp.h1
  have HPP := Lib.hid hp
  have h8 := hR.n8
  have hmx : n ≤ maxLen := hR.nm
  have HNN := Lib.hid hR.nn
  obtain ⟨M, hM⟩ : ∃ M, T % 4 = M := ⟨_, rfl⟩
  have hMI : (T : Int) % 4 = (M : Int) := by omega
  have hMt : (T : Int).tmod 4 = (M : Int) := by rw [Int.tmod_eq_emod_of_nonneg (by omega)]; exact hMI
  have hM4 : M < 4 := by omega
  have HM := Lib.hid hM
  clear hR hp hM
  obtain ⟨Wb, hWb⟩ : ∃ Wb, (W.alloc (.cells #[.int .i64 w, .int .i64 h, .slice a n c] 24)).alloc (.cells #[.int .i64 0, .int .i64 0, .slice none 0 0] 24) = Wb := ⟨_, rfl⟩
  have hbWb : Below W.heap.size W Wb := by rw [← hWb]; exact balloc (balloc (bnil W) _) _
  have T3 := T2.up hbWb
  clear T2
  have T4 := T3.add (fun wv => wv.cell? ⟨W.heap.size, 0, none⟩ = some (.int .i64 w) ∧ wv.cell? ⟨W.heap.size, 1, none⟩ = some (.int .i64 h) ∧ wv.cell? ⟨W.heap.size, 2, none⟩ = some (.slice a n c)) (by rw [← hWb]; exact ⟨al000 (cnw (by simp) rfl), al000 (cnw (by simp) rfl), al000 (cnw (by simp) rfl)⟩)
  clear T3
  have HWb := Lib.hid hWb
  clear hWb hbWb
  have hz1 : Wb.heap[W.heap.size + 1]? = some (.cells #[.int .i64 0, .int .i64 0, .slice none 0 0] 24) := by
    rw [← HWb.out]
    have := heap_alloc_new (W.alloc (.cells #[.int .i64 w, .int .i64 h, .slice a n c] 24)) (.cells #[.int .i64 0, .int .i64 0, .slice none 0 0] 24)
    simpa using this
  have hsz : Wb.heap.size = W.heap.size + 2 := by rw [← HWb.out]; simp
  have T5 := T4.add (fun wv => wv.heap[W.heap.size + 1]? = some (.cells #[.int .i64 0, .int .i64 0, .slice none 0 0] 24)) (hz1)
  clear T4
  have HSZ := Lib.hid hsz
  clear hz1 hsz
  have HS0 : Hid (Wb.drew.cell? ⟨W.heap.size, 0, none⟩ = some (.int .i64 w) ∧ Wb.drew.cell? ⟨W.heap.size, 1, none⟩ = some (.int .i64 h) ∧ Wb.drew.cell? ⟨W.heap.size, 2, none⟩ = some (.slice a n c)) := ⟨T5.out.1.2.1, T5.out.1.2.2.1, T5.out.1.2.2.2⟩
  have HS1 : Hid ((Wb.alloc (.cells #[.int .i64 0, .int .i64 0, .slice none 0 0] 24)).drew.cell? ⟨W.heap.size, 0, none⟩ = some (.int .i64 w) ∧ (Wb.alloc (.cells #[.int .i64 0, .int .i64 0, .slice none 0 0] 24)).drew.cell? ⟨W.heap.size, 1, none⟩ = some (.int .i64 h) ∧ (Wb.alloc (.cells #[.int .i64 0, .int .i64 0, .slice none 0 0] 24)).drew.cell? ⟨W.heap.size, 2, none⟩ = some (.slice a n c)) := ⟨al000 (T5.out.1.2.1), al000 (T5.out.1.2.2.1), al000 (T5.out.1.2.2.2)⟩
  have HT0 : Hid (RK .i64 Wb.drew a n l) := (T5.out.1.1.2).rk.up (Below.drew (bnil Wb))
  have HZA : Hid ((Wb.alloc (.cells #[.int .i64 0, .int .i64 0, .slice none 0 0] 24)).drew.heap[Wb.heap.size]? = some (.cells #[.int .i64 0, .int .i64 0, .slice none 0 0] 24)) := heap_alloc_new Wb (.cells #[.int .i64 0, .int .i64 0, .slice none 0 0] 24)
  have HLA : Hid (Wb.heap.size < (Wb.alloc (.cells #[.int .i64 0, .int .i64 0, .slice none 0 0] 24)).drew.heap.size) := heap_ltT HZA.out
  have HT1 : Hid (RK .i64 (Wb.alloc (.cells #[.int .i64 0, .int .i64 0, .slice none 0 0] 24)).drew a n l) := (T5.out.1.1.2).rk.up (Below.drew (balloc (bnil Wb) _))
  have hg1 : W.heap.size ≠ Wb.heap.size := by have := HSZ.out; omega
  go_enter Tryd.func78, Tryd.ntmps78
  go_upto_region 1 with (fail)
  rw [HWb.out]
  go_cut [5] from 10 (fun s5 wx => ∃ (g5 : Nat) (a5 : Option Addr) (c5 : Nat), s5 = .pointer (some ⟨g5, 0, none⟩) ∧ Bx W Wb wx g5 w h a5 n c5 (turnL w h l 0))
  case first =>
    go_region_held3 (fun w' => w'.cell? ⟨W.heap.size, 0, none⟩ = some (.int .i64 w) ∧ w'.cell? ⟨W.heap.size, 1, none⟩ = some (.int .i64 h) ∧ w'.cell? ⟨W.heap.size, 2, none⟩ = some (.slice a n c))
      (first | with_reducible exact HS5.out | with_reducible exact HS0.out | with_reducible exact HS1.out | with_reducible exact ⟨al000 HS5.out.1, al000 HS5.out.2.1, al000 HS5.out.2.2⟩ | with_reducible exact ⟨set3_cellP (HS5.out).1 hg1, set3_cellP (HS5.out).2.1 hg1, set3_cellP (HS5.out).2.2 hg1⟩ | go_keep)
      (first
        | (go_at_call 111; (with_reducible refine (copy_any a n c l _ ?_ h8 HNN.out).mono ?_); (first | with_reducible exact HT0.out | with_reducible exact HT1.out); rintro e w5 ⟨a5, c5, rfl, ho5, hb5⟩; have HO5 := Lib.hid (OwI.mk ho5); have HD5 := Lib.hid hb5; (first | ((with_reducible have HS5 := Lib.hid (And.intro (cpa hb5 (HS0.out).1) (And.intro (cpa hb5 (HS0.out).2.1) (cpa hb5 (HS0.out).2.2)))); have hz5 := heap_alloc_new w5 (.cells #[.int .i64 0, .int .i64 0, .slice none 0 0] 24); have HZ5 := Lib.hid hz5; obtain ⟨⟨c0, c1', c2'⟩, f0, f1, f2⟩ := p_cells hz5; clear hz5) | ((with_reducible have HS5 := Lib.hid (And.intro (cpa hb5 (HS1.out).1) (And.intro (cpa hb5 (HS1.out).2.1) (cpa hb5 (HS1.out).2.2)))); have hz5 := (HD5.out.block _ HLA.out).trans HZA.out; have HZ5 := Lib.hid hz5; obtain ⟨⟨c0, c1', c2'⟩, f0, f1, f2⟩ := p_cells hz5; clear hz5)); clear ho5 hb5))
    all_goals
      obtain ⟨wg, g5, hwg, hg5, hbx⟩ : ∃ wg g5, _ = wg ∧ _ = g5 ∧ Bx W Wb wg g5 w h a5 n c5 (turnL w h l 0) := by
        rw [turnL_zero HPP.out]
        first
          | exact ⟨_, _, rfl, rfl, bx_new HSZ.out HO5.out HD5.out _ _⟩
          | exact ⟨_, _, rfl, rfl, bx_old HSZ.out HO5.out HD5.out HZ5.out _ _⟩
      rw [hwg, hg5]
      go_wp2_with fail
      go_meet
      exact ⟨g5, a5, c5, rfl, hbx⟩
  case rest =>
    obtain ⟨g5, a5, c5, rfl, hbx⟩ := hcut
    have HBX := Lib.hid hbx
    clear hbx
    generalize wc = wg at *
    go_wp2_with fail
    go_loopw [6] (fun ix wr => ∃ (i : Nat) (aa : Option Addr) (nn cc : Nat), i ≤ M ∧ ix = .int .i64 (i : Nat) ∧ Bx W Wb wr g5 (turnW w h i : Nat) (turnW h w i : Nat) aa nn cc (turnL w h l i)) (fun ix _ => M - (intOf ix).toNat)
    case atStart => exact ⟨0, a5, n, c5, by omega, rfl, HBX.out⟩
    case round =>
      obtain ⟨i, aq, nn, cq, hi, rfl, hbx⟩ := hrel
      have HX := Lib.hid hbx
      clear hbx
      generalize wr = wo at *
      by_cases hiM : i < M
      · skip
        have i1 : (i : Int) < (M : Int) := by omega
        have hip := turn_patch (t := i) HPP.out
        have HIP := Lib.hid hip
        have hrk := HX.out.own.rk
        have hnm : nn ≤ maxLen := Nat.le_trans HX.out.own.nnc.1 HX.out.own.nnc.2.1
        have HRK := Lib.hid hrk
        have HTN := Lib.hid (turn_next (l := l) hw1 hh1 (show i < 3 by omega))
        obtain ⟨⟨c0, c1, c2⟩, f0, f1, f2⟩ := p_cells HX.out.hz
        clear hip hrk
        go_wp2_with fail
        refine (refquarter (turnW w h i) (turnW h w i) aq nn cq (turnL w h l i) wo HRK.out hnm HIP.out).mono ?_; rintro e w7 ⟨a7, c7, rfl, ho7, hb7⟩
        have hbx8 := HX.out.put HSZ.out ho7 hb7 (turnW h w i : Nat) (turnW w h i : Nat)
        have hz7 := (hb7.block g5 (heap_ltT HX.out.hz)).trans HX.out.hz
        obtain ⟨w8, e8⟩ : ∃ w8, (((w7.setCell ⟨g5, 0, none⟩ (.int .i64 (turnW h w i : Nat))).setCell ⟨g5, 1, none⟩ (.int .i64 (turnW w h i : Nat))).setCell ⟨g5, 2, none⟩ (.slice a7 (turnW h w i * turnW w h i) c7)) = w8 := ⟨_, rfl⟩
        rw [e8, HTN.out.2.2] at hbx8
        have HX8 : Hid (Bx W Wb w8 g5 (turnW w h (i + 1) : Nat) (turnW h w (i + 1) : Nat) a7 (turnW h w i * turnW w h i) c7 (turnL w h l (i + 1))) := by
          rw [← HTN.out.1, ← HTN.out.2.1]; exact hbx8
        have HE8 := Lib.hid e8
        obtain ⟨_, f70, f71, f72⟩ := p_cells hz7
        clear e8 hbx8 ho7 hb7 hz7 c0 c1 c2 f0 f1 f2 hMI hMt
        go_wp2
        rw [HE8.out]
        go_roundw
        case rel => exact ⟨i + 1, a7, _, c7, by omega, by go_num, HX8.out⟩
        case measure => simp [intOf]; omega
      · skip
        obtain rfl : M = i := by omega
        have i2 : ¬ (M : Int) < (M : Int) := by omega
        have hbw := HX.out.bl
        obtain ⟨⟨c0, c1, c2⟩, f0, f1, f2⟩ := p_cells HX.out.hz
        have T6 := T5.up hbw
        clear T5
        clear hbw
        by_cases ht4 : 4 ≤ T
        · skip
          have t4 : (4 : Int) ≤ (T : Int) := by omega
          obtain ⟨w3, hw3⟩ : ∃ x, turnW w h M = x := ⟨_, rfl⟩
          obtain ⟨h3, hh3⟩ : ∃ x, turnW h w M = x := ⟨_, rfl⟩
          obtain ⟨l3, hl3⟩ : ∃ x, turnL w h l M = x := ⟨_, rfl⟩
          have hip := turn_patch (t := M) HPP.out
          have hx := HX.out
          have hmir := turn_mirror (l := l) hw1 hh1 hM4
          rw [hw3, hh3, hl3] at hip hx hmir
          rw [show M + 4 = T by have := HM.out; omega] at hmir
          have HIP := Lib.hid hip
          have hwa := hip.w1
          have hwb := hip.w2
          have hha := hip.h1
          have hhb := hip.h2
          have HX3 := Lib.hid hx
          clear c0 c1 c2 f0 f1 f2 hw3 hh3 hl3 hip
          obtain ⟨LL, hLL⟩ : ∃ LL, turnL w3 h3 l3 4 = LL := ⟨_, rfl⟩
          rw [hLL] at hmir
          have HMIR := Lib.hid hmir
          have HLL := Lib.hid hLL
          have hlen : LL.length = w3 * h3 := by rw [← hLL]; exact madeL_len _ _ _
          obtain ⟨K, hK⟩ : ∃ K, w3 * h3 = K := ⟨_, rfl⟩
          have hK4 : K ≤ 4096 := by rw [← hK]; exact Nat.mul_le_mul hwb hhb
          rw [hK] at hlen
          have HK := Lib.hid hK
          have HLEN := Lib.hid hlen
          have hnm : nn ≤ 9223372036854775807 := by have h1 := HX3.out.own.nnc; unfold maxLen at h1; omega
          clear hLL hlen hK hmir hx
          have T7 := T6.add (fun wv => wv.heap[g5]? = some (.cells #[.int .i64 w3, .int .i64 h3, .slice aq nn cq] 24)) (HX3.out.hz)
          clear T6
          have T8 := T7.add (fun wv => wv.cell? ⟨g5, 0, none⟩ = some (.int .i64 w3) ∧ wv.cell? ⟨g5, 1, none⟩ = some (.int .i64 h3) ∧ wv.cell? ⟨g5, 2, none⟩ = some (.slice aq nn cq)) ((p_cells HX3.out.hz).1)
          clear T7
          have T9 := T8.add (fun wv => RK .i64 wv aq nn l3) (HX3.out.own.rk)
          clear T8
          have v_G0 : wo.cell? ⟨g5, 0, none⟩ = some (.int .i64 w3) := T9.out.1.2.1
          have v_G1 : wo.cell? ⟨g5, 1, none⟩ = some (.int .i64 h3) := T9.out.1.2.2.1
          have v_G2 : wo.cell? ⟨g5, 2, none⟩ = some (.slice aq nn cq) := T9.out.1.2.2.2
          go_wp2_with fail
          clear hMI hMt
          clear v_G0 v_G1 v_G2
          obtain ⟨wv, hwv⟩ : ∃ wv, wo.alloc (.cells #[.int .i64 w3, .int .i64 h3, .slice none 0 0] 24) = wv := ⟨_, rfl⟩
          obtain ⟨v, hv⟩ : ∃ v, wo.heap.size = v := ⟨_, rfl⟩
          have hh0 : wv.heap[v]? = some (.cells #[.int .i64 w3, .int .i64 h3, .slice none 0 0] 24) := by rw [← hwv, ← hv]; exact heap_alloc_new wo _
          have hb0 : Below v wo wv := by rw [← hwv, ← hv]; exact balloc (bnil wo) _
          have HH0 := Lib.hid hh0
          have HB0 := Lib.hid hb0
          have HV := Lib.hid hv
          rw [hwv, hv]
          clear hh0 hb0 hwv hv
          go_loopw [8] (fun jx wr => ∃ (r s : Nat) (aa : Option Addr) (cc : Nat), r ≤ h3 ∧ s = 0 ∧ jx = .int .i64 (r : Nat) ∧ wr.heap[v]? = some (.cells #[.int .i64 w3, .int .i64 h3, .slice aa (r * w3 + s) cc] 24) ∧ OwI wr (v + 1) aa (r * w3 + s) cc (LL.take (r * w3 + s)) ∧ Below v wo wr) (fun jx _ => h3 - (intOf jx).toNat)
          case atStart => exact ⟨0, 0, none, 0, by omega, by omega, rfl, by simpa using HH0.out, by simpa using OwI.nil _ _, HB0.out⟩
          case round =>
            obtain ⟨r, s0, aa, cc, hr, rfl, rfl, hh, ho, hb⟩ := hrel
            have HH := Lib.hid hh
            have HO := Lib.hid ho
            have HB := Lib.hid hb
            clear hh ho hb
            generalize wr = wq at *
            by_cases hrq : r < h3
            · skip
              have hbo := HB.out
              rw [← HV.out] at hbo
              have TT := T9.up hbo
              have v_G0 : wq.cell? ⟨g5, 0, none⟩ = some (.int .i64 w3) := TT.out.1.2.1
              have v_G1 : wq.cell? ⟨g5, 1, none⟩ = some (.int .i64 h3) := TT.out.1.2.2.1
              clear TT
              have j1 : (r : Int) < (h3 : Int) := by omega
              go_wp2_with fail
              clear hbo v_G0 v_G1
              go_loopw [9] (fun ix wr => ∃ (r1 s : Nat) (aa : Option Addr) (cc : Nat), r1 = r ∧ s ≤ w3 ∧ ix = .int .i64 (s : Nat) ∧ wr.heap[v]? = some (.cells #[.int .i64 w3, .int .i64 h3, .slice aa (r1 * w3 + s) cc] 24) ∧ OwI wr (v + 1) aa (r1 * w3 + s) cc (LL.take (r1 * w3 + s)) ∧ Below v wo wr) (fun ix _ => w3 - (intOf ix).toNat)
              case atStart => exact ⟨r, 0, aa, cc, rfl, by omega, rfl, HH.out, HO.out, HB.out⟩
              case round =>
                obtain ⟨r1, s, a3, c3, rfl, hs, rfl, hh3, ho3, hb3⟩ := hrel
                have HH3 := Lib.hid hh3
                have HO3 := Lib.hid ho3
                have HB3 := Lib.hid hb3
                by_cases hsp : s < w3
                · skip
                  have hbw := HB3.out
                  rw [← HV.out] at hbw
                  clear hb3
                  have T10 := T9.up hbw
                  clear T9
                  obtain ⟨k, hk⟩ : ∃ k, r1 * w3 + s = k := ⟨_, rfl⟩
                  have hkK : k < K := by have h1 := place_lt hsp hrq; rw [hk] at h1; have := HK.out; omega
                  obtain ⟨ab, ao, hab0, hab, hcell⟩ := (T10.out.2).addr (by have h1 := (T10.out.2).len; have h2 := HIP.out.len; have h3 := place_lt (show s < w3 by omega) (show r1 < h3 by omega); omega)
                  subst hab0
                  obtain ⟨Q, hQ⟩ : ∃ Q, r1 * w3 = Q := ⟨_, rfl⟩
                  have hQ4 : Q ≤ 4096 := by rw [← hQ]; exact Nat.mul_le_mul (show r1 ≤ 64 by omega) hwb
                  have hQI : (r1 : Int) * (w3 : Int) = (Q : Int) := by rw [← hQ, Int.natCast_mul]
                  have hQw : IntKind.i64.wrap (Q : Int) = (Q : Int) := IntWalk.i64_in _ (by omega)
                  have hQ2 : IntKind.i64.wrap ((Q : Int) + (w3 : Int)) = (Q : Int) + (w3 : Int) := IntWalk.i64_in _ (by omega)
                  have hQ3 : IntKind.i64.wrap ((Q : Int) + (w3 : Int) - 1) = (Q : Int) + (w3 : Int) - 1 := IntWalk.i64_in _ (by omega)
                  have hQ5 : IntKind.i64.wrap ((Q : Int) + (w3 : Int) - 1 - (s : Int)) = (Q : Int) + (w3 : Int) - 1 - (s : Int) := IntWalk.i64_in _ (by omega)
                  have hQn : Q + (w3 - 1 - s) < nn := by have h1 := (T10.out.2).len; have h2 := HIP.out.len; have h3 := place_lt (show w3 - 1 - s < w3 by omega) (show r1 < h3 by omega); rw [hQ] at h3; omega
                  have z0 := hcell (Q + (w3 - 1 - s)) hQn
                  have hval : l3.getD (Q + (w3 - 1 - s)) 0 = LL.getD k 0 := by
                    rw [← HLL.out, ← hk, ← hQ]
                    exact mirror_getD hsp hrq
                  rw [hval] at z0
                  have k0 : (0 : Int) ≤ (Q : Int) + (w3 : Int) - 1 - (s : Int) := by omega
                  have k0b : (s : Int) ≤ (Q : Int) + (w3 : Int) - 1 := by omega
                  have k1 : (Q : Int) + (w3 : Int) - 1 - (s : Int) < (nn : Int) := by omega
                  have k2 : ((Q : Int) + (w3 : Int) - 1 - (s : Int)).toNat = Q + (w3 - 1 - s) := by omega
                  clear hcell hval hQ
                  rw [hk] at hh3 ho3
                  have hsn := take_snoc (l := LL) (k := k) (by have := HLEN.out; have := HK.out; omega)
                  have HKE := Lib.hid hk
                  generalize LL.getD k 0 = u at *
                  obtain ⟨⟨u0, u1, u2⟩, g0, g1, g2⟩ := p_cells hh3
                  have hvs : v + 1 ≤ wr.heap.size := heap_ltT hh3
                  have i1 : (s : Int) < (w3 : Int) := by omega
                  have HSN := Lib.hid hsn
                  have hO3 := Lib.hid ho3
                  have HH4 := Lib.hid hh3
                  clear hsn ho3 hh3 hk u1 g0 g1 HH3 HO3
                  have y3 : (wr.alloc (.cells #[.int .i64 u] 3)).cell? ⟨v, 2, none⟩ = some (.slice a3 k c3) := al000 u2
                  clear u0
                  have v_G0 : wr.cell? ⟨g5, 0, none⟩ = some (.int .i64 w3) := T10.out.1.2.1
                  have v_G2 : wr.cell? ⟨g5, 2, none⟩ = some (.slice (some ⟨ab, ao, none⟩) nn cq) := T10.out.1.2.2.2
                  have va_G0 : (wr.alloc (.cells #[.int .i64 u] 3)).cell? ⟨g5, 0, none⟩ = some (.int .i64 w3) := al000 v_G0
                  have va_G2 : (wr.alloc (.cells #[.int .i64 u] 3)).cell? ⟨g5, 2, none⟩ = some (.slice (some ⟨ab, ao, none⟩) nn cq) := al000 v_G2
                  go_wp2_with fail
                  go_region_law (first
                    | (refine step_app_lit (by rfl) _ _ _ (by rfl) (v + 1) et_int _ k _ hO3.out.own (by rfl) 1 _ _ (by rfl) (by simp) (by rfl) (by rfl) (by unfold maxLen; omega) (by omega) hvs ?_; intro a5 c5 w5 ho5 hg5 hb5 hs5; have y5 : w5.cell? ⟨v, 2, none⟩ = some (.slice a3 k c3) := (hb5.cell (p := ⟨v, 2, none⟩) (Nat.lt_succ_self v)).trans u2; have q5 := (hb5.frozen (p := ⟨v, 2, none⟩) (Nat.lt_succ_self v)).trans g2))
                  all_goals
                    have hh5 := (hb5.block v (Nat.lt_succ_self v)).trans HH4.out
                    have HH6 := Lib.hid (set2q hh5 (.slice a5 (k + 1) c5))
                    rw [HSN.out] at ho5
                    have HO6 : Hid (OwI (w5.setCell ⟨v, 2, none⟩ (.slice a5 (k + 1) c5)) (v + 1) a5 (k + 1) c5 (LL.take (k + 1))) :=
                      ⟨own_of_heap' ho5 fun b hb => Below.heap_setCell _ _ _ _ (by have := (ho5.lt b hb).1; show b ≠ v; omega)⟩
                    have HB6 := Lib.hid ((HB3.out.trans (hb5.mono (Nat.le_succ v))).setCell (p := ⟨v, 2, none⟩) (Nat.le_refl v) (.slice a5 (k + 1) c5))
                    have HK1 : Hid (r1 * w3 + (s + 1) = k + 1) := by show _ = _; have := HKE.out; omega
                    clear hh5 ho5 hg5 hb5 hs5 y5 q5 y3 u2 g2 hbw va_G0 v_G0 va_G2 v_G2 hQI hQw hQ2 hQ3 hQ5 k0 k0b k1 k2 z0
                    go_wp2
                    go_roundw
                    case rel => exact ⟨r1, s + 1, a5, c5, rfl, by omega, by go_num, by rw [HK1.out]; exact HH6.out, by rw [HK1.out]; exact HO6.out, HB6.out⟩
                    case measure => simp [intOf]; omega
                · skip
                  have hbo := HB3.out
                  rw [← HV.out] at hbo
                  have TT := T9.up hbo
                  have v_G0 : wr.cell? ⟨g5, 0, none⟩ = some (.int .i64 w3) := TT.out.1.2.1
                  have v_G1 : wr.cell? ⟨g5, 1, none⟩ = some (.int .i64 h3) := TT.out.1.2.2.1
                  clear TT
                  obtain rfl : w3 = s := by omega
                  have i2 : ¬ (w3 : Int) < (w3 : Int) := by omega
                  have HK1 : Hid ((r1 + 1) * w3 + 0 = r1 * w3 + w3) := by show _ = _; rw [Nat.add_mul]; omega
                  clear hh3 ho3 hb3
                  go_wp2
                  clear hbo v_G0 v_G1
                  go_roundw
                  case rel => exact ⟨r1 + 1, 0, a3, c3, by omega, rfl, by go_num, by rw [HK1.out]; exact HH3.out, by rw [HK1.out]; exact HO3.out, HB3.out⟩
                  case measure => simp [intOf]; omega
            · skip
              obtain rfl : h3 = r := by omega
              have j2 : ¬ (h3 : Int) < (h3 : Int) := by omega
              have hkk : h3 * w3 + 0 = K := by have := HK.out; rw [Nat.mul_comm]; omega
              have hh := HH.out
              have ho := HO.out
              rw [hkk, List.take_of_length_le (by have := HLEN.out; have := HK.out; omega)] at ho
              rw [hkk] at hh
              have HO9 := Lib.hid ho
              have HH9 := Lib.hid hh
              obtain ⟨⟨u0, u1, u2⟩, g0, g1, g2⟩ := p_cells hh
              have hbw := HB.out
              rw [← HV.out] at hbw
              clear HO HH hkk ho hh
              have T10 := T9.up hbw
              clear T9
              have v_G1 : wq.cell? ⟨g5, 1, none⟩ = some (.int .i64 h3) := T10.out.1.2.2.1
              have HRG := Lib.hid (T10.out.1.1.2)
              obtain ⟨_, d0, d1, d2⟩ := p_cells (T10.out.1.1.2)
              obtain ⟨w8, e8, ⟨r0, r1, r2⟩, hk8, hs8, hb8⟩ := set3p (T10.out.1.1.2) (.int .i64 w3) (.int .i64 h3) (.slice aa K cc)
              have hgne : W.heap.size + 1 ≠ g5 := by have := HX3.out.gl; omega
              have hgv : g5 < v := by have h1 := heap_ltT HX3.out.hz; have h2 := HV.out; omega
              have hz8 := (hk8 _ hgne).trans (T10.out.1.1.1.2)
              obtain ⟨⟨q0, q1, q2⟩, d3, d4, d5⟩ := p_cells hz8
              obtain ⟨w9, e9, ⟨r3, r4, r5⟩, hk9, hs9, hb9⟩ := set3p hz8 (.int .i64 w3) (.int .i64 h3) (.slice aa K cc)
              have HRET : Hid (OwI w9 W.heap.size aa K cc LL ∧ Below W.heap.size W w9) := by
                refine ⟨OwI.base (OwI.mk (own_of_heap' HO9.out.own fun b hb => (hk9 b ?_).trans (hk8 b ?_))) (show W.heap.size ≤ v + 1 by have := HX3.out.gl; omega), hb9 W W.heap.size (by omega) (hb8 W W.heap.size (by have := HX3.out.gl; omega) (T10.out.1.1.1.1.1.1.2))⟩
                · have := (HO9.out.own.lt b hb).1; have := HX3.out.gl; omega
                · have := (HO9.out.own.lt b hb).1; omega
              have HE8 := Lib.hid e8
              have HE9 := Lib.hid e9
              have HR5 := Lib.hid (And.intro r3 (And.intro r4 r5))
              clear hbw hk8 hs8 hb8 e8 hk9 hs9 hb9 e9 hgne hgv hz8 r3 r4 r5
              go_upto_region 16 with (fail)
              rw [HE8.out]
              go_wp2_with fail
              rw [HE9.out]
              have r3 := HR5.out.1
              have r4 := HR5.out.2.1
              have r5 := HR5.out.2.2
              refine bodyPost_ret (v := patV w3 h3 aa K cc) (by simp [results, Tryd.results78, go_sem, r3, r4, r5]) rfl ?_
              rw [← HMIR.out.1, ← HMIR.out.2.1, ← HMIR.out.2.2]
              exact ⟨_, _, _, rfl, HRET.out.1, HRET.out.2⟩
        · skip
          have t4 : ¬ (4 : Int) ≤ (T : Int) := by omega
          have hTM : T = M := by have := HM.out; omega
          subst hTM
          obtain ⟨⟨q0, q1, q2⟩, d0, d1, d2⟩ := p_cells (T6.out.2)
          obtain ⟨w9, e9, ⟨r0, r1, r2⟩, hk9, hs9, hb9⟩ := set3p (T6.out.2) (.int .i64 (turnW w h T : Nat)) (.int .i64 (turnW h w T : Nat)) (.slice aq nn cq)
          have HRET : Hid (OwI w9 W.heap.size aq nn cq (turnL w h l T) ∧ Below W.heap.size W w9) := ⟨OwI.base ⟨own_of_heap' HX.out.own.own fun b hb => hk9 b (by have := (HX.out.own.own.lt b hb).1; omega)⟩ (Nat.le_add_right _ 2), hb9 W W.heap.size (by omega) (T6.out.1.1.1.2)⟩
          have HE9 := Lib.hid e9
          clear hk9 hs9 hb9 e9
          go_wp2_with fail
          rw [HE9.out]
          refine bodyPost_ret (v := patV (turnW w h T) (turnW h w T) aq nn cq) (by simp [results, Tryd.results78, go_sem, r0, r1, r2]) rfl ?_
          exact ⟨aq, nn, cq, rfl, HRET.out.1, HRET.out.2⟩
end Go.Proofs.YtocfkmdoalhjmaaDoor
