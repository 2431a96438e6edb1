/- The walk of edenlaw07.RowRings. -/
import Derived.Test.YtkgalgmjdfhhbaaDoorRowG
import Derived.Test.YtkgalgmjdfhhbaaDoorRingB
import Derived.Test.YtkgalgmjdfhhbaaDoorRawIs
import Derived.Deep.RegionHeld3
namespace Go.Proofs.YtkgalgmjdfhhbaaDoor
open Go.RowKit
set_option linter.unusedVariables false
set_option maxRecDepth 100000

/-- a row that is a ring again and again -/
theorem cellF_ring (p : Int) (wl : List Int) (i : Int) : cellF p wl [] wl i = ringF wl (i - p) := by
  unfold ringF
  by_cases h : i < p
  · rw [cellF_left h]
  · rw [cellF_right (by simp; omega)]
    simp
theorem rings_one {k r : Nat} {tb wl : List Int} (hl : 0 < wl.length) (p : Int) (n' : Nat) (hn : n' = 2 * r) (i : Int) :
    cellF (p - (r : Int)) (valsF (img k r tb (cellF p wl [] wl)) (p - (r : Int) - (wl.length : Int)) wl.length) (valsF (img k r tb (cellF p wl [] wl)) (p - (r : Int)) n') (valsF (img k r tb (cellF p wl [] wl)) (p - (r : Int) + (n' : Int)) wl.length) i = cellF p (ringL k r tb wl) [] (ringL k r tb wl) i := by
  have := cellF_image (k := k) (r := r) (tb := tb) (p := p) (L := wl) (C := []) (R := wl) hl hl i
  rw [show ([] : List Int).length + 2 * r = n' by simp; omega] at this
  rw [this, cellF_ring, ringF_image hl]
  refine img_congr fun j _ => ?_
  rw [cellF_ring]
  congr 1
  omega
theorem isrow_ring {k : Nat} {wl : List Int} (k1 : 1 ≤ k) (k4 : k ≤ 4) (hw : IsRing k wl) (h64 : wl.length ≤ 64) (p : Int) (p1 : -4096 ≤ p) (p2 : p ≤ 4096) : IsRow k p wl [] wl :=
  ⟨k1, k4, p1, p2, hw.l1, by omega, hw.l1, by omega, by simp, hw.sym, fun x hx => (by cases hx), hw.sym⟩
theorem isring_image {k r : Nat} {tb wl : List Int} (hI : IsRule k r tb) (hw : IsRing k wl) : IsRing k (ringL k r tb wl) :=
  ⟨by rw [show (ringL k r tb wl).length = wl.length from valsF_len _ _ _]; exact hw.l1, by rw [show (ringL k r tb wl).length = wl.length from valsF_len _ _ _]; exact hw.l2, valsF_mem (img_range hI.sym hI.k1)⟩

abbrev Z7 : Obj := .cells #[.int .i64 0, .slice none 0 0, .slice none 0 0, .slice none 0 0] 26
theorem cell_set4 {w : World} {a : Addr} {v u0 u1 u2 u3 : Value} {g : Nat} (h : w.cell? a = some v) (hne : a.block ≠ g) : ((((w.setCell ⟨g, 0, none⟩ u0).setCell ⟨g, 1, none⟩ u1).setCell ⟨g, 2, none⟩ u2).setCell ⟨g, 3, none⟩ u3).cell? a = some v := by
  rw [World.cell?_of_block (w := w)]
  · exact h
  · rw [Below.heap_setCell _ _ _ _ hne, Below.heap_setCell _ _ _ _ hne, Below.heap_setCell _ _ _ _ hne, Below.heap_setCell _ _ _ _ hne]
theorem drew_alloc7 (w : World) : (w.alloc Z7).drew = w.drew.alloc Z7 := rfl
theorem below_mid {w V w3 : World} (hb : Below V.heap.size V w3) (hV : V = w ∨ V = w.alloc Z7) : Below w.heap.size w w3 ∧ w.heap.size ≤ V.heap.size ∧ (V = w.alloc Z7 → w3.heap[w.heap.size]? = some Z7 ∧ w.heap.size < w3.heap.size) := by
  rcases hV with rfl | rfl
  · refine ⟨hb, Nat.le_refl _, fun e => ?_⟩
    have := congrArg (fun x => x.heap.size) e
    simp at this
  · refine ⟨(balloc (bnil w) _).trans (hb.mono (by simp)), by simp, fun _ => ⟨(hb.block w.heap.size (by simp)).trans (heap_alloc_new w Z7), ?_⟩⟩
    have := hb.size
    simp at this
    omega
theorem z_cells {w : World} {g : Nat} (h : w.heap[g]? = some Z7) : (w.cell? ⟨g, 0, none⟩ = some (.int .i64 0) ∧ w.cell? ⟨g, 1, none⟩ = some (.slice none 0 0) ∧ w.cell? ⟨g, 2, none⟩ = some (.slice none 0 0) ∧ w.cell? ⟨g, 3, none⟩ = some (.slice none 0 0)) ∧ w.frozen? ⟨g, 0, none⟩ = false ∧ w.frozen? ⟨g, 1, none⟩ = false ∧ w.frozen? ⟨g, 2, none⟩ = false ∧ w.frozen? ⟨g, 3, none⟩ = false := by
  simp [World.cell?, World.frozen?, h]

/-- the image's row, in its variable -/
structure After7 (w2 wx : World) (g : Nat) (p : Int) (b1 : Option Addr) (n1 d1 : Nat) (l1 : List Int) (b2 : Option Addr) (n2 d2 : Nat) (l2 : List Int) (b3 : Option Addr) (n3 d3 : Nat) (l3 : List Int) : Prop where
  c0 : wx.cell? ⟨g, 0, none⟩ = some (.int .i64 p)
  c1 : wx.cell? ⟨g, 1, none⟩ = some (.slice b1 n1 d1)
  c2 : wx.cell? ⟨g, 2, none⟩ = some (.slice b2 n2 d2)
  c3 : wx.cell? ⟨g, 3, none⟩ = some (.slice b3 n3 d3)
  lt : g < wx.heap.size
  bel : Below w2.heap.size w2 wx
  q1 : OwI wx w2.heap.size b1 n1 d1 l1
  q2 : OwI wx w2.heap.size b2 n2 d2 l2
  q3 : OwI wx w2.heap.size b3 n3 d3 l3
theorem after_alloc {w2 w5 : World} {base : Nat} {p : Int} {b1 b2 b3 : Option Addr} {n1 n2 n3 d1 d2 d3 : Nat} {l1 l2 l3 : List Int} (hb : Below w2.heap.size w2 w5) (hl : w2.heap.size ≤ base) (h1 : OwI w5 base b1 n1 d1 l1) (h2 : OwI w5 base b2 n2 d2 l2) (h3 : OwI w5 base b3 n3 d3 l3) :
    ∃ wx, w5.alloc (.cells #[.int .i64 p, .slice b1 n1 d1, .slice b2 n2 d2, .slice b3 n3 d3] 26) = wx ∧ After7 w2 wx w5.heap.size p b1 n1 d1 l1 b2 n2 d2 l2 b3 n3 d3 l3 := by
  refine ⟨_, rfl, cell_new rfl rfl, cell_new rfl rfl, cell_new rfl rfl, cell_new rfl rfl, by simp, balloc hb _, (h1.up (balloc (bnil w5) _)).base hl, (h2.up (balloc (bnil w5) _)).base hl, (h3.up (balloc (bnil w5) _)).base hl⟩
theorem after_set {w2 w5 : World} {base g : Nat} {p : Int} {b1 b2 b3 : Option Addr} {n1 n2 n3 d1 d2 d3 : Nat} {l1 l2 l3 : List Int} (hz : w5.heap[g]? = some Z7) (hg : w2.heap.size ≤ g) (hgb : g < base) (hb : Below w2.heap.size w2 w5) (h1 : OwI w5 base b1 n1 d1 l1) (h2 : OwI w5 base b2 n2 d2 l2) (h3 : OwI w5 base b3 n3 d3 l3) :
    ∃ wx, ((((w5.setCell ⟨g, 0, none⟩ (.int .i64 p)).setCell ⟨g, 1, none⟩ (.slice b1 n1 d1)).setCell ⟨g, 2, none⟩ (.slice b2 n2 d2)).setCell ⟨g, 3, none⟩ (.slice b3 n3 d3)) = wx ∧ After7 w2 wx g p b1 n1 d1 l1 b2 n2 d2 l2 b3 n3 d3 l3 := by
  obtain ⟨w6, e, ⟨r0, r1, r2, r3⟩, hk, hs, hbl⟩ := set4 hz (.int .i64 p) (.slice b1 n1 d1) (.slice b2 n2 d2) (.slice b3 n3 d3)
  have hlt : g < w6.heap.size := by
    rw [hs]
    exact (Array.getElem?_eq_some_iff.1 hz).1
  exact ⟨w6, e, r0, r1, r2, r3, hlt, hbl _ _ hg hb, (h1.heap fun b hb => hk b (by omega)).base (by omega), (h2.heap fun b hb => hk b (by omega)).base (by omega), (h3.heap fun b hb => hk b (by omega)).base (by omega)⟩
theorem isrow_image7 {k r : Nat} {tb : List Int} {p : Int} {L C Q : List Int} (hI : IsRule k r tb) (h : IsRow k p L C Q) (h1 : -4096 ≤ p - (r : Int)) (n : Nat) (h2 : n ≤ 16384) (a b c : Int) :
    IsRow k (p - (r : Int)) (valsF (img k r tb (cellF p L C Q)) a L.length) (valsF (img k r tb (cellF p L C Q)) b n) (valsF (img k r tb (cellF p L C Q)) c Q.length) :=
  ⟨h.k1, h.k4, h1, by have := h.p2; omega, by rw [valsF_len]; exact h.l1, by rw [valsF_len]; exact h.l2, by rw [valsF_len]; exact h.r1, by rw [valsF_len]; exact h.r2, by rw [valsF_len]; exact h2,
    valsF_mem (img_range hI.sym hI.k1), valsF_mem (img_range hI.sym hI.k1), valsF_mem (img_range hI.sym hI.k1)⟩

set_option maxHeartbeats 4000000 in
theorem rowring_err (k r : Int) (aT : Option Addr) (nT cT : Nat) (tb : List Int) (aw : Option Addr) (nw cw : Nat) (wl : List Int) (x : Int) (W : World) (R : Nat → Addr) (hG : Glob W R) (hT : SlI W aT nT cT tb) (hW : SlI W aw nw cw wl) (h : ∀ kn rn : Nat, k = kn → r = rn → IsRule kn rn tb → ¬ IsRing kn wl) :
    Calls Tryd.prog 5 #[ruleV k r aT nT cT, .slice aw nw cw, .int .i64 x] W (TrueBelow W) := by
  have HH := Lib.hid h; clear h
  have HG := Lib.hid hG; clear hG
  have HT := Lib.hid hT; clear hT
  have HW := Lib.hid hW; clear hW
  obtain ⟨Wb, hWb⟩ : ∃ Wb, W.alloc (.cells #[.int .i64 k, .int .i64 r, .slice aT nT cT] 24) = Wb := ⟨_, rfl⟩
  have HX : Hid (Wb.cell? ⟨W.heap.size, 0, none⟩ = some (.int .i64 k) ∧ Wb.cell? ⟨W.heap.size, 1, none⟩ = some (.int .i64 r) ∧ Wb.cell? ⟨W.heap.size, 2, none⟩ = some (.slice aT nT cT)) := by rw [← hWb]; exact ⟨by simp, by simp, by simp⟩
  have HSZ : Hid (W.heap.size < Wb.heap.size) := by show _ < _; rw [← hWb]; simp
  have HBX : Hid (Below W.heap.size W Wb) := by rw [← hWb]; exact balloc (bnil W) _
  have HWB := Lib.hid hWb; clear hWb
  go_enter Tryd.func5, Tryd.ntmps5
  go_wp2_with fail
  rw [HWB.out]
  refine (awake07 _ R (HG.out.up HBX.out)).mono ?_; rintro e w1 ⟨rfl, hb1⟩
  have x0 := (hb1.cell (p := ⟨W.heap.size, 0, none⟩) HSZ.out).trans HX.out.1
  have x1 := (hb1.cell (p := ⟨W.heap.size, 1, none⟩) HSZ.out).trans HX.out.2.1
  have x2 := (hb1.cell (p := ⟨W.heap.size, 2, none⟩) HSZ.out).trans HX.out.2.2
  have HB1 := Lib.hid (HBX.out.trans (hb1.mono HBX.out.size))
  clear hb1
  go_wp2_with fail
  refine (ringstep_err k r aT nT cT tb aw nw cw wl _ R (HG.out.up HB1.out) (HT.out.rk.up HB1.out) HT.out.nm (HW.out.rk.up HB1.out) HW.out.nm HH.out).mono ?_; rintro e w2 ⟨g2, rfl, hb2⟩
  go_wp2
  go_ret
  exact ⟨rfl, bstep HB1.out hb2⟩

set_option maxHeartbeats 16000000 in
theorem rowring_ok (k r : Nat) (aT : Option Addr) (nT cT : Nat) (tb : List Int) (aw : Option Addr) (nw cw : Nat) (wl : List Int) (x : Int) (W : World) (R : Nat → Addr) (hG : Glob W R) (hT : SlI W aT nT cT tb) (hW : SlI W aw nw cw wl) (hI : IsRule k r tb) (hw : IsRing k wl) :
    Calls Tryd.prog 5 #[ruleV k r aT nT cT, .slice aw nw cw, .int .i64 x] W (TrueBelow W) := by
  have r3 := hI.r3
  have k1 := hI.k1
  have k4 := hI.k4
  have q1 := Int.lt_tmod_of_pos x (show (0 : Int) < 1000 by omega)
  have q2 := Int.tmod_lt_of_pos x (show (0 : Int) < 1000 by omega)
  obtain ⟨A, hA, hA1, hA2⟩ : ∃ A : Int, x.tmod 1000 % 1000 - 500 = A ∧ -500 ≤ A ∧ A ≤ 500 := ⟨x.tmod 1000 % 1000 - 500, rfl, by omega, by omega⟩
  have hn8 := hW.n8
  have hnn := hW.nn
  have hmx : nw ≤ 9223372036854775807 := hW.nm
  have HLEN := Lib.hid hW.rk.len
  have HI := Lib.hid hI; clear hI
  have HR := Lib.hid hw; clear hw
  have HG := Lib.hid hG; clear hG
  have HT := Lib.hid hT; clear hT
  have HW := Lib.hid hW; clear hW
  obtain ⟨n', hn'⟩ : ∃ n' : Nat, 0 + 2 * r = n' := ⟨_, rfl⟩
  have HN := Lib.hid hn'
  have hn6 : n' ≤ 16384 := by omega
  clear hn'
  obtain ⟨Wb, hWb⟩ : ∃ Wb, W.alloc (.cells #[.int .i64 k, .int .i64 r, .slice aT nT cT] 24) = Wb := ⟨_, rfl⟩
  have HX : Hid (Wb.cell? ⟨W.heap.size, 0, none⟩ = some (.int .i64 k) ∧ Wb.cell? ⟨W.heap.size, 1, none⟩ = some (.int .i64 r) ∧ Wb.cell? ⟨W.heap.size, 2, none⟩ = some (.slice aT nT cT)) := by rw [← hWb]; exact ⟨by simp, by simp, by simp⟩
  have HSZ : Hid (W.heap.size < Wb.heap.size) := by show _ < _; rw [← hWb]; simp
  have HBX : Hid (Below W.heap.size W Wb) := by rw [← hWb]; exact balloc (bnil W) _
  have HWB := Lib.hid hWb; clear hWb
  go_enter Tryd.func5, Tryd.ntmps5
  go_wp2_with fail
  rw [HWB.out]
  refine (awake07 _ R (HG.out.up HBX.out)).mono ?_; rintro e w1 ⟨rfl, hb1⟩
  have x0 := (hb1.cell (p := ⟨W.heap.size, 0, none⟩) HSZ.out).trans HX.out.1
  have x1 := (hb1.cell (p := ⟨W.heap.size, 1, none⟩) HSZ.out).trans HX.out.2.1
  have x2 := (hb1.cell (p := ⟨W.heap.size, 2, none⟩) HSZ.out).trans HX.out.2.2
  have HC1 := Lib.hid hb1
  have HB1 := Lib.hid (HBX.out.trans (hb1.mono HBX.out.size))
  clear hb1
  go_wp2_with fail
  refine (ringstep_ok k r aT nT cT tb aw nw cw wl _ (HT.out.rk.up HB1.out) (HW.out.rk.up HB1.out) HI.out HR.out).mono ?_; rintro e w2 ⟨a2, c2, rfl, ho2, hb2⟩
  have HO2 := Lib.hid ho2
  have HC2 := Lib.hid (HC1.out.trans (hb2.mono HC1.out.size))
  have HB2 := Lib.hid (bstep HB1.out hb2)
  clear ho2 hb2 x0 x1 x2
  have x0 := (HC2.out.cell (p := ⟨W.heap.size, 0, none⟩) HSZ.out).trans HX.out.1
  have x1 := (HC2.out.cell (p := ⟨W.heap.size, 1, none⟩) HSZ.out).trans HX.out.2.1
  have x2 := (HC2.out.cell (p := ⟨W.heap.size, 2, none⟩) HSZ.out).trans HX.out.2.2
  by_cases h64 : 64 < nw
  · go_wp2
    go_ret
    exact ⟨rfl, HB2.out⟩
  · have h64' : nw ≤ 64 := by omega
    have HS2 : Hid (W.heap.size < w2.heap.size) := Nat.lt_of_lt_of_le HSZ.out HC2.out.size
    have HROW := Lib.hid (isrow_ring k1 k4 HR.out (by rw [← HLEN.out]; omega) A (by omega) (by omega))
    have HIM := Lib.hid (isrow_image7 HI.out HROW.out (by omega) n' hn6 (A - (r : Int) - (nw : Int)) (A - (r : Int)) (A - (r : Int) + (n' : Int)))
    have HVR := Lib.hid (isrow_ring k1 k4 (isring_image HI.out HR.out) (by rw [show (ringL k r tb wl).length = wl.length from valsF_len _ _ _, ← HLEN.out]; omega) A (by omega) (by omega))
    have hone := rings_one (k := k) (r := r) (tb := tb) HR.out.l1 A n' (by have := HN.out; omega)
    have him := HIM.out
    rw [← HLEN.out] at hone him
    have HONE := Lib.hid hone
    have HIMG := Lib.hid him
    clear hone him
    go_wp2_with fail
    have HW2 := Lib.hid (HW.out.rk.up (Below.drew HB2.out))
    have HW2a := Lib.hid (HW.out.rk.up (Below.drew (balloc HB2.out Z7)))
    have xd0 : w2.drew.cell? ⟨W.heap.size, 0, none⟩ = some (.int .i64 k) := x0
    have xd1 : w2.drew.cell? ⟨W.heap.size, 1, none⟩ = some (.int .i64 r) := x1
    have xd2 : w2.drew.cell? ⟨W.heap.size, 2, none⟩ = some (.slice aT nT cT) := x2
    go_region_held3 (fun w' => w'.cell? ⟨W.heap.size, 0, none⟩ = some (.int .i64 k) ∧ w'.cell? ⟨W.heap.size, 1, none⟩ = some (.int .i64 r) ∧ w'.cell? ⟨W.heap.size, 2, none⟩ = some (.slice aT nT cT))
      (first | with_reducible exact ⟨x50, x51, x52⟩ | with_reducible exact ⟨cell_al _ x50, cell_al _ x51, cell_al _ x52⟩ | with_reducible exact ⟨x40, x41, x42⟩ | with_reducible exact ⟨cell_al _ x40, cell_al _ x41, cell_al _ x42⟩ | with_reducible exact ⟨x30, x31, x32⟩ | with_reducible exact ⟨cell_al _ x30, cell_al _ x31, cell_al _ x32⟩ | with_reducible exact ⟨xd0, xd1, xd2⟩ | with_reducible exact ⟨cell_al _ xd0, cell_al _ xd1, cell_al _ xd2⟩ | with_reducible exact ⟨cell_set4 x50 hn4, cell_set4 x51 hn4, cell_set4 x52 hn4⟩ | with_reducible exact ⟨cell_set4 x50 hn3, cell_set4 x51 hn3, cell_set4 x52 hn3⟩ | with_reducible exact ⟨cell_set4 x50 hn2, cell_set4 x51 hn2, cell_set4 x52 hn2⟩ | go_keep)
      (first
        | (go_at_call 10; refine (rowstep_ok k r aT nT cT tb A a3 none a4 nw c3 0 0 nw c4 wl [] wl _ R ?_ ?_ HI.out ?_ HROW.out (by omega) (by omega)).mono ?_; (first | with_reducible exact HG4.out | with_reducible exact HG4a.out); (first | with_reducible exact HT4.out | with_reducible exact HT4a.out); (first | with_reducible exact HM4.out | with_reducible exact HM4a.out); rintro e w5 ⟨b1, d1, b2, d2, b3, d3, rfl, ho5⟩; rw [HN.out] at ho5; rw [HN.out]; obtain ⟨hd5, hl5, hz5⟩ := below_mid (w := w4) ho5.bel (by first | exact Or.inl (by with_reducible rfl) | exact Or.inr (by with_reducible rfl) | exact Or.inr (drew_alloc7 _)); have x50 := (hd5.cell (p := ⟨W.heap.size, 0, none⟩) HS4.out).trans x40; have x51 := (hd5.cell (p := ⟨W.heap.size, 1, none⟩) HS4.out).trans x41; have x52 := (hd5.cell (p := ⟨W.heap.size, 2, none⟩) HS4.out).trans x42; have HS5 := Lib.hid (Nat.lt_of_lt_of_le HS4.out hd5.size); (try (have hzz := HZ4; clear hzz; have HZ5 := Lib.hid (And.intro ((hd5.block _ HZ4.out.2).trans HZ4.out.1) (Nat.lt_of_lt_of_le HZ4.out.2 hd5.size)))); (try (with_reducible have HZ5 := Lib.hid (hz5 rfl))); (try (have hzz := HZ5; obtain ⟨⟨c0, c1', c2', c3'⟩, f0, f1, f2, f3⟩ := z_cells hzz.out.1; clear hzz)); have HQ1 := Lib.hid ho5.L; have HQ2 := Lib.hid ho5.C; have HQ3 := Lib.hid ho5.R; have HL5 := Lib.hid hl5; have HD5 := Lib.hid hd5; have HB5 := Lib.hid (bstep HB4.out hd5); have hn4 : W.heap.size ≠ w4.heap.size := Nat.ne_of_lt HS4.out; have hn3 : W.heap.size ≠ w3.heap.size := Nat.ne_of_lt HS3.out; have hn2 : W.heap.size ≠ w2.heap.size := Nat.ne_of_lt HS2.out; clear ho5 hd5 hl5 hz5)
        | (go_at_call 20; (fail_if_success (have q := HD4)); refine (copy_any aw nw cw wl _ ?_ hn8 hnn).mono ?_; (first | with_reducible exact HW3.out | with_reducible exact HW3a.out); rintro e w4 ⟨a4, c4, rfl, ho4, hb4⟩; obtain ⟨hd4, hl4, hz4⟩ := below_mid (w := w3) hb4 (by first | exact Or.inl (by with_reducible rfl) | exact Or.inr (by with_reducible rfl) | exact Or.inr (drew_alloc7 _)); have x40 := (hd4.cell (p := ⟨W.heap.size, 0, none⟩) HS3.out).trans x30; have x41 := (hd4.cell (p := ⟨W.heap.size, 1, none⟩) HS3.out).trans x31; have x42 := (hd4.cell (p := ⟨W.heap.size, 2, none⟩) HS3.out).trans x32; have HS4 := Lib.hid (Nat.lt_of_lt_of_le HS3.out hd4.size); have HO4 := Lib.hid (OwI.base (OwI.mk ho4) hl4); (try (have hzz := HZ3; clear hzz; have HZ4 := Lib.hid (And.intro ((hd4.block _ HZ3.out.2).trans HZ3.out.1) (Nat.lt_of_lt_of_le HZ3.out.2 hd4.size)))); (try (with_reducible have HZ4 := Lib.hid (hz4 rfl))); have HD4 := Lib.hid hd4; have hB4 := bstep HB3.out hd4; have HG4 := Lib.hid (HG.out.up hB4); have HG4a := Lib.hid (HG.out.up (balloc hB4 Z7)); have HT4 := Lib.hid (HT.out.rk.up hB4); have HT4a := Lib.hid (HT.out.rk.up (balloc hB4 Z7)); have hm4 : RowM w4 a3 nw c3 wl none 0 0 [] a4 nw c4 wl := ⟨(HO3.out.up hd4).sl hn8, SlI.nil, (OwI.base (OwI.mk ho4) hl4).sl hn8⟩; have HM4 := Lib.hid hm4; have HM4a := Lib.hid (hm4.up (balloc (bnil w4) Z7)); have HB4 := Lib.hid hB4; clear ho4 hb4 hd4 hl4 hz4 hB4 hm4)
        | (go_at_call 20; (fail_if_success (have q := HD3)); refine (copy_any aw nw cw wl _ ?_ hn8 hnn).mono ?_; (first | with_reducible exact HW2.out | with_reducible exact HW2a.out); rintro e w3 ⟨a3, c3, rfl, ho3, hb3⟩; obtain ⟨hd3, hl3, hz3⟩ := below_mid (w := w2.drew) hb3 (by first | exact Or.inl (by with_reducible rfl) | exact Or.inr (by with_reducible rfl) | exact Or.inr (drew_alloc7 _)); have x30 := (hd3.cell (p := ⟨W.heap.size, 0, none⟩) HS2.out).trans x0; have x31 := (hd3.cell (p := ⟨W.heap.size, 1, none⟩) HS2.out).trans x1; have x32 := (hd3.cell (p := ⟨W.heap.size, 2, none⟩) HS2.out).trans x2; have HS3 := Lib.hid (Nat.lt_of_lt_of_le HS2.out hd3.size); have HO3 := Lib.hid (OwI.base (OwI.mk ho3) hl3); (try ((with_reducible have hzz := hz3 rfl); have HZ3 : Hid (w3.heap[w2.heap.size]? = some Z7 ∧ w2.heap.size < w3.heap.size) := hzz; clear hzz)); (try ((with_reducible have hzz := hz3 (drew_alloc7 _)); have HZ3 : Hid (w3.heap[w2.heap.size]? = some Z7 ∧ w2.heap.size < w3.heap.size) := hzz; clear hzz)); have HD3 := Lib.hid hd3; have hB3 := bstep (Below.drew HB2.out) hd3; have HW3 := Lib.hid (HW.out.rk.up hB3); have HW3a := Lib.hid (HW.out.rk.up (balloc hB3 Z7)); have HB3 := Lib.hid hB3; clear ho3 hb3 hd3 hl3 hz3 hB3))
    all_goals
      have hd25 : Below w2.heap.size w2 w5 := (Below.drew (bnil w2)).trans ((bstep HD3.out (bstep HD4.out HD5.out)).mono (Nat.le_refl _))
      have hl23 : w2.heap.size ≤ w3.heap.size := HD3.out.size
      have hl24 : w2.heap.size ≤ w4.heap.size := Nat.le_trans hl23 HD4.out.size
    rotate_left
    rotate_left
    rotate_left
    rotate_left
    obtain ⟨wx, ex, hx⟩ := after_alloc (p := A - (r : Int)) hd25 (Nat.le_trans hl24 HL5.out) HQ1.out HQ2.out HQ3.out
    obtain ⟨g, hg⟩ : ∃ g, w5.heap.size = g := ⟨_, rfl⟩
    rw [hg] at hx
    rotate_left
    obtain ⟨wx, ex, hx⟩ := after_set (p := A - (r : Int)) HZ5.out.1 hl24 (by simp) hd25 HQ1.out HQ2.out HQ3.out
    obtain ⟨g, hg⟩ : ∃ g, w4.heap.size = g := ⟨_, rfl⟩
    rw [hg] at hx
    rotate_left
    obtain ⟨wx, ex, hx⟩ := after_set (p := A - (r : Int)) HZ5.out.1 hl23 HZ4.out.2 hd25 HQ1.out HQ2.out HQ3.out
    obtain ⟨g, hg⟩ : ∃ g, w3.heap.size = g := ⟨_, rfl⟩
    rw [hg] at hx
    rotate_left
    obtain ⟨wx, ex, hx⟩ := after_set (p := A - (r : Int)) HZ5.out.1 (Nat.le_refl _) HZ4.out.2 hd25 HQ1.out HQ2.out HQ3.out
    obtain ⟨g, hg⟩ : ∃ g, w2.heap.size = g := ⟨_, rfl⟩
    rw [hg] at hx
    all_goals
      rw [ex]
      have HH7 := Lib.hid hx
      have HBX7 := Lib.hid (bstep HB2.out hx.bel)
      have HV7 := Lib.hid (HO2.out.up hx.bel)
      have xx0 := (hx.bel.cell (p := ⟨W.heap.size, 0, none⟩) HS2.out).trans x0
      have xu0 := hx.c0
      have xu1 := hx.c1
      have xu2 := hx.c2
      have xu3 := hx.c3
      have HLT := Lib.hid hx.lt
      have HSX := Lib.hid (Nat.lt_of_lt_of_le HS2.out hx.bel.size)
      clear ex hx hd25 hl23 hl24
      clear x0 x1 x2 xd0 xd1 xd2 x30 x31 x32 x40 x41 x42 x50 x51 x52 hn2 hn3 hn4
      clear HW3 HW3a HG4 HG4a HT4 HT4a HM4 HM4a HQ1 HQ2 HQ3 HW2 HW2a HO3 HO4 HD3 HD4 HD5 HB3 HB4 HB5 HL5
      go_wp2_with fail
      rw [hg]
      clear hg
      have xy0 : wx.drew.cell? ⟨W.heap.size, 0, none⟩ = some (.int .i64 k) := xx0
      have yu0 : wx.drew.cell? ⟨g, 0, none⟩ = some (.int .i64 (A - (r : Int))) := xu0
      have yu1 : wx.drew.cell? ⟨g, 1, none⟩ = some (.slice b1 nw d1) := xu1
      have yu2 : wx.drew.cell? ⟨g, 2, none⟩ = some (.slice b2 n' d2) := xu2
      have yu3 : wx.drew.cell? ⟨g, 3, none⟩ = some (.slice b3 nw d3) := xu3
      have HVD := Lib.hid (HV7.out.up (bnil wx).drew)
      have HBD := Lib.hid (Below.drew HBX7.out)
      have hma : RowM wx.drew b1 nw d1 _ b2 n' d2 _ b3 nw d3 _ := ⟨(HH7.out.q1.up (bnil wx).drew).sl hn8, (HH7.out.q2.up (bnil wx).drew).sl (by omega), (HH7.out.q3.up (bnil wx).drew).sl hn8⟩
      have HMA := Lib.hid hma
      clear hma xx0 xu0 xu1 xu2 xu3
      go_region_held3 (fun w' => w'.cell? ⟨W.heap.size, 0, none⟩ = some (.int .i64 k) ∧ w'.cell? ⟨g, 0, none⟩ = some (.int .i64 (A - (r : Int))) ∧ w'.cell? ⟨g, 1, none⟩ = some (.slice b1 nw d1) ∧ w'.cell? ⟨g, 2, none⟩ = some (.slice b2 n' d2) ∧ w'.cell? ⟨g, 3, none⟩ = some (.slice b3 nw d3))
        (first | with_reducible exact ⟨xy0, yu0, yu1, yu2, yu3⟩ | with_reducible exact ⟨xz0, yz0, yz1, yz2, yz3⟩ | with_reducible exact ⟨xw0, yw0, yw1, yw2, yw3⟩ | go_keep)
        (first
          | (go_at_call 14; refine (same_ok k (A - (r : Int)) b1 b2 b3 nw d1 n' d2 nw d3 _ _ _ A a2 none a7 nw c2 0 0 nw c7 (ringL k r tb wl) [] (ringL k r tb wl) _ R HG7.out HM7.out HIMG.out HM7'.out HVR.out).mono ?_; rintro e w8 ⟨b, rfl, hbe, hb8⟩; have hbt := hbe.2 HONE.out; subst hbt; have xw0 := (hb8.cell (p := ⟨W.heap.size, 0, none⟩) HS7.out).trans xz0; have yw0 := (hb8.cell (p := ⟨g, 0, none⟩) HT7.out).trans yz0; have yw1 := (hb8.cell (p := ⟨g, 1, none⟩) HT7.out).trans yz1; have yw2 := (hb8.cell (p := ⟨g, 2, none⟩) HT7.out).trans yz2; have yw3 := (hb8.cell (p := ⟨g, 3, none⟩) HT7.out).trans yz3; have HB8 := Lib.hid (bstep HB7.out hb8); clear hb8 hbe)
          | (go_at_call 20; refine (copy_any a2 nw c2 (ringL k r tb wl) _ HVD.out.rk hn8 HV7.out.nnc.2.2).mono ?_; rintro e w7 ⟨a7, c7, rfl, ho7, hb7⟩; have xz0 := (hb7.cell (p := ⟨W.heap.size, 0, none⟩) HSX.out).trans xy0; have yz0 := (hb7.cell (p := ⟨g, 0, none⟩) HLT.out).trans yu0; have yz1 := (hb7.cell (p := ⟨g, 1, none⟩) HLT.out).trans yu1; have yz2 := (hb7.cell (p := ⟨g, 2, none⟩) HLT.out).trans yu2; have yz3 := (hb7.cell (p := ⟨g, 3, none⟩) HLT.out).trans yu3; have HS7 := Lib.hid (Nat.lt_of_lt_of_le HSX.out hb7.size); have HT7 := Lib.hid (Nat.lt_of_lt_of_le HLT.out hb7.size); have HB7 := Lib.hid (bstep HBD.out hb7); have HG7 := Lib.hid (HG.out.up HB7.out); have HM7 := Lib.hid (HMA.out.up hb7); have hm7 : RowM w7 a2 nw c2 (ringL k r tb wl) none 0 0 [] a7 nw c7 (ringL k r tb wl) := ⟨(HVD.out.up hb7).sl hn8, SlI.nil, (OwI.mk ho7).sl hn8⟩; have HM7' := Lib.hid hm7; clear ho7 hb7 hm7))
      go_wp2
      go_ret
      exact ⟨rfl, HB8.out⟩

theorem rowring_row (k r : Int) (aT : Option Addr) (nT cT : Nat) (tb : List Int) (aw : Option Addr) (cw : Nat) (wl : List Int) (x : Int) (W : World) (R : Nat → Addr) (hS : Sent W R) (hT : SlI W aT nT cT tb)
    (hR : Rd W aw wl.length 1 (wl.map (Value.int .i64))) (hl : wl.length ≤ cw) (hz : cw * 8 ≤ 140737488351232) (hn : aw = none → cw = 0) (hx : ∀ x ∈ wl, -9223372036854775808 ≤ x ∧ x ≤ 9223372036854775807) :
    Calls Tryd.prog 5 #[ruleV k r aT nT cT, .slice aw wl.length cw, .int .i64 x] W (TrueBelow W) := by
  have hW : SlI W aw wl.length cw wl := ⟨⟨rfl, hR⟩, hl, by omega, by unfold maxLen; omega, hn⟩
  by_cases h : ∃ kn rn : Nat, k = kn ∧ r = rn ∧ IsRule kn rn tb ∧ IsRing kn wl
  · obtain ⟨kn, rn, rfl, rfl, hI, hw⟩ := h
    exact rowring_ok kn rn aT nT cT tb aw wl.length cw wl x W R hS.glob hT hW hI hw
  · exact rowring_err k r aT nT cT tb aw wl.length cw wl x W R hS.glob hT hW fun kn rn e1 e2 h3 h4 => h ⟨kn, rn, e1, e2, h3, h4⟩
end Go.Proofs.YtkgalgmjdfhhbaaDoor
