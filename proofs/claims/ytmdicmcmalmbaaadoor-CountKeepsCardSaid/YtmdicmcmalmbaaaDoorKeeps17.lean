/- The walk of edenlaw17.CountKeeps. -/
import Derived.Test.YtmdicmcmalmbaaaDoorCountF
import Derived.Test.YtmdicmcmalmbaaaDoorApartN
import Derived.Test.YtmdicmcmalmbaaaDoorRawIs
namespace Go.Proofs.YtmdicmcmalmbaaaDoor
open Go.RowKit
set_option linter.unusedVariables false
set_option maxRecDepth 100000

theorem wordsC_len {k N : Nat} {tb wl : List Int} (hN : 0 < N) (hT : N * k ≤ 16384) (hN4 : N ≤ 16384) : (limbs (wordsC k N tb wl)).length ≤ wl.length + 1 + 1 :=
  sum_len hN4 (Nat.le_refl _) (wv_lt hN hT (fun _ _ => by decide) wl.length)
theorem ringsC_len {k N T n : Nat} {p : Nat → Nat → Bool} (hN : 0 < N) (hT : T ≤ 16384) (hN4 : N ≤ 16384) : (limbs (ringsC k N T n p N)).length ≤ n + 1 + 1 :=
  sum_len hN4 (Nat.le_refl _) fun u hu => wv_lt hN hT (fun v _ => by unfold unitE; split <;> decide) n u hu

theorem keeps17_err (k r : Int) (a aw : Option Addr) (n c nw cw : Nat) (l wl : List Int) (W : World) (R : Nat → Addr) (hG : Glob W R) (hR : RK .i64 W a n l) (hW : RK .i64 W aw nw wl) (hm : n ≤ maxLen) (hmw : nw ≤ maxLen) (h : ∀ kn rn : Nat, k = kn → r = rn → IsRule kn rn l → n ≤ 256 → ¬ (nw ≤ 256 ∧ ∀ x ∈ wl, 0 ≤ x ∧ x < k)) :
    Calls Tryd.prog 8 #[ruleV k r a n c, .slice aw nw cw] W (TrueBelow W) := by
  have HH := Lib.hid h; clear h
  have HG := Lib.hid hG; clear hG
  have HR := Lib.hid hR; clear hR
  have HW := Lib.hid hW; clear hW
  obtain ⟨Wb, hWb⟩ : ∃ Wb, W.alloc (.cells #[.int .i64 k, .int .i64 r, .slice a n c] 66) = Wb := ⟨_, rfl⟩
  have HX : Hid (Wb.cell? ⟨W.heap.size, 0, none⟩ = some (.int .i64 k) ∧ Wb.cell? ⟨W.heap.size, 1, none⟩ = some (.int .i64 r) ∧ Wb.cell? ⟨W.heap.size, 2, none⟩ = some (.slice a n c)) := by rw [← hWb]; exact ⟨by simp, by simp, by simp⟩
  have HSZ : Hid (W.heap.size < Wb.heap.size) := by show _ < _; rw [← hWb]; simp
  have HBX : Hid (Below W.heap.size W Wb) := by rw [← hWb]; exact balloc (bnil W) _
  have HWB := Lib.hid hWb; clear hWb
  go_enter Tryd.func8, Tryd.ntmps8
  go_wp2_with fail
  rw [HWB.out]
  refine (awake17 _ R (HG.out.up HBX.out)).mono ?_; rintro e w1 ⟨rfl, hb1⟩
  have x0 := (hb1.cell (p := ⟨W.heap.size, 0, none⟩) HSZ.out).trans HX.out.1
  have x1 := (hb1.cell (p := ⟨W.heap.size, 1, none⟩) HSZ.out).trans HX.out.2.1
  have x2 := (hb1.cell (p := ⟨W.heap.size, 2, none⟩) HSZ.out).trans HX.out.2.2
  have hb1W := HBX.out.trans (hb1.mono HBX.out.size)
  go_wp2_with fail
  refine (countWords_err k r a aw n c nw cw l wl _ R (HG.out.up hb1W) (HR.out.up hb1W) (HW.out.up hb1W) hm hmw HH.out).mono ?_; rintro e w2 ⟨g2, rfl, hb2⟩
  have hb12 := bstep hb1 hb2
  clear x0 x1 x2
  have x0 := (hb12.cell (p := ⟨W.heap.size, 0, none⟩) HSZ.out).trans HX.out.1
  have x1 := (hb12.cell (p := ⟨W.heap.size, 1, none⟩) HSZ.out).trans HX.out.2.1
  have x2 := (hb12.cell (p := ⟨W.heap.size, 2, none⟩) HSZ.out).trans HX.out.2.2
  have hb2W := bstep hb1W hb2
  go_wp2_with fail
  refine (countWords_err k r a aw n c nw cw l wl _ R (HG.out.up hb2W) (HR.out.up hb2W) (HW.out.up hb2W) hm hmw HH.out).mono ?_; rintro e w3 ⟨g3, rfl, hb3⟩
  go_wp2
  go_ret
  exact ⟨rfl, bstep hb2W hb3⟩

set_option maxHeartbeats 8000000 in
theorem keeps17_ok (k r : Nat) (a aw : Option Addr) (n c nw cw : Nat) (l wl : List Int) (W : World) (R : Nat → Addr) (hG : Glob W R) (hR : RK .i64 W a n l) (hW : RK .i64 W aw nw wl) (h : IsRule k r l) (hn : n ≤ 256) (hnc : n ≤ c) (hcm : c ≤ maxLen) (hnw : nw ≤ 256) (hs : ∀ x ∈ wl, 0 ≤ x ∧ x < (k : Int)) :
    Calls Tryd.prog 8 #[ruleV k r a n c, .slice aw nw cw] W (TrueBelow W) := by
  have k1 := h.k1
  have hnod := h.nodes hR.len
  have HND := Lib.hid hnod; clear hnod
  have H := Lib.hid h; clear h
  have HS := Lib.hid hs; clear hs
  have HG := Lib.hid hG; clear hG
  have HR := Lib.hid hR; clear hR
  have HW := Lib.hid hW; clear hW
  obtain ⟨Wb, hWb⟩ : ∃ Wb, W.alloc (.cells #[.int .i64 k, .int .i64 r, .slice a n c] 66) = Wb := ⟨_, rfl⟩
  have HX : Hid (Wb.cell? ⟨W.heap.size, 0, none⟩ = some (.int .i64 k) ∧ Wb.cell? ⟨W.heap.size, 1, none⟩ = some (.int .i64 r) ∧ Wb.cell? ⟨W.heap.size, 2, none⟩ = some (.slice a n c)) := by rw [← hWb]; exact ⟨by simp, by simp, by simp⟩
  have HSZ : Hid (W.heap.size < Wb.heap.size) := by show _ < _; rw [← hWb]; simp
  have HBX : Hid (Below W.heap.size W Wb) := by rw [← hWb]; exact balloc (bnil W) _
  have HWB := Lib.hid hWb; clear hWb
  go_enter Tryd.func8, Tryd.ntmps8
  go_wp2_with fail
  rw [HWB.out]
  refine (awake17 _ R (HG.out.up HBX.out)).mono ?_; rintro e w1 ⟨rfl, hb1⟩
  have x0 := (hb1.cell (p := ⟨W.heap.size, 0, none⟩) HSZ.out).trans HX.out.1
  have x1 := (hb1.cell (p := ⟨W.heap.size, 1, none⟩) HSZ.out).trans HX.out.2.1
  have x2 := (hb1.cell (p := ⟨W.heap.size, 2, none⟩) HSZ.out).trans HX.out.2.2
  have HC1 := Lib.hid hb1
  have hb1W := HBX.out.trans (hb1.mono HBX.out.size)
  have HB1 := Lib.hid hb1W
  clear hb1 hb1W
  go_wp2_with fail
  refine (countWords_ok k r a aw n c nw cw l wl _ R (HG.out.up HB1.out) (HR.out.up HB1.out) (HW.out.up HB1.out) H.out hn hnc hcm hnw HS.out).mono ?_; rintro e w2 ⟨a2, n2, c2, rfl, ho2, hb2⟩
  have HO2 := Lib.hid ho2
  have HC2 := Lib.hid (bstep HC1.out hb2)
  have HB2 := Lib.hid (bstep HB1.out hb2)
  clear x0 x1 x2 ho2
  have x0 := (HC2.out.cell (p := ⟨W.heap.size, 0, none⟩) HSZ.out).trans HX.out.1
  have x1 := (HC2.out.cell (p := ⟨W.heap.size, 1, none⟩) HSZ.out).trans HX.out.2.1
  have x2 := (HC2.out.cell (p := ⟨W.heap.size, 2, none⟩) HSZ.out).trans HX.out.2.2
  have D2 := Lib.hid hb2
  clear hb2
  go_wp2_with fail
  refine (countWords_ok k r a aw n c nw cw l wl _ R (HG.out.up HB2.out) (HR.out.up HB2.out) (HW.out.up HB2.out) H.out hn hnc hcm hnw HS.out).mono ?_; rintro e w3 ⟨a3, n3, c3, rfl, ho3, hb3⟩
  have HO3 := Lib.hid ho3
  have HC3 := Lib.hid (bstep HC2.out hb3)
  have HB3 := Lib.hid (bstep HB2.out hb3)
  clear x0 x1 x2 ho3
  have x0 := (HC3.out.cell (p := ⟨W.heap.size, 0, none⟩) HSZ.out).trans HX.out.1
  have x1 := (HC3.out.cell (p := ⟨W.heap.size, 1, none⟩) HSZ.out).trans HX.out.2.1
  have x2 := (HC3.out.cell (p := ⟨W.heap.size, 2, none⟩) HSZ.out).trans HX.out.2.2
  have D3 := Lib.hid hb3
  clear hb3
  have hcm' : c ≤ 9223372036854775807 := hcm
  by_cases h64 : 64 < n
  · go_wp2
    go_ret
    exact ⟨rfl, HB3.out⟩
  · go_wp2_with fail
    refine (countRings_ok k r a _ n c 3 3 l [0, 0, 0] _ R (HG.out.up (balloc HB3.out _)) (HR.out.up (balloc HB3.out _)) (rk_new (l := [0, 0, 0]) rfl rfl rfl) H.out hn hnc hcm (by decide) (by decide) (fun x hx => by simp at hx; omega)).mono ?_; rintro e w4 ⟨a4, n4, c4, rfl, ho4, hb4⟩
    have hb4' := (balloc (bnil w3) (.cells #[.int .i64 0, .int .i64 0, .int .i64 0] 3)).trans (hb4.mono (by simp))
    have HO4 := Lib.hid (OwN.base (b' := w3.heap.size) ho4 (by simp))
    have HC4 := Lib.hid (bstep HC3.out hb4')
    have HB4 := Lib.hid (bstep HB3.out hb4')
    clear x0 x1 x2 ho4 hb4
    have x0 := (HC4.out.cell (p := ⟨W.heap.size, 0, none⟩) HSZ.out).trans HX.out.1
    have x1 := (HC4.out.cell (p := ⟨W.heap.size, 1, none⟩) HSZ.out).trans HX.out.2.1
    have x2 := (HC4.out.cell (p := ⟨W.heap.size, 2, none⟩) HSZ.out).trans HX.out.2.2
    have D4 := Lib.hid hb4'
    clear hb4'
    go_wp2_with fail
    refine (countFixed_ok k r a n c 5 l _ (HR.out.up HB4.out) H.out hn hnc hcm (by decide) (by decide)).mono ?_; rintro e w5 ⟨a5, n5, c5, rfl, ho5, hb5⟩
    have HO5 := Lib.hid ho5
    have HC5 := Lib.hid (bstep HC4.out hb5)
    have HB5 := Lib.hid (bstep HB4.out hb5)
    clear x0 x1 x2 ho5
    have x0 := (HC5.out.cell (p := ⟨W.heap.size, 0, none⟩) HSZ.out).trans HX.out.1
    have x1 := (HC5.out.cell (p := ⟨W.heap.size, 1, none⟩) HSZ.out).trans HX.out.2.1
    have x2 := (HC5.out.cell (p := ⟨W.heap.size, 2, none⟩) HSZ.out).trans HX.out.2.2
    have D5 := Lib.hid hb5
    clear hb5
    go_wp2_with fail
    refine (countFixed_ok k r a n c 5 l _ (HR.out.up HB5.out) H.out hn hnc hcm (by decide) (by decide)).mono ?_; rintro e w6 ⟨a6, n6, c6, rfl, ho6, hb6⟩
    have HO6 := Lib.hid ho6
    have HB6 := Lib.hid (bstep HB5.out hb6)
    have D6 := Lib.hid hb6
    clear x0 x1 x2 ho6 hb6
    -- all five in the last world
    have s2 := D2.out.size
    have s3 := D3.out.size
    have s4 := D4.out.size
    have s5 := D5.out.size
    have s6 := D6.out.size
    have P2 := Lib.hid (HO2.out.up (bstep (bstep (bstep D3.out D4.out) D5.out) D6.out))
    have P3 := Lib.hid (HO3.out.up (bstep (bstep D4.out D5.out) D6.out))
    have P4 := Lib.hid (HO4.out.up (bstep D5.out D6.out))
    have P5 := Lib.hid (HO5.out.up D6.out)
    go_wp2_with fail
    refine (nats_eq a2 a3 n2 n3 c2 c3 _ _ P2.out.ns.nr P3.out.ns.nr (Nat.le_trans P2.out.ns.le P2.out.ns.cm)).mono ?_; rintro e w7 ⟨rfl, hb7⟩
    go_wp2_with fail
    refine (nats_eq a5 a6 n5 n6 c5 c6 _ _ (P5.out.ns.nr.up hb7) (HO6.out.ns.nr.up hb7) (Nat.le_trans P5.out.ns.le P5.out.ns.cm)).mono ?_; rintro e w8 ⟨rfl, hb8⟩
    have hb78 := bstep hb7 hb8
    have HB8 := Lib.hid (bstep HB6.out hb78)
    have Q2 := Lib.hid (P2.out.up hb78)
    have Q3 := Lib.hid (P3.out.up hb78)
    have Q4 := Lib.hid (P4.out.up hb78)
    have Q5 := Lib.hid (P5.out.up hb78)
    have Q6 := Lib.hid (HO6.out.up hb78)
    have s8 := hb78.size
    have hpair : [((a2, n2, c2) : It), (a3, n3, c3), (a4, n4, c4), (a5, n5, c5), (a6, n6, c6)].Pairwise fun x y => Ap (ApN.IV x) (ApN.IV y) := by
      have p23 := ap_after HO2.out.own HO3.out.own (Nat.le_refl _)
      have p24 := ap_after HO2.out.own HO4.out.own s3
      have p25 := ap_after HO2.out.own HO5.out.own (Nat.le_trans s3 s4)
      have p26 := ap_after HO2.out.own HO6.out.own (Nat.le_trans (Nat.le_trans s3 s4) s5)
      have p34 := ap_after HO3.out.own HO4.out.own (Nat.le_refl _)
      have p35 := ap_after HO3.out.own HO5.out.own s4
      have p36 := ap_after HO3.out.own HO6.out.own (Nat.le_trans s4 s5)
      have p45 := ap_after HO4.out.own HO5.out.own (Nat.le_refl _)
      have p46 := ap_after HO4.out.own HO6.out.own s5
      have p56 := ap_after HO5.out.own HO6.out.own (Nat.le_refl _)
      refine .cons (fun y hy => ?_) (.cons (fun y hy => ?_) (.cons (fun y hy => ?_) (.cons (fun y hy => ?_) (.cons (fun y hy => ?_) .nil))))
      · simp only [List.mem_cons, List.not_mem_nil, or_false] at hy
        rcases hy with rfl | rfl | rfl | rfl
        · exact p23
        · exact p24
        · exact p25
        · exact p26
      · simp only [List.mem_cons, List.not_mem_nil, or_false] at hy
        rcases hy with rfl | rfl | rfl
        · exact p34
        · exact p35
        · exact p36
      · simp only [List.mem_cons, List.not_mem_nil, or_false] at hy
        rcases hy with rfl | rfl
        · exact p45
        · exact p46
      · simp only [List.mem_cons, List.not_mem_nil, or_false] at hy
        rcases hy with rfl
        exact p56
      · cases hy
    have HPAIR := Lib.hid hpair
    have hN1 : k ^ (2 * r) ≤ 16384 := Nat.le_trans (Nat.le_mul_of_pos_right _ k1) (by rw [← HND.out.1]; exact HND.out.2.2)
    have hNk : k ^ (2 * r) * k ≤ 16384 := by rw [← HND.out.1]; exact HND.out.2.2
    have l2 := HO2.out.ns.small (wordsC_len HND.out.2.1 hNk hN1)
    have l3 := HO3.out.ns.small (wordsC_len HND.out.2.1 hNk hN1)
    have l4 := HO4.out.ns.small (ringsC_len HND.out.2.1 HND.out.2.2 hN1)
    have l5 := HO5.out.ns.small (ringsC_len HND.out.2.1 HND.out.2.2 hN1)
    have l6 := HO6.out.ns.small (ringsC_len HND.out.2.1 HND.out.2.2 hN1)
    simp only at l2 l3 l4 l5 l6
    have hwl : wl.length ≤ 256 := by have := HW.out.len; omega
    have t1 := HB1.out.size
    have hown : ∀ x ∈ [((a2, n2, c2) : It), (a3, n3, c3), (a4, n4, c4), (a5, n5, c5), (a6, n6, c6)], (∃ xs, w8.ownsRow W.heap.size 75 1 (ApN.IV x) x.2.1 xs) ∧ x.2.1 * 8 ≤ 140737488350000 := by
      intro x hx
      simp only [List.mem_cons, List.not_mem_nil, or_false] at hx
      rcases hx with rfl | rfl | rfl | rfl | rfl
      · exact ⟨⟨_, owns_base Q2.out.own t1⟩, by show n2 * 8 ≤ _; omega⟩
      · exact ⟨⟨_, owns_base Q3.out.own (Nat.le_trans t1 s2)⟩, by show n3 * 8 ≤ _; omega⟩
      · exact ⟨⟨_, owns_base Q4.out.own (Nat.le_trans (Nat.le_trans t1 s2) s3)⟩, by show n4 * 8 ≤ _; omega⟩
      · exact ⟨⟨_, owns_base Q5.out.own (Nat.le_trans (Nat.le_trans (Nat.le_trans t1 s2) s3) s4)⟩, by show n5 * 8 ≤ _; omega⟩
      · exact ⟨⟨_, owns_base Q6.out.own (Nat.le_trans (Nat.le_trans (Nat.le_trans (Nat.le_trans t1 s2) s3) s4) s5)⟩, by show n6 * 8 ≤ _; omega⟩
    have HOWN := Lib.hid hown
    clear hpair hown l2 l3 l4 l5 l6 hwl hN1 hNk s2 s3 s4 s5 s6 s8 t1 hb78 hb7 hb8
    go_wp2_with fail
    refine (ApN.apart_lit _ W.heap.size 5 5 [((a2, n2, c2) : It), (a3, n3, c3), (a4, n4, c4), (a5, n5, c5), (a6, n6, c6)] w8 _ 39 rfl rfl rfl HB8.out.size HPAIR.out (fun x hx => (HOWN.out x hx).1) (fun x hx => (HOWN.out x hx).2) (by simp)).mono ?_; rintro e w9 ⟨rfl, hb9, _⟩
    go_wp2
    go_ret
    exact ⟨rfl, HB8.out.trans hb9⟩

theorem keeps17_row (k r : Int) (a : Option Addr) (n c : Nat) (l : List Int) (aw : Option Addr) (cw : Nat) (wl : List Int) (W : World) (R : Nat → Addr) (hS : Sent W R) (hR : RK .i64 W a n l) (hnc : n ≤ c) (hcm : c ≤ maxLen)
    (hR2 : Rd W aw wl.length 1 (wl.map (Value.int .i64))) (hl2 : wl.length ≤ cw) (hz2 : cw * 8 ≤ 140737488351232) (hn2 : aw = none → cw = 0) (hx2 : ∀ x ∈ wl, -9223372036854775808 ≤ x ∧ x ≤ 9223372036854775807) :
    Calls Tryd.prog 8 #[ruleV k r a n c, .slice aw wl.length cw] W (TrueBelow W) := by
  have hW : RK .i64 W aw wl.length wl := ⟨rfl, hR2⟩
  by_cases h : ∃ kn rn : Nat, k = kn ∧ r = rn ∧ IsRule kn rn l ∧ n ≤ 256 ∧ wl.length ≤ 256 ∧ ∀ x ∈ wl, 0 ≤ x ∧ x < (kn : Int)
  · obtain ⟨kn, rn, rfl, rfl, hI, hn, hw, hs⟩ := h
    exact keeps17_ok kn rn a aw n c wl.length cw l wl W R hS.glob hR hW hI hn hnc hcm hw hs
  · exact keeps17_err k r a aw n c wl.length cw l wl W R hS.glob hR hW (Nat.le_trans hnc hcm) (by unfold maxLen; omega) fun kn rn h1 h2 h3 h4 h5 => h ⟨kn, rn, h1, h2, h3, h4, h5.1, by rw [← h1]; exact h5.2⟩
end Go.Proofs.YtmdicmcmalmbaaaDoor
