/- judge: a look into the table, and whether three columns make a fourth. -/
import Derived.Test.YtocfkmdoalhjmaaDoorPlaA
import Derived.Test.YtocfkmdoalhjmaaDoorPlaB
import Derived.Test.YtocfkmdoalhjmaaDoorBitI
import Derived.Test.YtocfkmdoalhjmaaDoorTrkP
import Derived.Deep.QuietTactic
import Derived.BigQuiet
import Derived.Deep.RegionHeld3
namespace Go.Proofs.YtocfkmdoalhjmaaDoor
open Go.RowKit
set_option linter.unusedVariables false
set_option maxRecDepth 100000

/-- a column's bit -/
def cb (a k : Nat) : Nat := a / 2 ^ k % 2
/-- the window's number at a line of three columns, line by line -/
def wixT (a b c y : Nat) : Nat → Nat
  | 0 => 0
  | i + 1 => (wixT a b c y i * 8 ||| cb a (y + i) * 4) ||| cb b (y + i) * 2 ||| cb c (y + i)
theorem cb_le (a k : Nat) : cb a k ≤ 1 := by unfold cb; omega
theorem wixT_lt (a b c y : Nat) : ∀ i, wixT a b c y i < 2 ^ (3 * i)
  | 0 => by simp [wixT]
  | i + 1 => by
    have ih := wixT_lt a b c y i
    have e : 2 ^ (3 * (i + 1)) = 2 ^ (3 * i) * 8 := by rw [show 3 * (i + 1) = 3 * i + 3 by omega, Nat.pow_add]
    have h1 := cb_le a (y + i)
    have h2 := cb_le b (y + i)
    have h3 := cb_le c (y + i)
    have hp : 1 ≤ 2 ^ (3 * i) := Nat.one_le_two_pow
    unfold wixT
    refine Nat.or_lt_two_pow (Nat.or_lt_two_pow (Nat.or_lt_two_pow ?_ ?_) ?_) ?_ <;> omega
def symF (t : List Int) (a b c y : Nat) : Int := t.getD (wixT a b c y 3) 0
/-- how many looks, and whether the columns make it: k lines to come, the first of them y -/
def looksF (t : List Int) (a b c want : Nat) : Nat → Nat → Nat × Bool
  | 0, y => (y, true)
  | k + 1, y => if symF t a b c y = ((cb want y : Nat) : Int) then looksF t a b c want k (y + 1) else (y + 1, false)
theorem looksF_le (t : List Int) (a b c want : Nat) : ∀ k y, y ≤ (looksF t a b c want k y).1 ∧ (looksF t a b c want k y).1 ≤ y + k
  | 0, y => by simp [looksF]
  | k + 1, y => by
    unfold looksF
    split
    · have := looksF_le t a b c want k (y + 1); omega
    · show y ≤ y + 1 ∧ y + 1 ≤ y + (k + 1); omega
/-- the table with its counter, in a block -/
abbrev TB (w : World) (g : Nat) (aT : Option Addr) (nT cT : Nat) (k : Nat) : Prop := w.heap[g]? = some (.cells #[.slice aT nT cT, .int .i64 (k : Nat)] 137)
theorem tb_cells {w : World} {g : Nat} {aT : Option Addr} {nT cT k : Nat} (h : TB w g aT nT cT k) : (w.cell? ⟨g, 0, none⟩ = some (.slice aT nT cT) ∧ w.cell? ⟨g, 1, none⟩ = some (.int .i64 (k : Nat))) ∧ w.frozen? ⟨g, 0, none⟩ = false ∧ w.frozen? ⟨g, 1, none⟩ = false := by
  have h2 : w.heap[g]? = _ := h
  simp [World.cell?, World.frozen?, h2]
theorem TB.set {w : World} {g : Nat} {aT : Option Addr} {nT cT k : Nat} (h : TB w g aT nT cT k) (u : Nat) : TB (w.setCell ⟨g, 1, none⟩ (.int .i64 (u : Nat))) g aT nT cT u := by
  have h2 : w.heap[g]? = _ := h
  show (w.setCell ⟨g, 1, none⟩ (.int .i64 (u : Nat))).heap[g]? = _
  simp [World.setCell, Array.getElem?_modify, h2]
theorem grown_refl (w : World) (r : Option Nat) : w.grownBy w r := ⟨rfl, rfl, rfl, Nat.le_refl _, fun _ _ _ => rfl⟩
theorem grown_trans {a b c : World} {r : Option Nat} (h : a.grownBy b r) (k : b.grownBy c r) : a.grownBy c r :=
  ⟨k.os.trans h.os, k.tape.trans h.tape, k.output.trans h.output, Nat.le_trans h.size k.size, fun j hj hne => (k.block j (Nat.lt_of_lt_of_le hj h.size) hne).trans (h.block j hj hne)⟩
theorem grown_drew {w w' : World} {r : Option Nat} (h : w.grownBy w' r) : w.grownBy w'.drew r := ⟨h.os, h.tape, h.output, h.size, h.block⟩
theorem grown_drewN {w w' : World} {r : Option Nat} (n : Nat) (h : w.grownBy w' r) : w.grownBy (w'.drewN n) r := ⟨h.os, h.tape, h.output, h.size, h.block⟩
/-- what lies elsewhere reads the same -/
theorem grown_cell {w w' : World} {g : Nat} {p : Addr} {v : Value} (h : w.grownBy w' (some g)) (hne : p.block ≠ g) (hc : w.cell? p = some v) : w'.cell? p = some v :=
  (World.cell?_of_block (h.block _ (World.block_lt_of_cell? _ _ hc) (fun e => hne (by cases e; rfl)))).trans hc
theorem grown_set (w : World) (g j : Nat) (u : Value) : w.grownBy (w.setCell ⟨g, j, none⟩ u) (some g) :=
  ⟨rfl, rfl, rfl, by simp [World.setCell], fun k _ hne => Below.heap_setCell w ⟨g, j, none⟩ u k (fun e => hne (by rw [e]))⟩
/-- the same memory -/
def HpEq (a b : World) : Prop := ∀ j : Nat, b.heap[j]? = a.heap[j]?
theorem HpEq.cell {a b : World} {p : Addr} {v : Value} (h : HpEq a b) (hc : a.cell? p = some v) : b.cell? p = some v := (World.cell?_of_block (h _)).trans hc
set_option maxHeartbeats 8000000 in
theorem jat_any (g : Nat) (ab ao cT : Nat) (t : List Int) (k y a b c : Nat) (W : World) (hne : ab ≠ g) (hT : RK .i64 W (some ⟨ab, ao, none⟩) 512 t) (hz : TB W g (some ⟨ab, ao, none⟩) 512 cT k) (hk : k < 1000000000) (hy : y ≤ 8) (ha : a < 1024) (hb : b < 1024) (hc : c < 1024) :
    Calls Tryd.prog 93 #[.pointer (some ⟨g, 0, none⟩), .int .i64 (y : Nat), .int .i64 (a : Nat), .int .i64 (b : Nat), .int .i64 (c : Nat)] W fun e w' => e = .returned (.int .i64 (symF t a b c y)) ∧ TB w' g (some ⟨ab, ao, none⟩) 512 cT (k + 1) ∧ W.grownBy w' (some g) := by
  obtain ⟨ab2, ao2, hab0, _, hcell⟩ := hT.addr (by omega)
  cases hab0
  obtain ⟨⟨u0, u1⟩, f0, f1⟩ := tb_cells hz
  have hz2 := hz.set (k + 1)
  obtain ⟨W2, hW2⟩ : ∃ W2, W.setCell ⟨g, 1, none⟩ (.int .i64 ((k + 1 : Nat) : Int)) = W2 := ⟨_, rfl⟩
  rw [hW2] at hz2
  have hg2 : W.grownBy W2 (some g) := by rw [← hW2]; exact grown_set W g 1 _
  have HZ2 := Lib.hid hz2
  have HG2 := Lib.hid hg2
  have HC : Hid (∀ j, j < 512 → W2.cell? ⟨ab, ao + j, none⟩ = some (.int .i64 (t.getD j 0))) := fun j hj => grown_cell (p := ⟨ab, ao + j, none⟩) hg2 hne (hcell j hj)
  have HW2 : Hid (W.setCell ⟨g, 1, none⟩ (.int .i64 ((k : Int) + 1)) = W2) := by show _ = _; rw [← hW2]; rfl
  have hkI : IntKind.i64.wrap ((k : Int) + 1) = (k : Int) + 1 := IntWalk.i64_in _ (by omega)
  clear hcell hz hz2 hg2 hW2 hT
  go_enter Tryd.func93, Tryd.ntmps93
  go_wp2_with fail
  rw [HW2.out]
  go_loopw [11, 20] (fun nx ix wr => ∃ i : Nat, i ≤ 3 ∧ ix = .int .i64 (i : Nat) ∧ nx = .int .i64 (wixT a b c y i : Nat) ∧ HpEq W2 wr ∧ W.grownBy wr (some g)) (fun _ ix _ => 3 - (intOf ix).toNat)
  case atStart => exact ⟨0, by omega, rfl, rfl, fun _ => rfl, HG2.out⟩
  case round =>
    obtain ⟨i, hi, rfl, rfl, hq, hgr⟩ := hrel
    have HQ := Lib.hid hq
    have HGR := Lib.hid hgr
    clear hq hgr
    have hwl := wixT_lt a b c y i
    by_cases hi3 : i < 3
    · have hw64 : wixT a b c y i < 512 := by
        have h1 : 2 ^ (3 * i) ≤ 2 ^ 9 := Nat.pow_le_pow_right (by omega) (by omega)
        have h2 : (2 : Nat) ^ 9 = 512 := by decide
        omega
      have HN : Hid (wixT a b c y (i + 1) = (wixT a b c y i * 8 ||| cb a (y + i) * 4) ||| cb b (y + i) * 2 ||| cb c (y + i)) := rfl
      generalize wixT a b c y i = n at *
      obtain ⟨k2, hk2⟩ : ∃ k2, y + i = k2 := ⟨_, rfl⟩
      rw [hk2] at HN
      have hkI2 : (y : Int) + (i : Int) = (k2 : Int) := by omega
      have hkw : IntKind.i64.wrap (k2 : Int) = (k2 : Int) := IntWalk.i64_in _ (by omega)
      have k0 : (0 : Int) ≤ (k2 : Int) := by omega
      have k64 : (k2 : Int) ≤ 64 := by omega
      obtain ⟨A1, hA1⟩ : ∃ A1, a / 2 ^ k2 = A1 := ⟨_, rfl⟩
      obtain ⟨B1, hB1⟩ : ∃ B1, b / 2 ^ k2 = B1 := ⟨_, rfl⟩
      obtain ⟨C1, hC1⟩ : ∃ C1, c / 2 ^ k2 = C1 := ⟨_, rfl⟩
      have hAI : (a : Int) / 2 ^ k2 = (A1 : Int) := by rw [← hA1, Int.natCast_ediv, Int.natCast_pow]; rfl
      have hBI : (b : Int) / 2 ^ k2 = (B1 : Int) := by rw [← hB1, Int.natCast_ediv, Int.natCast_pow]; rfl
      have hCI : (c : Int) / 2 ^ k2 = (C1 : Int) := by rw [← hC1, Int.natCast_ediv, Int.natCast_pow]; rfl
      have hA2 : A1 < 1024 := by rw [← hA1]; exact Nat.lt_of_le_of_lt (Nat.div_le_self _ _) ha
      have hB2 : B1 < 1024 := by rw [← hB1]; exact Nat.lt_of_le_of_lt (Nat.div_le_self _ _) hb
      have hC2 : C1 < 1024 := by rw [← hC1]; exact Nat.lt_of_le_of_lt (Nat.div_le_self _ _) hc
      have haa := and1_i64 (a := A1) (by omega)
      have hbb := and1_i64 (a := B1) (by omega)
      have hcc := and1_i64 (a := C1) (by omega)
      have ep : cb a k2 = A1 % 2 := by unfold cb; rw [hA1]
      have eq : cb b k2 = B1 % 2 := by unfold cb; rw [hB1]
      have er : cb c k2 = C1 % 2 := by unfold cb; rw [hC1]
      rw [ep, eq, er] at HN
      have lp : A1 % 2 ≤ 1 := by omega
      have lq : B1 % 2 ≤ 1 := by omega
      have lr : C1 % 2 ≤ 1 := by omega
      generalize A1 % 2 = p at *
      generalize B1 % 2 = q at *
      generalize C1 % 2 = r at *
      obtain ⟨N8, hN8⟩ : ∃ N8, n * 8 = N8 := ⟨_, rfl⟩
      obtain ⟨P4, hP4⟩ : ∃ P4, p * 4 = P4 := ⟨_, rfl⟩
      obtain ⟨Q2, hQ2⟩ : ∃ Q2, q * 2 = Q2 := ⟨_, rfl⟩
      rw [hN8, hP4, hQ2] at HN
      have n8 : (n : Int) * 8 = (N8 : Int) := by omega
      have n8b : (n : Int) * 2 ^ 3 = (N8 : Int) := n8
      have p4 : (p : Int) * 4 = (P4 : Int) := by omega
      have p4b : (p : Int) * 2 ^ 2 = (P4 : Int) := p4
      have q2 : (q : Int) * 2 = (Q2 : Int) := by omega
      have q2b : (q : Int) * 2 ^ 1 = (Q2 : Int) := q2
      have wN : IntKind.i64.wrap (N8 : Int) = (N8 : Int) := IntWalk.i64_in _ (by omega)
      have wP : IntKind.i64.wrap (P4 : Int) = (P4 : Int) := IntWalk.i64_in _ (by omega)
      have wQ : IntKind.i64.wrap (Q2 : Int) = (Q2 : Int) := IntWalk.i64_in _ (by omega)
      have bN : N8 < 2 ^ 12 := by have : (2 : Nat) ^ 12 = 4096 := by decide
                                  omega
      have bP : P4 < 2 ^ 12 := by have : (2 : Nat) ^ 12 = 4096 := by decide
                                  omega
      have bQ : Q2 < 2 ^ 12 := by have : (2 : Nat) ^ 12 = 4096 := by decide
                                  omega
      have o1 := or_i64 (a := N8) (b := P4) (by omega) (by omega)
      have l1 := Nat.or_lt_two_pow bN bP
      obtain ⟨M1, hM1⟩ : ∃ M1, N8 ||| P4 = M1 := ⟨_, rfl⟩
      rw [hM1] at o1 l1 HN
      have o2 := or_i64 (a := M1) (b := Q2) (by omega) (by omega)
      have l2 := Nat.or_lt_two_pow l1 bQ
      obtain ⟨M2, hM2⟩ : ∃ M2, M1 ||| Q2 = M2 := ⟨_, rfl⟩
      rw [hM2] at o2 l2 HN
      have o3 := or_i64 (a := M2) (b := r) (by omega) (by omega)
      obtain ⟨M3, hM3⟩ : ∃ M3, M2 ||| r = M3 := ⟨_, rfl⟩
      rw [hM3] at o3 HN
      clear hk2 hA1 hB1 hC1 ep eq er hN8 hP4 hQ2 hM1 hM2 hM3 hwl hw64 bN bP bQ l1 l2 lp lq lr
      go_wp2_with fail
      go_quiet (fail)
      have HG5 := Lib.hid (grown_drewN nq HGR.out)
      have HQ5 : Hid (HpEq W2 (wr.drewN nq)) := HQ.out
      go_wp2
      go_roundw
      case rel => exact ⟨i + 1, by omega, by go_num, by rw [HN.out], HQ5.out, HG5.out⟩
      case measure => simp [intOf]; omega
    · obtain rfl : i = 3 := by omega
      have h9 : wixT a b c y 3 < 512 := hwl
      have hy0 : symF t a b c y = t.getD (wixT a b c y 3) 0 := rfl
      have z0 := HQ.out.cell (HC.out _ h9)
      have zt : TB wr g (some ⟨ab, ao, none⟩) 512 cT (k + 1) := (HQ.out g).trans HZ2.out
      obtain ⟨⟨v0, v1⟩, _, _⟩ := tb_cells zt
      have ZT := Lib.hid zt
      have HY := Lib.hid hy0
      generalize wixT a b c y 3 = n at *
      have n0 : (0 : Int) ≤ (n : Int) := by omega
      have n1 : (n : Int) < 512 := by omega
      clear zt hy0 hwl
      go_wp2
      go_ret
      rw [HY.out]
      exact ⟨rfl, ZT.out, HGR.out⟩
theorem rk_grown {kd : IntKind} {W w' : World} {g ab ao n : Nat} {t : List Int} (h : RK kd W (some ⟨ab, ao, none⟩) n t) (hg : W.grownBy w' (some g)) (hne : ab ≠ g) : RK kd w' (some ⟨ab, ao, none⟩) n t := by
  refine ⟨h.1, h.2.1, ?_⟩
  rcases h.2.2 with h0 | ⟨b, o, e, hlt, hc⟩
  · exact .inl h0
  · cases e
    exact .inr ⟨ab, ao, rfl, Nat.lt_of_lt_of_le hlt hg.size, fun j u hu => grown_cell (p := ⟨ab, ao + j, none⟩) hg hne (hc j u hu)⟩
set_option maxHeartbeats 8000000 in
theorem jmakes_any (g ab ao cT : Nat) (t : List Int) (k h a b c want : Nat) (W : World) (hne : ab ≠ g) (hT : RK .i64 W (some ⟨ab, ao, none⟩) 512 t) (hz : TB W g (some ⟨ab, ao, none⟩) 512 cT k) (hk : k < 100000000) (hh : h ≤ 4) (ha : a < 1024) (hb : b < 1024) (hc : c < 1024) (hw : want < 1024) :
    Calls Tryd.prog 113 #[.pointer (some ⟨g, 0, none⟩), .int .i64 (h : Nat), .int .i64 (a : Nat), .int .i64 (b : Nat), .int .i64 (c : Nat), .int .i64 (want : Nat)] W fun e w' => e = .returned (.bool (looksF t a b c want h 0).2) ∧ TB w' g (some ⟨ab, ao, none⟩) 512 cT (k + (looksF t a b c want h 0).1) ∧ W.grownBy w' (some g) := by
  obtain ⟨LK, hLK⟩ : ∃ LK, looksF t a b c want h 0 = LK := ⟨_, rfl⟩
  rw [hLK]
  have HLK := Lib.hid hLK
  have HT := Lib.hid hT
  have HZ := Lib.hid hz
  clear hLK hT hz
  go_enter Tryd.func113, Tryd.ntmps113
  go_wp2_with fail
  go_loopw [15] (fun ix wr => ∃ y : Nat, y ≤ h ∧ ix = .int .i64 (y : Nat) ∧ looksF t a b c want (h - y) y = LK ∧ TB wr g (some ⟨ab, ao, none⟩) 512 cT (k + y) ∧ W.grownBy wr (some g)) (fun ix _ => h - (intOf ix).toNat)
  case atStart => exact ⟨0, by omega, rfl, HLK.out, HZ.out, grown_refl W _⟩
  case round =>
    obtain ⟨y, hy, rfl, hrun, hz, hg⟩ := hrel
    have HG := Lib.hid hg
    have HZ2 := Lib.hid hz
    clear hg hz HLK
    by_cases hyh : y < h
    · obtain ⟨m, hm⟩ : ∃ m, h - y = m + 1 := ⟨h - y - 1, by omega⟩
      have hm2 : h - (y + 1) = m := by omega
      rw [hm] at hrun
      unfold looksF at hrun
      rw [← hm2] at hrun
      have y1 : (y : Int) < (h : Int) := by omega
      have y0 : (0 : Int) ≤ (y : Int) := by omega
      have y64 : (y : Int) ≤ 64 := by omega
      obtain ⟨V, hV⟩ : ∃ V, want / 2 ^ y = V := ⟨_, rfl⟩
      have hVI : (want : Int) / 2 ^ y = (V : Int) := by rw [← hV, Int.natCast_ediv, Int.natCast_pow]; rfl
      have hV2 : V < 1024 := by rw [← hV]; exact Nat.lt_of_le_of_lt (Nat.div_le_self _ _) hw
      have hvv := and1_i64 (a := V) (by omega)
      have eu : cb want y = V % 2 := by unfold cb; rw [hV]
      rw [eu] at hrun
      have hC := fun (w : World) (hT : RK .i64 w (some ⟨ab, ao, none⟩) 512 t) (hz : TB w g (some ⟨ab, ao, none⟩) 512 cT (k + y)) => jat_any g ab ao cT t (k + y) y a b c w hne hT hz (by omega) (by omega) ha hb hc
      have HTr : Hid (RK .i64 wr.drew (some ⟨ab, ao, none⟩) 512 t) := (rk_grown HT.out HG.out hne).up (Below.drew (bnil wr))
      have HZr : Hid (TB wr.drew g (some ⟨ab, ao, none⟩) 512 cT (k + y)) := HZ2.out
      obtain ⟨sy, hsy⟩ : ∃ sy, symF t a b c y = sy := ⟨_, rfl⟩
      rw [hsy] at hrun hC
      have HC := Lib.hid hC
      clear hV eu hC hsy hm hm2
      generalize V % 2 = u at *
      by_cases hsu : sy = (u : Int)
      · rw [if_pos hsu] at hrun
        subst hsu
        have HRUN := Lib.hid hrun
        clear hrun
        go_wp2_with fail
        go_region_held3 (fun _ => True) (first | exact trivial | go_keep)
          (first | (go_at_call 93; refine (HC.out _ HTr.out HZr.out).mono ?_; rintro e w5 ⟨rfl, hz5, hg5⟩; have HZ5 := Lib.hid hz5; have HG5 := Lib.hid hg5; clear hz5 hg5))
        all_goals
          have HZ6 : Hid (TB w5 g (some ⟨ab, ao, none⟩) 512 cT (k + (y + 1))) := HZ5.out
          have HG6 : Hid (W.grownBy w5 (some g)) := grown_trans (grown_drew HG.out) HG5.out
          clear HC
          go_wp2
          go_roundw
          case rel => exact ⟨y + 1, by omega, by go_num, HRUN.out, HZ6.out, HG6.out⟩
          case measure => simp [intOf]; omega
      · rw [if_neg hsu] at hrun
        have hsb : (sy != (u : Int)) = true := by rw [bne_iff_ne]; exact hsu
        have HRUN := Lib.hid hrun
        clear hrun
        go_wp2_with fail
        go_region_held3 (fun _ => True) (first | exact trivial | go_keep)
          (first | (go_at_call 93; refine (HC.out _ HTr.out HZr.out).mono ?_; rintro e w5 ⟨rfl, hz5, hg5⟩; have HZ5 := Lib.hid hz5; have HG5 := Lib.hid hg5; clear hz5 hg5))
        all_goals
          have HG6 : Hid (W.grownBy w5 (some g)) := grown_trans (grown_drew HG.out) HG5.out
          clear HC
          go_wp2
          go_ret
          rw [← HRUN.out]
          exact ⟨rfl, HZ5.out, HG6.out⟩
    · obtain rfl : y = h := by omega
      rw [Nat.sub_self] at hrun
      have HRUN := Lib.hid hrun
      clear hrun
      go_wp2
      go_ret
      rw [← HRUN.out]
      exact ⟨rfl, HZ2.out, HG.out⟩
end Go.Proofs.YtocfkmdoalhjmaaDoor
