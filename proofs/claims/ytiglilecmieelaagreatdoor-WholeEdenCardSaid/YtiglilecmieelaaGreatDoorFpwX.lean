/- Package forms: made with any call-back. Package forms: check. Package forms: widened, Widen of a rule with the radius 0 to the radius 1. Package pairs: working. -/
import Derived.Test.YtiglilecmieelaaGreatDoorFpwA
import Derived.Deep.Cut
import Derived.Test.YtiglilecmieelaaGreatDoorUnder
import Derived.Deep.RegionHeld3
import Derived.Test.YtiglilecmieelaaGreatDoorOvQ
namespace Go.Proofs.YtiglilecmieelaaGreatDoor
open Go.RowKit
set_option linter.unusedVariables false
set_option maxRecDepth 100000

theorem own_heapP {w w' : World} {B sz b n c m : Nat} {e : TypeId} {cs : List Value} (h : w.ownsRow B e sz (.slice (some ⟨b, 0, none⟩) n c) m cs) {g : Nat} (hk : ∀ k, k ≠ g → w'.heap[k]? = w.heap[k]?) (hg : b ≠ g) : w'.ownsRow B e sz (.slice (some ⟨b, 0, none⟩) n c) m cs := by
  refine ⟨h.1, ?_⟩
  rcases h.2 with h1 | ⟨g2, cap, cur, h1, h2, h3, h4⟩
  · exact .inl h1
  · cases h1
    exact .inr ⟨b, c, cur, rfl, h2, by rw [hk _ hg]; exact h3, h4⟩
def PutP (F : Nat → Int) (n : Nat) (cur : List Int) (i : Nat) : Prop := cur.length = n ∧ ∀ q, q < i → cur.getD q 0 = F q
theorem putP_set {F : Nat → Int} {n i : Nat} {cur : List Int} (h : PutP F n cur i) (hi : i < n) : PutP F n (cur.set i (F i)) (i + 1) := by
  refine ⟨by simpa using h.1, fun q hq => ?_⟩
  by_cases e : q = i
  · subst e
    rw [List.getD_eq_getElem?_getD, List.getElem?_set_self (by rw [h.1]; exact hi)]; rfl
  · have := h.2 q (by omega)
    rw [List.getD_eq_getElem?_getD, List.getElem?_set_ne (fun e2 => e e2.symm), ← List.getD_eq_getElem?_getD]
    exact this
theorem putP_end {F : Nat → Int} {n : Nat} {cur l : List Int} (h : PutP F n cur n) (hl : l.length = n) (hF : ∀ q, q < n → l.getD q 0 = F q) : cur = l := by
  apply List.ext_getElem
  · rw [h.1, hl]
  · intro i h1 h2
    have e1 := h.2 i (by rw [← h.1]; exact h1)
    have e2 := hF i (by rw [← hl]; exact h2)
    simp [h1] at e1
    simp [h2] at e2
    rw [e1, e2]
/-- the last j digits are written -/
def DigTo (k m I : Nat) (cur : List Int) (j : Nat) : Prop := cur.length = m ∧ ∀ q, m - j ≤ q → q < m → cur.getD q 0 = ((I / k ^ (m - 1 - q) % k : Nat) : Int)
theorem digTo_set {k m I j : Nat} {cur : List Int} (h : DigTo k m I cur j) (hj : j < m) : DigTo k m I (cur.set (m - 1 - j) ((I / k ^ j % k : Nat) : Int)) (j + 1) := by
  refine ⟨by simpa using h.1, fun q hq hqm => ?_⟩
  by_cases e : q = m - 1 - j
  · subst e
    rw [List.getD_eq_getElem?_getD, List.getElem?_set_self (by rw [h.1]; omega)]
    show ((I / k ^ j % k : Nat) : Int) = _
    rw [show m - 1 - (m - 1 - j) = j by omega]
  · have := h.2 q (by omega) hqm
    rw [List.getD_eq_getElem?_getD, List.getElem?_set_ne (fun e2 => e e2.symm), ← List.getD_eq_getElem?_getD]
    exact this
theorem digTo_end {k m I : Nat} {cur : List Int} (h : DigTo k m I cur m) : cur = digP k m I := by
  apply List.ext_getElem
  · rw [h.1, digP_len]
  · intro i h1 h2
    have := h.2 i (by omega) (by rw [← h.1]; exact h1)
    simp [h1] at this
    simp [digP, this]
theorem made_i64P (n : Nat) : (madeCells (Value.int .i64 0).cells (n * 1)).toList = (List.replicate n (0 : Int)).map (Value.int .i64) := by
  rw [show (Value.int .i64 0).cells = #[.int .i64 0] from by rfl, toList_madeCells_one]
  simp
theorem map_atP (k : IntKind) (l : List Int) (i : Nat) (h : i < l.length) : (l.map (Value.int k))[i]? = some (.int k (l.getD i 0)) := by simp [h]

set_option maxHeartbeats 16000000 in
theorem made_ok (k r : Nat) (F : Nat) (cap : Array Value) (f : List Int → Int) (W : World) (k1 : 1 ≤ k) (k4 : k ≤ 4) (r3 : r ≤ 3)
    (hE : ∀ args w, (callFunc F args).run Tryz.prog w = .ok (.enter F args) w) (hF : TellsW F cap W (2 * r + 1) k f) :
    Calls Tryz.prog 82 #[.int .i64 k, .int .i64 r, .func (.func F) #[] cap] W fun e w' => ∃ aT, e = .returned (ruleV k r (some ⟨aT, 0, none⟩) (k ^ (2 * r + 1)) (k ^ (2 * r + 1))) ∧ RK .i64 w' (some ⟨aT, 0, none⟩) (k ^ (2 * r + 1)) (madeT k (2 * r + 1) f) ∧ W.heap.size ≤ aT ∧ Below W.heap.size W w' := by
  have HF := Lib.hid hF
  have hTb : k ^ (2 * r + 1) ≤ 16384 := rpow_le k4 (by omega)
  obtain ⟨m, hm⟩ : ∃ m, 2 * r + 1 = m := ⟨_, rfl⟩
  have hmi : 2 * (r : Int) + 1 = (m : Int) := by omega
  have hm7 : m ≤ 7 := by omega
  have hm1 : 1 ≤ m := by omega
  have HSZ := Lib.hid (fun V => size_ok k r (k ^ (2 * r + 1)) V k1 k4 r3 rfl)
  rw [hm] at hTb HSZ ⊢
  rw [hm] at HF
  obtain ⟨T, hT⟩ : ∃ T, k ^ m = T := ⟨_, rfl⟩
  rw [hT] at hTb HSZ ⊢
  have HT := Lib.hid hT
  have mw : IntKind.i64.wrap (m : Int) = (m : Int) := IntWalk.i64_in _ (by omega)
  have kz : ((k : Int) == 0) = false := by rw [beq_eq_false_iff_ne]; omega
  have kz2 : (k : Int) ≠ 0 := by omega
  obtain ⟨w0, hw0⟩ : ∃ w0, W.alloc (.cells #[.int .i64 0, .int .i64 0, .slice none 0 0] 24) = w0 := ⟨_, rfl⟩
  have HY0 : Hid (w0.heap[W.heap.size]? = some (.cells #[.int .i64 0, .int .i64 0, .slice none 0 0] 24)) := by show _ = _; rw [← hw0]; exact heap_alloc_new W _
  have HBX : Hid (Below W.heap.size W w0) := by show Below _ _ _; rw [← hw0]; exact balloc (bnil W) _
  have HS0 : Hid (w0.heap.size = W.heap.size + 1) := by show _ = _; rw [← hw0]; simp
  have HWB := Lib.hid hw0
  clear hF hm hT hw0
  go_enter Tryz.func82, Tryz.ntmps82
  go_wp2_with fail
  rw [HWB.out]
  refine (HSZ.out _).mono ?_; rintro e w' ⟨rfl, rfl⟩
  go_upto_region 3 with (first
    | (at_make; refine mk_full rfl _ _ _ rfl w0.heap.size et_int .i64 .i64 _ _ T rfl rfl rfl rfl (by omega) (by unfold maxLen; omega) (Nat.le_refl _) ?_; intro w1 hown1 hb1 hsz1; rw [made_i64P] at hown1; obtain ⟨gT, hgT⟩ : ∃ gT, w0.heap.size = gT := ⟨_, rfl⟩; rw [hgT] at hown1; simp only [hgT]; have HO1 := Lib.hid hown1; have HB1 := Lib.hid hb1; have HGT := Lib.hid hgT; clear hown1 hb1 hsz1 hgT))
  obtain ⟨w2, hw2⟩ : ∃ w2, w1.alloc (.cells #[.int .i64 k, .int .i64 r, .slice (some ⟨gT, 0, none⟩) T T] 24) = w2 := ⟨_, rfl⟩
  obtain ⟨g9, hg9⟩ : ∃ g9, w1.heap.size = g9 := ⟨_, rfl⟩
  have hb12 : Below w1.heap.size w1 w2 := by rw [← hw2]; exact balloc (bnil w1) _
  have HZ9 : Hid (w2.heap[g9]? = some (.cells #[.int .i64 k, .int .i64 r, .slice (some ⟨gT, 0, none⟩) T T] 24)) := by show _ = _; rw [← hw2, ← hg9]; exact heap_alloc_new w1 _
  have HO2 := Lib.hid (owns_up HO1.out hb12)
  have HB2 := Lib.hid (bstep (bstep HBX.out HB1.out) hb12)
  have HG9 : Hid (gT < g9) := by show _ < _; rw [← hg9]; exact own_lt HO1.out gT rfl
  have hs2 : w2.heap.size = g9 + 1 := by rw [← hw2, ← hg9]; simp
  have HW2 := Lib.hid hw2
  have HG9E := Lib.hid hg9
  clear hw2 hb12
  rw [HW2.out]
  try simp only [HG9E.out]
  clear hg9
  go_wp2_with (first
    | (at_make; refine mk_full rfl _ _ _ rfl w2.heap.size et_int .i64 .i64 _ _ m rfl rfl rfl rfl (by omega) (by unfold maxLen; omega) (Nat.le_refl _) ?_; intro w3 hown3 hb3 hsz3; rw [made_i64P] at hown3; obtain ⟨gw, hgw⟩ : ∃ gw, w2.heap.size = gw := ⟨_, rfl⟩; rw [hgw] at hown3; simp only [hgw]; have HO3 := Lib.hid hown3; have HB3 := Lib.hid hb3; have HGW := Lib.hid hgw; have hz3 := (hb3.block _ (heap_ltP HZ9.out)).trans HZ9.out; have HZ3 := Lib.hid hz3; obtain ⟨⟨z0, z1, z2⟩, _⟩ := cells3P hz3; clear hown3 hb3 hsz3 hgw hz3))
  have HGN : Hid (gT ≠ gw ∧ g9 ≠ gw ∧ W.heap.size < gT ∧ W.heap.size < gw) := by
    have h1 := HGT.out
    have h2 := HS0.out
    have h3 := HG9.out
    have h4 := HGW.out
    exact ⟨by omega, by omega, by omega, by omega⟩
  have HB3W := Lib.hid (bstep HB2.out HB3.out)
  have HT3 := Lib.hid (owns_up HO2.out HB3.out)
  have HY2 := Lib.hid ((HB1.out.block _ (heap_ltP HY0.out)).trans HY0.out)
  have HY2b : Hid (w2.heap[W.heap.size]? = some (.cells #[.int .i64 0, .int .i64 0, .slice none 0 0] 24)) := by show _ = _; rw [← HW2.out, heap_alloc_old _ _ (heap_ltP HY2.out)]; exact HY2.out
  have HY3 := Lib.hid ((HB3.out.block _ (heap_ltP HY2b.out)).trans HY2b.out)
  clear z0 z1 z2 hs2
  go_loopw [32] (fun ix wr => ∃ (i : Nat) (cur cw : List Int), i ≤ T ∧ ix = .int .i64 (i : Nat) ∧ PutP (fun n => f (digP k m n)) T cur i ∧ cw.length = m ∧ wr.ownsRow gT 3 1 (.slice (some ⟨gT, 0, none⟩) T T) T (cur.map (Value.int .i64)) ∧ wr.ownsRow gw 3 1 (.slice (some ⟨gw, 0, none⟩) m m) m (cw.map (Value.int .i64)) ∧ wr.heap[g9]? = some (.cells #[.int .i64 k, .int .i64 r, .slice (some ⟨gT, 0, none⟩) T T] 24) ∧ wr.heap[W.heap.size]? = some (.cells #[.int .i64 0, .int .i64 0, .slice none 0 0] 24) ∧ Below W.heap.size W wr) (fun ix _ => T - (intOf ix).toNat)
  case atStart => exact ⟨0, _, _, Nat.zero_le _, rfl, ⟨by simp, fun q h => by omega⟩, by simp, HT3.out, HO3.out, HZ3.out, HY3.out, HB3W.out⟩
  case round =>
    clear HT3 HO3 HZ3 HB3W HY3 HY2 HY2b HB3 HO2 HB2 HZ9 HO1 HB1
    obtain ⟨i, cur, cw, hi, rfl, hpt, hcw, hot, how, hz9, hy, hb⟩ := hrel
    have HY := Lib.hid hy
    clear hy
    have HPT := Lib.hid hpt
    have HCW := Lib.hid hcw
    have HOT := Lib.hid hot
    have HOW := Lib.hid how
    have HZ9 := Lib.hid hz9
    have HB := Lib.hid hb
    clear hpt hcw hot how hz9 hb
    by_cases hiT : i < T
    · have i1 : (i : Int) < (T : Int) := by omega
      have i0 : (0 : Int) ≤ (i : Int) := by omega
      go_wp2_with fail
      go_loopw [12, 38] (fun xx jx wz => ∃ (j x : Nat) (cw : List Int), j ≤ m ∧ jx = .int .i64 (j : Nat) ∧ xx = .int .i64 (x : Nat) ∧ x ≤ 16384 ∧ Hid (x = i / k ^ j) ∧ DigTo k m i cw j ∧ wz.ownsRow gT 3 1 (.slice (some ⟨gT, 0, none⟩) T T) T (cur.map (Value.int .i64)) ∧ wz.ownsRow gw 3 1 (.slice (some ⟨gw, 0, none⟩) m m) m (cw.map (Value.int .i64)) ∧ wz.heap[g9]? = some (.cells #[.int .i64 k, .int .i64 r, .slice (some ⟨gT, 0, none⟩) T T] 24) ∧ wz.heap[W.heap.size]? = some (.cells #[.int .i64 0, .int .i64 0, .slice none 0 0] 24) ∧ Below W.heap.size W wz) (fun _ jx _ => m - (intOf jx).toNat)
      case atStart => exact ⟨0, i, cw, Nat.zero_le _, rfl, rfl, by omega, by show i = i / k ^ 0; rw [Nat.pow_zero, Nat.div_one], ⟨HCW.out, fun q h1 h2 => by omega⟩, HOT.out, HOW.out, HZ9.out, HY.out, HB.out⟩
      case round =>
        clear HCW HOT HOW HZ9 HY HB cw
        obtain ⟨j, x, cw, hj, rfl, rfl, hx, HX, hdg, hot, how, hz9, hy, hb⟩ := hrel
        have HY := Lib.hid hy
        clear hy
        generalize wr = wz at *
        have HDG := Lib.hid hdg
        have HOT := Lib.hid hot
        have HOW := Lib.hid how
        have HZ9 := Lib.hid hz9
        have HB := Lib.hid hb
        clear hdg hot how hz9 hb
        by_cases hjm : j < m
        · have hcl := HDG.out.1
          have hst := own_set HOW.out (m - 1 - j) (.int .i64 ((x % k : Nat) : Int))
          have f0 := HOW.out.frozenAt (m - 1 - j)
          have c0 : wz.cell? ⟨gw, m - 1 - j, none⟩ = some (.int .i64 (cw.getD (m - 1 - j) 0)) := by rw [HOW.out.cellAt _ (by omega), map_atP _ _ _ (by omega)]
          rw [← List.map_set] at hst
          have HNX : Hid (DigTo k m i (cw.set (m - 1 - j) ((x % k : Nat) : Int)) (j + 1)) := by
            have h := digTo_set HDG.out hjm
            rw [← HX.out] at h
            exact h
          have HX2 : Hid (x / k = i / k ^ (j + 1)) := by show _ = _; rw [HX.out, Nat.div_div_eq_div_mul, ← Nat.pow_succ]
          have HST := Lib.hid hst
          have HOT2 := Lib.hid (own_heapP HOT.out (w' := wz.setCell ⟨gw, m - 1 - j, none⟩ (.int .i64 ((x % k : Nat) : Int))) (g := gw) (fun b hb => Below.heap_setCell _ _ _ _ hb) HGN.out.1)
          have HZ92 : Hid ((wz.setCell ⟨gw, m - 1 - j, none⟩ (.int .i64 ((x % k : Nat) : Int))).heap[g9]? = some (.cells #[.int .i64 k, .int .i64 r, .slice (some ⟨gT, 0, none⟩) T T] 24)) := by show _ = _; rw [Below.heap_setCell _ _ _ _ HGN.out.2.1]; exact HZ9.out
          have HY2 : Hid ((wz.setCell ⟨gw, m - 1 - j, none⟩ (.int .i64 ((x % k : Nat) : Int))).heap[W.heap.size]? = some (.cells #[.int .i64 0, .int .i64 0, .slice none 0 0] 24)) := by show _ = _; rw [Below.heap_setCell _ _ _ _ (by show _ ≠ gw; have := HGN.out.2.2.2; omega)]; exact HY.out
          have HBW := Lib.hid (HB.out.setCell (p := ⟨gw, m - 1 - j, none⟩) (by show _ ≤ gw; have := HGN.out.2.2.2; omega) (.int .i64 ((x % k : Nat) : Int)))
          obtain ⟨p, hp⟩ : ∃ p, m - 1 - j = p := ⟨_, rfl⟩
          obtain ⟨d, hd⟩ : ∃ d, x % k = d := ⟨_, rfl⟩
          obtain ⟨q, hq⟩ : ∃ q, x / k = q := ⟨_, rfl⟩
          have hqx : q ≤ x := by rw [← hq]; exact Nat.div_le_self _ _
          have e1 : IntKind.i64.wrap ((m : Int) - 1) = (m : Int) - 1 := IntWalk.i64_in _ (by omega)
          have e2 : (m : Int) - 1 - (j : Int) = (p : Int) := by omega
          have e3 : IntKind.i64.wrap (p : Int) = (p : Int) := IntWalk.i64_in _ (by omega)
          have e4 : (x : Int).tmod (k : Int) = (d : Int) := by rw [Int.tmod_eq_emod_of_nonneg (by omega), ← hd]; exact (Int.natCast_emod x k).symm
          have e5 : (x : Int).tdiv (k : Int) = (q : Int) := by rw [Int.tdiv_eq_ediv_of_nonneg (by omega), ← hq]; exact (Int.natCast_ediv x k).symm
          have e4' : (x : Int) % (k : Int) = (d : Int) := by rw [← hd]; exact (Int.natCast_emod x k).symm
          have e5' : (x : Int) / (k : Int) = (q : Int) := by rw [← hq]; exact (Int.natCast_ediv x k).symm
          have hdk : d < 4 := by rw [← hd]; exact Nat.lt_of_lt_of_le (Nat.mod_lt _ k1) k4
          have e6 : IntKind.i64.wrap (d : Int) = (d : Int) := IntWalk.i64_in _ (by omega)
          have e7 : IntKind.i64.wrap (q : Int) = (q : Int) := IntWalk.i64_in _ (by omega)
          have p0 : (0 : Int) ≤ (p : Int) := by omega
          have p1 : (p : Int) < (m : Int) := by omega
          have j1 : (j : Int) < (m : Int) := by omega
          rw [hp] at c0 f0
          rw [hp, hd] at HST HOT2 HZ92 HY2 HBW HNX
          rw [hq] at HX2
          clear hst hcl hp hd hq
          generalize cw.getD p 0 = y at *
          go_wp2
          go_roundw
          case rel => exact ⟨j + 1, q, _, by omega, by go_num, rfl, by omega, HX2, HNX.out, HOT2.out, HST.out, HZ92.out, HY2.out, HBW.out⟩
          case measure => simp [intOf]; omega
        · obtain rfl : j = m := by omega
          have j1 : ¬ (j : Int) < (j : Int) := by omega
          have hcw := digTo_end HDG.out
          subst hcw
          have HRW : Hid (RK .i64 wz (some ⟨gw, 0, none⟩) j (digP k j i)) := RK.of_own HOW.out
          obtain ⟨⟨z0, z1, z2⟩, _⟩ := cells3P HZ9.out
          have HS0' : Hid (wz.drew.cell? ⟨g9, 2, none⟩ = some (.slice (some ⟨gT, 0, none⟩) T T)) := z2
          have HCL := Lib.hid HPT.out.1
          have HBD : Hid (Below W.heap.size W wz.drew) := HB.out.drew
          have HRD : Hid (RK .i64 wz.drew (some ⟨gw, 0, none⟩) j (digP k j i)) := HRW.out
          have HSY : Hid (∀ x ∈ digP k j i, 0 ≤ x ∧ x < (k : Int)) := digP_sym k1
          have HNX : Hid (PutP (fun n => f (digP k j n)) T (cur.set i (f (digP k j i))) (i + 1)) := putP_set HPT.out hiT
          clear z0 z1 z2
          go_wp2_with fail
          go_region_held3 (fun w' => w'.cell? ⟨g9, 2, none⟩ = some (.slice (some ⟨gT, 0, none⟩) T T))
            (first | with_reducible exact HS6.out | with_reducible exact HS5.out | with_reducible exact HS0'.out | go_keep)
            (first
              | (have hef := hE; refine (HF.out _ HBD.out (some ⟨gw, 0, none⟩) j (digP k j i) (Nat.le_refl _) HRD.out HSY.out).mono ?_; rintro e w5 ⟨rfl, hb5⟩; have hb6 : Below wz.heap.size wz w5 := (bnil wz).drew.trans hb5; have HT5 := Lib.hid (owns_up HOT.out hb6); have HO5 := Lib.hid (owns_up HOW.out hb6); have HZ5 := Lib.hid ((hb6.block _ (heap_ltP HZ9.out)).trans HZ9.out); have HS5 : Hid (w5.cell? ⟨g9, 2, none⟩ = some (.slice (some ⟨gT, 0, none⟩) T T)) := (cells3P HZ5.out).1.2.2; have HY5 := Lib.hid ((hb6.block _ (heap_ltP HY.out)).trans HY.out); have HZ6 : Hid ((w5.setCell ⟨gT, i, none⟩ (.int .i64 (f (digP k j i)))).heap[g9]? = some (.cells #[.int .i64 k, .int .i64 r, .slice (some ⟨gT, 0, none⟩) T T] 24)) := (by show _ = _; rw [Below.heap_setCell _ _ _ _ (by show _ ≠ gT; have := HG9.out; omega)]; exact HZ5.out); have HS6 := Lib.hid (cells3P HZ6.out).1.2.2; have HB5 := Lib.hid (bstep HB.out hb6); have f0 := HT5.out.frozenAt i; have c0 : w5.cell? ⟨gT, i, none⟩ = some (.int .i64 (cur.getD i 0)) := (by rw [HT5.out.cellAt _ (by omega), map_atP _ _ _ (by rw [HCL.out]; exact hiT)]); clear hef hb5 hb6))
          all_goals
            have hst := own_set HT5.out i (.int .i64 (f (digP k j i)))
            rw [← List.map_set] at hst
            have HST := Lib.hid hst
            have HO6 := Lib.hid (own_heapP HO5.out (w' := w5.setCell ⟨gT, i, none⟩ (.int .i64 (f (digP k j i)))) (g := gT) (fun b hb => Below.heap_setCell _ _ _ _ hb) (fun e => HGN.out.1 e.symm))
            have HY6 : Hid ((w5.setCell ⟨gT, i, none⟩ (.int .i64 (f (digP k j i)))).heap[W.heap.size]? = some (.cells #[.int .i64 0, .int .i64 0, .slice none 0 0] 24)) := by show _ = _; rw [Below.heap_setCell _ _ _ _ (by show _ ≠ gT; have := HGN.out.2.2.1; omega)]; exact HY5.out
            have HB6 := Lib.hid (HB5.out.setCell (p := ⟨gT, i, none⟩) (by show _ ≤ gT; have := HGN.out.2.2.1; omega) (.int .i64 (f (digP k j i))))
            clear hst
            generalize f (digP k j i) = v at *
            go_wp2
            go_roundw
            case rel => exact ⟨i + 1, _, _, by omega, by go_num, HNX.out, digP_len _ _ _, HST.out, HO6.out, HZ6.out, HY6.out, HB6.out⟩
            case measure => simp [intOf]; omega
    · obtain rfl : i = T := by omega
      have i1 : ¬ (i : Int) < (i : Int) := by omega
      have hcur : cur = madeT k m f := putP_end HPT.out (by rw [madeT_len, HT.out]) (fun q hq => madeT_at (by rw [HT.out]; exact hq))
      subst hcur
      have hgy : W.heap.size < w0.heap.size := by have := HS0.out; omega
      have HY9 : Hid (wr.heap[W.heap.size]? = some (.cells #[.int .i64 0, .int .i64 0, .slice none 0 0] 24)) := HY.out
      obtain ⟨⟨p0, p1, p2⟩, f3, f4, f5⟩ := cells3P HY9.out
      obtain ⟨⟨z0, z1, z2⟩, _⟩ := cells3P HZ9.out
      obtain ⟨w9, e9, hk, hs, hbl, hz⟩ := set3P HY9.out (.int .i64 k) (.int .i64 r) (.slice (some ⟨gT, 0, none⟩) i i)
      obtain ⟨⟨r0, r1, r2⟩, _⟩ := cells3P hz
      have HRK := Lib.hid (rk_heapP (RK.of_own HOT.out) hk hs (by have := HGN.out.2.2.1; omega))
      have HBE := Lib.hid (hbl W W.heap.size (Nat.le_refl _) HB.out)
      have HE9 := Lib.hid e9
      have HRR := Lib.hid (And.intro r0 (And.intro r1 r2))
      clear e9 hk hs hbl hz r0 r1 r2
      go_wp2
      rw [HE9.out]
      have r0 := HRR.out.1
      have r1 := HRR.out.2.1
      have r2 := HRR.out.2.2
      refine bodyPost_ret (v := ruleV k r (some ⟨gT, 0, none⟩) i i) (by simp [ruleV, results, Tryz.results82, go_sem, r0, r1, r2]) rfl ?_
      exact ⟨gT, rfl, HRK.out, by have := HGN.out.2.2.1; omega, HBE.out⟩
end Go.Proofs.YtiglilecmieelaaGreatDoor
namespace Go.Proofs.YtiglilecmieelaaGreatDoor
open Go.RowKit
set_option linter.unusedVariables false
set_option maxRecDepth 100000

set_option maxHeartbeats 2000000 in
theorem fcheck_ok (k r : Nat) (at_ : Int) (a : Option Addr) (n c : Nat) (l : List Int) (W : World) (hR : RK .i64 W a n l) (h : IsRule k r l) :
    Calls Tryz.prog 64 #[.int .i64 at_, ruleV k r a n c] W fun e w' => e = .returned .nilIface ∧ Below W.heap.size W w' := by
  obtain ⟨Wb, hWb⟩ : ∃ Wb, W.alloc (.cells #[.int .i64 k, .int .i64 r, .slice a n c] 24) = Wb := ⟨_, rfl⟩
  have hz : Wb.heap[W.heap.size]? = some (.cells #[.int .i64 k, .int .i64 r, .slice a n c] 24) := by rw [← hWb]; exact heap_alloc_new W _
  have HBX : Hid (Below W.heap.size W Wb) := by rw [← hWb]; exact balloc (bnil W) _
  obtain ⟨⟨x0, x1, x2⟩, _⟩ := cells3P hz
  rw [← hWb] at x0 x1 x2
  have HR := Lib.hid (hR.up HBX.out)
  have HI := Lib.hid h
  have HWB := Lib.hid hWb
  clear hz hWb hR h
  go_enter Tryz.func64, Tryz.ntmps64
  go_wp2_with fail
  rw [HWB.out]
  refine (rcheck_ok k r a n c l Wb HR.out HI.out).mono ?_; rintro e w1 ⟨rfl, hb⟩
  have HB1 := Lib.hid (bstep HBX.out hb)
  clear hb
  clear x0 x1 x2
  go_wp2_with fail
  refine (undr_nil _ _ _).mono ?_; rintro e w' ⟨rfl, rfl⟩
  go_wp2
  go_ret
  exact ⟨rfl, HB1.out⟩
set_option maxHeartbeats 2000000 in
theorem fcheck_err (k r at_ : Int) (a : Option Addr) (n c : Nat) (l : List Int) (W : World) (R : Nat → Addr) (hG : Glob W R) (hR : RK .i64 W a n l) (hm : n ≤ maxLen) (x : Int) (h : ruleErr k r l = some x) :
    Calls Tryz.prog 64 #[.int .i64 at_, ruleV k r a n c] W fun e w' => ∃ t p, e = .returned (.iface t p) ∧ Below W.heap.size W w' := by
  obtain ⟨Wb, hWb⟩ : ∃ Wb, W.alloc (.cells #[.int .i64 k, .int .i64 r, .slice a n c] 24) = Wb := ⟨_, rfl⟩
  have hz : Wb.heap[W.heap.size]? = some (.cells #[.int .i64 k, .int .i64 r, .slice a n c] 24) := by rw [← hWb]; exact heap_alloc_new W _
  have HBX : Hid (Below W.heap.size W Wb) := by rw [← hWb]; exact balloc (bnil W) _
  obtain ⟨⟨x0, x1, x2⟩, _⟩ := cells3P hz
  rw [← hWb] at x0 x1 x2
  have HR := Lib.hid (hR.up HBX.out)
  have HG := Lib.hid (hG.up HBX.out)
  have HI := Lib.hid h
  have HWB := Lib.hid hWb
  clear hz hWb hR h hG
  go_enter Tryz.func64, Tryz.ntmps64
  go_wp2_with fail
  rw [HWB.out]
  refine (rcheck_err k r a n c l Wb R HG.out HR.out hm x HI.out).mono ?_; rintro e w1 ⟨g, rfl, he, hb⟩
  have HB1 := Lib.hid (bstep HBX.out hb)
  clear x0 x1 x2 he hb
  go_wp2_with fail
  refine (undr_some _ _ _ _ _).mono ?_; rintro e w' ⟨rfl, rfl⟩
  go_wp2
  go_ret
  exact ⟨_, _, rfl, balloc HB1.out _⟩
end Go.Proofs.YtiglilecmieelaaGreatDoor
namespace Go.Proofs.YtiglilecmieelaaGreatDoor
open Go.RowKit
set_option linter.unusedVariables false
set_option maxRecDepth 100000

/-- a part of a list in memory -/
theorem rk_partF {w : World} {b o n i m : Nat} {l : List Int} (h : RK .i64 w (some ⟨b, o, none⟩) n l) (hb : b < w.heap.size) (hi : i + m ≤ n) : RK .i64 w (some ⟨b, o + i, none⟩) m ((l.drop i).take m) := by
  have hn := h.len
  refine ⟨by simp; omega, by simp; omega, ?_⟩
  rcases Nat.eq_zero_or_pos m with h0 | h0
  · exact .inl h0
  · obtain ⟨b', o', e, _, hc⟩ := h.2.2.resolve_left (by omega)
    cases e
    refine .inr ⟨b, o + i, rfl, hb, fun j u hu => ?_⟩
    rw [Nat.add_assoc]
    refine hc (i + j) u ?_
    rw [List.map_take, List.getElem?_take] at hu
    split at hu
    · rw [← hu, List.map_drop, List.getElem?_drop]
    · cases hu
/-- the middle of three -/
def midF (k : Nat) (tb l : List Int) : Int := symL k tb ((l.drop 1).take 1)
set_option maxHeartbeats 1000000 in
theorem widened1_tells (k gr gd : Nat) (a : Option Addr) (T c : Nat) (tb : List Int) (V : World) (hR : RK .i64 V a T tb) (hI : IsRule k 0 tb)
    (zr : V.heap[gr]? = some (.cells #[.int .i64 k, .int .i64 0, .slice a T c] 24)) (zd : V.cell? ⟨gd, 0, none⟩ = some (.int .i64 1)) :
    TellsW 83 #[.pointer (some ⟨gr, 0, none⟩), .pointer (some ⟨gd, 0, none⟩)] V 3 k (midF k tb) := by
  intro w' hb aw cw l hcw hl hs
  have zr' := (hb.block _ (heap_ltP zr)).trans zr
  have d0 := cpP hb zd
  obtain ⟨⟨x0, x1, x2⟩, _⟩ := cells3P zr'
  have HR := Lib.hid (hR.up hb)
  obtain ⟨b, o, rfl, hll, hc⟩ := hl.addr (by omega)
  have HW : Hid (RK .i64 w' (some ⟨b, o + 1, none⟩) 1 ((l.drop 1).take 1)) := rk_partF hl hll (by omega)
  have HSY : Hid (∀ x ∈ (l.drop 1).take 1, 0 ≤ x ∧ x < (k : Int)) := fun x hx => hs x (List.mem_of_mem_drop (List.mem_of_mem_take hx))
  have HI := Lib.hid hI
  have HC : Hid (∀ w1 (a' : Option Addr) (n' c' : Nat), Below w'.heap.size w' w1 → a' = some ⟨b, o + 1, none⟩ → n' = 1 → Calls Tryz.prog 84 #[.agg #[.int .i64 k, .int .i64 0, .slice a T c], .slice a' n' c'] w1 fun e w2 => e = .returned (.int .i64 (midF k tb l)) ∧ Below w'.heap.size w' w2 ∧ Below w1.heap.size w1 w2) := by
    intro w1 a' n' c' h1 ha hn
    subst ha hn
    refine (fsymbol k 0 a T c tb (some ⟨b, o + 1, none⟩) 1 c' ((l.drop 1).take 1) w1 (HR.out.up h1) (HW.out.up h1) HI.out rfl HSY.out).mono ?_
    rintro e w2 ⟨rfl, hb2⟩
    exact ⟨rfl, bstep h1 hb2, hb2⟩
  have D0 : Hid (Below w'.heap.size w' w'.drew) := Below.drew (bnil w')
  have HS0 : Hid (w'.drew.cell? ⟨gr, 0, none⟩ = some (.int .i64 k) ∧ w'.drew.cell? ⟨gr, 1, none⟩ = some (.int .i64 0) ∧ w'.drew.cell? ⟨gr, 2, none⟩ = some (.slice a T c) ∧ w'.drew.cell? ⟨gd, 0, none⟩ = some (.int .i64 1)) := ⟨x0, x1, x2, d0⟩
  generalize midF k tb l = y at *
  have c3 : (3 : Int) ≤ (cw : Int) := by omega
  have c2 : (2 : Int) ≤ (cw : Int) := by omega
  have c4 : IntKind.i64.wrap (3 - 1) = 2 := by decide
  have c5 : IntKind.i64.wrap 2 = 2 := by decide
  have c6 : 2 ≤ cw := by omega
  have c7 : ¬ ((cw : Int) < 2) := by omega
  have c8 : ¬ (cw < 2) := by omega
  clear hR hb hl hs zr zd zr' hc hll hI HR HW HSY HI
  show Calls Tryz.prog 83 #[.slice (some ⟨b, o, none⟩) 3 cw, .pointer (some ⟨gr, 0, none⟩), .pointer (some ⟨gd, 0, none⟩)] w' _
  go_enter Tryz.func83, Tryz.ntmps83
  go_upto_region 1 with (fail)
  go_region_held3 (fun w => w.cell? ⟨gr, 0, none⟩ = some (.int .i64 k) ∧ w.cell? ⟨gr, 1, none⟩ = some (.int .i64 0) ∧ w.cell? ⟨gr, 2, none⟩ = some (.slice a T c) ∧ w.cell? ⟨gd, 0, none⟩ = some (.int .i64 1))
    (first | with_reducible exact HS0.out | with_reducible exact HS1.out)
    ((go_at_call 84; refine (HC.out _ _ _ _ D0.out (by first | rfl | exact if_neg (by omega)) (by first | rfl | omega)).mono ?_; rintro e w2 ⟨rfl, hb2, hb3⟩; have HB2 := Lib.hid hb2; have HS1 := Lib.hid (And.intro (cpP hb3 HS0.out.1) (And.intro (cpP hb3 HS0.out.2.1) (And.intro (cpP hb3 HS0.out.2.2.1) (cpP hb3 HS0.out.2.2.2)))); clear hb2 hb3))
  all_goals
    clear c2 c3 c4 c5 c6 c7 c8 hcw HS0 HS1 HC x0 x1 x2 d0
    go_wp2
    go_ret
    exact ⟨rfl, HB2.out⟩

set_option maxHeartbeats 4000000 in
theorem fwidened_ok (k : Nat) (a : Option Addr) (T c : Nat) (tb : List Int) (W : World) (hR : RK .i64 W a T tb) (hI : IsRule k 0 tb) :
    Calls Tryz.prog 66 #[.agg #[.int .i64 k, .int .i64 0, .slice a T c], .int .i64 1] W fun e w' => ∃ aT, e = .returned (ruleV k 1 (some ⟨aT, 0, none⟩) (k ^ 3) (k ^ 3)) ∧ RK .i64 w' (some ⟨aT, 0, none⟩) (k ^ 3) (madeT k 3 (midF k tb)) ∧ W.heap.size ≤ aT ∧ Below W.heap.size W w' := by
  have k1 := hI.k1
  have k4 := hI.k4
  obtain ⟨w0, hw0⟩ : ∃ w0, ((W.alloc (.cells #[.int .i64 k, .int .i64 0, .slice a T c] 24)).alloc (.cells #[.int .i64 0, .int .i64 0, .slice none 0 0] 24)).alloc (.cells #[.int .i64 1] 3) = w0 := ⟨_, rfl⟩
  have HSZ : Hid (w0.heap.size = W.heap.size + 3) := by show _ = _; rw [← hw0]; simp
  have hza : w0.heap[W.heap.size]? = some (.cells #[.int .i64 k, .int .i64 0, .slice a T c] 24) := by
    rw [← hw0, heap_alloc_old _ _ (by simp; omega), heap_alloc_old _ _ (by simp)]
    exact heap_alloc_new W _
  have hzy : w0.heap[W.heap.size + 1]? = some (.cells #[.int .i64 0, .int .i64 0, .slice none 0 0] 24) := by
    rw [← hw0, heap_alloc_old _ _ (by simp)]
    have h := heap_alloc_new (W.alloc (.cells #[.int .i64 k, .int .i64 0, .slice a T c] 24)) (.cells #[.int .i64 0, .int .i64 0, .slice none 0 0] 24)
    simpa using h
  have hzd : w0.heap[W.heap.size + 1 + 1]? = some (.cells #[.int .i64 1] 3) := by
    rw [← hw0]
    have h := heap_alloc_new ((W.alloc (.cells #[.int .i64 k, .int .i64 0, .slice a T c] 24)).alloc (.cells #[.int .i64 0, .int .i64 0, .slice none 0 0] 24)) (.cells #[.int .i64 1] 3)
    simpa using h
  have hd0 : w0.cell? ⟨W.heap.size + 1 + 1, 0, none⟩ = some (.int .i64 1) := by simp [World.cell?, hzd]
  have HBX : Hid (Below W.heap.size W w0) := by show Below _ _ _; rw [← hw0]; exact balloc (balloc (balloc (bnil W) _) _) _
  have HTW := Lib.hid (widened1_tells k W.heap.size (W.heap.size + 1 + 1) a T c tb w0 (hR.up HBX.out) hI hza hd0)
  have HEN : Hid (∀ args w, (callFunc 83 args).run Tryz.prog w = .ok (.enter 83 args) w) := fun args w => rfl
  have HMD := Lib.hid (made_ok k 1 83 _ _ w0 k1 k4 (by decide) HEN.out HTW.out)
  have HZY := Lib.hid hzy
  obtain ⟨⟨x0, x1, x2⟩, _⟩ := cells3P hza
  rw [← hw0] at x0 x1 x2
  have HWB := Lib.hid hw0
  have hmf : ∀ (fn : Fn) (first cap : Array Value) (w : World), (Instr.makeFunc fn first cap).run Tryz.prog w = .ok (.func fn first cap) w := fun _ _ _ _ => rfl
  clear hR hza hzy hzd hd0 hw0 hI
  go_enter Tryz.func66, Tryz.ntmps66
  go_wp2_with fail
  rw [HWB.out]
  refine HMD.out.mono ?_; rintro e w1 ⟨aT, rfl, hT, hla, hb⟩
  have hy := (hb.block _ (heap_ltP HZY.out)).trans HZY.out
  obtain ⟨⟨p0, p1, p2⟩, f3, f4, f5⟩ := cells3P hy
  obtain ⟨w9, e9, hk, hs, hbl, hz⟩ := set3P hy (.int .i64 k) (.int .i64 1) (.slice (some ⟨aT, 0, none⟩) (k ^ 3) (k ^ 3))
  obtain ⟨⟨r0, r1, r2⟩, _⟩ := cells3P hz
  have HRK := Lib.hid (rk_heapP hT hk hs (by have := HSZ.out; omega))
  have HBE := Lib.hid (hbl W W.heap.size (by omega) (bstep HBX.out hb))
  have HLA : Hid (W.heap.size ≤ aT) := by show _ ≤ _; have := HSZ.out; omega
  have HE9 := Lib.hid e9
  have HRR := Lib.hid (And.intro r0 (And.intro r1 r2))
  clear e9 hk hs hbl hz r0 r1 r2 hy hT hla hb x0 x1 x2
  go_wp2
  rw [HE9.out]
  have r0 := HRR.out.1
  have r1 := HRR.out.2.1
  have r2 := HRR.out.2.2
  refine bodyPost_ret (v := ruleV k 1 (some ⟨aT, 0, none⟩) (k ^ 3) (k ^ 3)) (by simp [ruleV, results, Tryz.results66, go_sem, r0, r1, r2]) rfl ?_
  exact ⟨aT, rfl, HRK.out, HLA.out, HBE.out⟩

set_option maxHeartbeats 4000000 in
theorem fwiden_ok (k : Nat) (a : Option Addr) (T c : Nat) (tb : List Int) (W : World) (hR : RK .i64 W a T tb) (hI : IsRule k 0 tb) :
    Calls Tryz.prog 54 #[.agg #[.int .i64 k, .int .i64 0, .slice a T c], .int .i64 1] W fun e w' => ∃ aT, e = .returned (.tuple #[ruleV k 1 (some ⟨aT, 0, none⟩) (k ^ 3) (k ^ 3), .nilIface]) ∧ RK .i64 w' (some ⟨aT, 0, none⟩) (k ^ 3) (madeT k 3 (midF k tb)) ∧ W.heap.size ≤ aT ∧ Below W.heap.size W w' := by
  obtain ⟨w0, hw0⟩ : ∃ w0, (W.alloc (.cells #[.int .i64 k, .int .i64 0, .slice a T c] 24)).alloc (.cells #[.int .i64 0, .int .i64 0, .slice none 0 0] 24) = w0 := ⟨_, rfl⟩
  have hza : w0.heap[W.heap.size]? = some (.cells #[.int .i64 k, .int .i64 0, .slice a T c] 24) := by
    rw [← hw0, heap_alloc_old _ _ (by simp)]
    exact heap_alloc_new W _
  have hzy : w0.heap[W.heap.size + 1]? = some (.cells #[.int .i64 0, .int .i64 0, .slice none 0 0] 24) := by
    rw [← hw0]
    have h := heap_alloc_new (W.alloc (.cells #[.int .i64 k, .int .i64 0, .slice a T c] 24)) (.cells #[.int .i64 0, .int .i64 0, .slice none 0 0] 24)
    simpa using h
  have HBX : Hid (Below W.heap.size W w0) := by show Below _ _ _; rw [← hw0]; exact balloc (balloc (bnil W) _) _
  have HCK := Lib.hid (fcheck_ok k 0 0 a T c tb w0 (hR.up HBX.out) hI)
  have HWD : Hid (∀ w1, Below w0.heap.size w0 w1 → Calls Tryz.prog 66 #[.agg #[.int .i64 k, .int .i64 0, .slice a T c], .int .i64 1] w1 fun e w' => ∃ aT, e = .returned (ruleV k 1 (some ⟨aT, 0, none⟩) (k ^ 3) (k ^ 3)) ∧ RK .i64 w' (some ⟨aT, 0, none⟩) (k ^ 3) (madeT k 3 (midF k tb)) ∧ w1.heap.size ≤ aT ∧ Below w1.heap.size w1 w') := fun w1 h1 => fwidened_ok k a T c tb w1 (hR.up (bstep HBX.out h1)) hI
  have HZA := Lib.hid hza
  have HZY := Lib.hid hzy
  obtain ⟨⟨x0, x1, x2⟩, _⟩ := cells3P hza
  rw [← hw0] at x0 x1 x2
  have HWB := Lib.hid hw0
  clear hR hza hzy hw0 hI
  go_enter Tryz.func54, Tryz.ntmps54
  go_wp2_with fail
  rw [HWB.out]
  refine HCK.out.mono ?_; rintro e w1 ⟨rfl, hb⟩
  have HZ1 := Lib.hid ((hb.block _ (heap_ltP HZA.out)).trans HZA.out)
  have HY1 := Lib.hid ((hb.block _ (heap_ltP HZY.out)).trans HZY.out)
  have HB1 := Lib.hid hb
  clear hb x0 x1 x2
  obtain ⟨⟨x0, x1, x2⟩, _⟩ := cells3P HZ1.out
  go_wp2_with fail
  refine (HWD.out w1 HB1.out).mono ?_; rintro e w2 ⟨aT, rfl, hT, hla, hb⟩
  have hy := (hb.block _ (heap_ltP HY1.out)).trans HY1.out
  obtain ⟨⟨p0, p1, p2⟩, f3, f4, f5⟩ := cells3P hy
  obtain ⟨w9, e9, hk, hs, hbl, hz⟩ := set3P hy (.int .i64 k) (.int .i64 1) (.slice (some ⟨aT, 0, none⟩) (k ^ 3) (k ^ 3))
  obtain ⟨⟨r0, r1, r2⟩, _⟩ := cells3P hz
  have HRK := Lib.hid (rk_heapP hT hk hs (by have := heap_ltP HY1.out; omega))
  have HLA : Hid (W.heap.size ≤ aT) := by show _ ≤ _; have := heap_ltP HY1.out; omega
  have HBE := Lib.hid (hbl W W.heap.size (by omega) (bstep HBX.out (bstep HB1.out hb)))
  have HE9 := Lib.hid e9
  have HRR := Lib.hid (And.intro r0 (And.intro r1 r2))
  clear e9 hk hs hbl hz r0 r1 r2 hy hT hla hb x0 x1 x2
  go_wp2
  rw [HE9.out]
  have r0 := HRR.out.1
  have r1 := HRR.out.2.1
  have r2 := HRR.out.2.2
  refine bodyPost_ret (v := .tuple #[ruleV k 1 (some ⟨aT, 0, none⟩) (k ^ 3) (k ^ 3), .nilIface]) (by simp [ruleV, results, Tryz.results54, go_sem, r0, r1, r2]) rfl ?_
  exact ⟨aT, rfl, HRK.out, HLA.out, HBE.out⟩
end Go.Proofs.YtiglilecmieelaaGreatDoor
namespace Go.Proofs.YtiglilecmieelaaGreatDoor
open Go.RowKit
set_option linter.unusedVariables false
set_option maxRecDepth 100000

set_option maxHeartbeats 4000000 in
theorem working_one (k r : Nat) (a : Option Addr) (T c : Nat) (tb : List Int) (W : World) (hR : RK .i64 W a T tb) (hI : IsRule k r tb) (hT : T ≤ 256) (h1 : 1 ≤ r) :
    Calls Tryz.prog 28 #[ruleV k r a T c] W fun e w' => e = .returned (.tuple #[ruleV k r a T c, .nilIface]) ∧ Below W.heap.size W w' := by
  obtain ⟨w0, hw0⟩ : ∃ w0, (W.alloc (.cells #[.int .i64 k, .int .i64 r, .slice a T c] 24)).alloc (.cells #[.int .i64 0, .int .i64 0, .slice none 0 0] 24) = w0 := ⟨_, rfl⟩
  have hza : w0.heap[W.heap.size]? = some (.cells #[.int .i64 k, .int .i64 r, .slice a T c] 24) := by
    rw [← hw0, heap_alloc_old _ _ (by simp)]
    exact heap_alloc_new W _
  have hzy : w0.heap[W.heap.size + 1]? = some (.cells #[.int .i64 0, .int .i64 0, .slice none 0 0] 24) := by
    rw [← hw0]
    have h := heap_alloc_new (W.alloc (.cells #[.int .i64 k, .int .i64 r, .slice a T c] 24)) (.cells #[.int .i64 0, .int .i64 0, .slice none 0 0] 24)
    simpa using h
  have HBX : Hid (Below W.heap.size W w0) := by show Below _ _ _; rw [← hw0]; exact balloc (balloc (bnil W) _) _
  have HCK := Lib.hid (rsmall_ok k r a T c tb w0 (hR.up HBX.out) hI hT)
  have HZA := Lib.hid hza
  have HZY := Lib.hid hzy
  obtain ⟨⟨x0, x1, x2⟩, _⟩ := cells3P hza
  rw [← hw0] at x0 x1 x2
  have HWB := Lib.hid hw0
  have q1 : ((r : Int) == 0) = false := by rw [beq_eq_false_iff_ne]; omega
  clear hR hza hzy hw0 hI hT
  go_enter Tryz.func28, Tryz.ntmps28
  go_wp2_with fail
  rw [HWB.out]
  refine HCK.out.mono ?_; rintro e w1 ⟨rfl, hb⟩
  have HZ1 := Lib.hid ((hb.block _ (heap_ltP HZA.out)).trans HZA.out)
  have hy := (hb.block _ (heap_ltP HZY.out)).trans HZY.out
  clear x0 x1 x2
  obtain ⟨⟨x0, x1, x2⟩, _⟩ := cells3P HZ1.out
  obtain ⟨⟨p0, p1, p2⟩, f3, f4, f5⟩ := cells3P hy
  obtain ⟨w9, e9, hk, hs, hbl, hz⟩ := set3P hy (.int .i64 k) (.int .i64 r) (.slice a T c)
  obtain ⟨⟨r0, r1, r2⟩, _⟩ := cells3P hz
  have HBE := Lib.hid (hbl W W.heap.size (by omega) (bstep HBX.out hb))
  have HE9 := Lib.hid e9
  have HRR := Lib.hid (And.intro r0 (And.intro r1 r2))
  clear e9 hk hs hbl hz r0 r1 r2 hy hb
  go_wp2
  rw [HE9.out]
  have r0 := HRR.out.1
  have r1 := HRR.out.2.1
  have r2 := HRR.out.2.2
  refine bodyPost_ret (v := .tuple #[ruleV k r a T c, .nilIface]) (by simp [ruleV, results, Tryz.results28, go_sem, r0, r1, r2]) rfl ?_
  exact ⟨rfl, HBE.out⟩
set_option maxHeartbeats 4000000 in
theorem working_zero (k : Nat) (a : Option Addr) (T c : Nat) (tb : List Int) (W : World) (hR : RK .i64 W a T tb) (hI : IsRule k 0 tb) (hT : T ≤ 256) :
    Calls Tryz.prog 28 #[.agg #[.int .i64 k, .int .i64 0, .slice a T c]] W fun e w' => ∃ aT, e = .returned (.tuple #[ruleV k 1 (some ⟨aT, 0, none⟩) (k ^ 3) (k ^ 3), .nilIface]) ∧ RK .i64 w' (some ⟨aT, 0, none⟩) (k ^ 3) (madeT k 3 (midF k tb)) ∧ Below W.heap.size W w' := by
  obtain ⟨w0, hw0⟩ : ∃ w0, (W.alloc (.cells #[.int .i64 k, .int .i64 0, .slice a T c] 24)).alloc (.cells #[.int .i64 0, .int .i64 0, .slice none 0 0] 24) = w0 := ⟨_, rfl⟩
  have hza : w0.heap[W.heap.size]? = some (.cells #[.int .i64 k, .int .i64 0, .slice a T c] 24) := by
    rw [← hw0, heap_alloc_old _ _ (by simp)]
    exact heap_alloc_new W _
  have hzy : w0.heap[W.heap.size + 1]? = some (.cells #[.int .i64 0, .int .i64 0, .slice none 0 0] 24) := by
    rw [← hw0]
    have h := heap_alloc_new (W.alloc (.cells #[.int .i64 k, .int .i64 0, .slice a T c] 24)) (.cells #[.int .i64 0, .int .i64 0, .slice none 0 0] 24)
    simpa using h
  have HBX : Hid (Below W.heap.size W w0) := by show Below _ _ _; rw [← hw0]; exact balloc (balloc (bnil W) _) _
  have HCK := Lib.hid (rsmall_ok k 0 a T c tb w0 (hR.up HBX.out) hI hT)
  have HWD : Hid (∀ w1, Below w0.heap.size w0 w1 → Calls Tryz.prog 54 #[.agg #[.int .i64 k, .int .i64 0, .slice a T c], .int .i64 1] w1 fun e w' => ∃ aT, e = .returned (.tuple #[ruleV k 1 (some ⟨aT, 0, none⟩) (k ^ 3) (k ^ 3), .nilIface]) ∧ RK .i64 w' (some ⟨aT, 0, none⟩) (k ^ 3) (madeT k 3 (midF k tb)) ∧ w1.heap.size ≤ aT ∧ Below w1.heap.size w1 w') := fun w1 h1 => fwiden_ok k a T c tb w1 (hR.up (bstep HBX.out h1)) hI
  have HZA := Lib.hid hza
  have HZY := Lib.hid hzy
  obtain ⟨⟨x0, x1, x2⟩, _⟩ := cells3P hza
  rw [← hw0] at x0 x1 x2
  have HWB := Lib.hid hw0
  clear hR hza hzy hw0 hI hT
  go_enter Tryz.func28, Tryz.ntmps28
  go_wp2_with fail
  rw [HWB.out]
  refine HCK.out.mono ?_; rintro e w1 ⟨rfl, hb⟩
  have HZ1 := Lib.hid ((hb.block _ (heap_ltP HZA.out)).trans HZA.out)
  have HY1 := Lib.hid ((hb.block _ (heap_ltP HZY.out)).trans HZY.out)
  have HB1 := Lib.hid hb
  clear hb x0 x1 x2
  obtain ⟨⟨x0, x1, x2⟩, _⟩ := cells3P HZ1.out
  go_wp2_with fail
  refine (HWD.out w1 HB1.out).mono ?_; rintro e w2 ⟨aT, rfl, hT, hla, hb⟩
  have hy := (hb.block _ (heap_ltP HY1.out)).trans HY1.out
  obtain ⟨⟨p0, p1, p2⟩, f3, f4, f5⟩ := cells3P hy
  obtain ⟨w9, e9, hk, hs, hbl, hz⟩ := set3P hy (.int .i64 k) (.int .i64 1) (.slice (some ⟨aT, 0, none⟩) (k ^ 3) (k ^ 3))
  obtain ⟨⟨r0, r1, r2⟩, _⟩ := cells3P hz
  have HRK := Lib.hid (rk_heapP hT hk hs (by have := heap_ltP HY1.out; omega))
  have HBE := Lib.hid (hbl W W.heap.size (by omega) (bstep HBX.out (bstep HB1.out hb)))
  have HE9 := Lib.hid e9
  have HRR := Lib.hid (And.intro r0 (And.intro r1 r2))
  clear e9 hk hs hbl hz r0 r1 r2 hy hT hla hb x0 x1 x2
  go_wp2
  rw [HE9.out]
  have r0 := HRR.out.1
  have r1 := HRR.out.2.1
  have r2 := HRR.out.2.2
  refine bodyPost_ret (v := .tuple #[ruleV k 1 (some ⟨aT, 0, none⟩) (k ^ 3) (k ^ 3), .nilIface]) (by simp [ruleV, results, Tryz.results28, go_sem, r0, r1, r2]) rfl ?_
  exact ⟨aT, rfl, HRK.out, HBE.out⟩
set_option maxHeartbeats 4000000 in
theorem working_err (k r : Int) (a : Option Addr) (T c : Nat) (tb : List Int) (W : World) (R : Nat → Addr) (hG : Glob W R) (hR : RK .i64 W a T tb) (hm : T ≤ maxLen) (h : ∀ kn rn : Nat, k = kn → r = rn → IsRule kn rn tb → 256 < T) :
    Calls Tryz.prog 28 #[ruleV k r a T c] W fun e w' => ∃ g, e = .returned (.tuple #[ruleV 0 0 none 0 0, .iface 75 (.pointer (some ⟨g, 0, none⟩))]) ∧ Below W.heap.size W w' := by
  obtain ⟨w0, hw0⟩ : ∃ w0, (W.alloc (.cells #[.int .i64 k, .int .i64 r, .slice a T c] 24)).alloc (.cells #[.int .i64 0, .int .i64 0, .slice none 0 0] 24) = w0 := ⟨_, rfl⟩
  have hza : w0.heap[W.heap.size]? = some (.cells #[.int .i64 k, .int .i64 r, .slice a T c] 24) := by
    rw [← hw0, heap_alloc_old _ _ (by simp)]
    exact heap_alloc_new W _
  have hzy : w0.heap[W.heap.size + 1]? = some (.cells #[.int .i64 0, .int .i64 0, .slice none 0 0] 24) := by
    rw [← hw0]
    have h := heap_alloc_new (W.alloc (.cells #[.int .i64 k, .int .i64 r, .slice a T c] 24)) (.cells #[.int .i64 0, .int .i64 0, .slice none 0 0] 24)
    simpa using h
  have HBX : Hid (Below W.heap.size W w0) := by show Below _ _ _; rw [← hw0]; exact balloc (balloc (bnil W) _) _
  have HCK := Lib.hid (rsmall_err k r a T c tb w0 R (hG.up HBX.out) (hR.up HBX.out) hm h)
  have HZY := Lib.hid hzy
  obtain ⟨⟨x0, x1, x2⟩, _⟩ := cells3P hza
  rw [← hw0] at x0 x1 x2
  have HWB := Lib.hid hw0
  clear hR hza hzy hw0 hG hm h
  go_enter Tryz.func28, Tryz.ntmps28
  go_wp2_with fail
  rw [HWB.out]
  refine HCK.out.mono ?_; rintro e w1 ⟨g, rfl, hb⟩
  have HY1 := Lib.hid ((hb.block _ (heap_ltP HZY.out)).trans HZY.out)
  have HB1 := Lib.hid (bstep HBX.out hb)
  clear hb x0 x1 x2
  go_wp2_with fail
  refine (undr_some _ _ _ _ _).mono ?_; rintro e w2 ⟨rfl, rfl⟩
  have hbw := balloc (bnil w1) (faultObj ⟨#[112, 97, 105, 114, 115]⟩ 0 (.iface 75 (.pointer (some ⟨g, 0, none⟩))))
  generalize w1.alloc (faultObj ⟨#[112, 97, 105, 114, 115]⟩ 0 (.iface 75 (.pointer (some ⟨g, 0, none⟩)))) = w2 at hbw ⊢
  generalize hg2 : w1.heap.size = g2
  clear hg2
  have hy := (hbw.block _ (heap_ltP HY1.out)).trans HY1.out
  obtain ⟨⟨p0, p1, p2⟩, f3, f4, f5⟩ := cells3P hy
  obtain ⟨w9, e9, hk, hs, hbl, hz⟩ := set3P hy (.int .i64 0) (.int .i64 0) (.slice none 0 0)
  obtain ⟨⟨r0, r1, r2⟩, _⟩ := cells3P hz
  have HBE := Lib.hid (hbl W W.heap.size (by omega) (bstep HB1.out hbw))
  have HE9 := Lib.hid e9
  have HRR := Lib.hid (And.intro r0 (And.intro r1 r2))
  clear e9 hk hs hbl hz r0 r1 r2 hy hbw
  go_wp2
  rw [HE9.out]
  have r0 := HRR.out.1
  have r1 := HRR.out.2.1
  have r2 := HRR.out.2.2
  refine bodyPost_ret (v := .tuple #[ruleV 0 0 none 0 0, .iface 75 (.pointer (some ⟨g2, 0, none⟩))]) (by simp [ruleV, results, Tryz.results28, go_sem, r0, r1, r2]) rfl ?_
  exact ⟨_, rfl, HBE.out⟩
end Go.Proofs.YtiglilecmieelaaGreatDoor
