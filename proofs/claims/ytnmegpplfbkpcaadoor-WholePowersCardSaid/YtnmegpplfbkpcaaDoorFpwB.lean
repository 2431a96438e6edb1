/- Package forms: made with any call-back. -/
import Derived.Test.YtnmegpplfbkpcaaDoorFpwA
import Derived.Deep.Cut
namespace Go.Proofs.YtnmegpplfbkpcaaDoor
open Go.RowKit
set_option linter.unusedVariables false
set_option maxRecDepth 100000

theorem own_heapP {w w' : World} {B sz b n c m : Nat} {e : TypeId} {cs : List Value} (h : w.ownsRow B e sz (.slice (some ⟨b, 0, none⟩) n c) m cs) {g : Nat} (hk : ∀ k, k ≠ g → w'.heap[k]? = w.heap[k]?) (hg : b ≠ g) : w'.ownsRow B e sz (.slice (some ⟨b, 0, none⟩) n c) m cs := by
  refine ⟨h.1, ?_⟩
  rcases h.2 with h1 | ⟨g2, cap, cur, h1, h2, h3, h4⟩
  · exact .inl h1
  · cases h1
    exact .inr ⟨b, c, cur, rfl, h2, by rw [hk _ hg]; exact h3, h4⟩
def PutP (F : Nat → Int) (n : Nat) (cur : List Int) (i : Nat) : Prop := cur.length = n ∧ ∀ q, q < i → cur.getD q 0 = F q
theorem putP_set {F : Nat → Int} {n i : Nat} {cur : List Int} (h : PutP F n cur i) (hi : i < n) : PutP F n (cur.set i (F i)) (i + 1) := by
  refine ⟨by simpa using h.1, fun q hq => ?_⟩
  by_cases e : q = i
  · subst e
    rw [List.getD_eq_getElem?_getD, List.getElem?_set_self (by rw [h.1]; exact hi)]; rfl
  · have := h.2 q (by omega)
    rw [List.getD_eq_getElem?_getD, List.getElem?_set_ne (fun e2 => e e2.symm), ← List.getD_eq_getElem?_getD]
    exact this
theorem putP_end {F : Nat → Int} {n : Nat} {cur l : List Int} (h : PutP F n cur n) (hl : l.length = n) (hF : ∀ q, q < n → l.getD q 0 = F q) : cur = l := by
  apply List.ext_getElem
  · rw [h.1, hl]
  · intro i h1 h2
    have e1 := h.2 i (by rw [← h.1]; exact h1)
    have e2 := hF i (by rw [← hl]; exact h2)
    simp [h1] at e1
    simp [h2] at e2
    rw [e1, e2]
/-- the last j digits are written -/
def DigTo (k m I : Nat) (cur : List Int) (j : Nat) : Prop := cur.length = m ∧ ∀ q, m - j ≤ q → q < m → cur.getD q 0 = ((I / k ^ (m - 1 - q) % k : Nat) : Int)
theorem digTo_set {k m I j : Nat} {cur : List Int} (h : DigTo k m I cur j) (hj : j < m) : DigTo k m I (cur.set (m - 1 - j) ((I / k ^ j % k : Nat) : Int)) (j + 1) := by
  refine ⟨by simpa using h.1, fun q hq hqm => ?_⟩
  by_cases e : q = m - 1 - j
  · subst e
    rw [List.getD_eq_getElem?_getD, List.getElem?_set_self (by rw [h.1]; omega)]
    show ((I / k ^ j % k : Nat) : Int) = _
    rw [show m - 1 - (m - 1 - j) = j by omega]
  · have := h.2 q (by omega) hqm
    rw [List.getD_eq_getElem?_getD, List.getElem?_set_ne (fun e2 => e e2.symm), ← List.getD_eq_getElem?_getD]
    exact this
theorem digTo_end {k m I : Nat} {cur : List Int} (h : DigTo k m I cur m) : cur = digP k m I := by
  apply List.ext_getElem
  · rw [h.1, digP_len]
  · intro i h1 h2
    have := h.2 i (by omega) (by rw [← h.1]; exact h1)
    simp [h1] at this
    simp [digP, this]
theorem made_i64P (n : Nat) : (madeCells (Value.int .i64 0).cells (n * 1)).toList = (List.replicate n (0 : Int)).map (Value.int .i64) := by
  rw [show (Value.int .i64 0).cells = #[.int .i64 0] from by rfl, toList_madeCells_one]
  simp
theorem map_atP (k : IntKind) (l : List Int) (i : Nat) (h : i < l.length) : (l.map (Value.int k))[i]? = some (.int k (l.getD i 0)) := by simp [h]

set_option maxHeartbeats 16000000 in
theorem made_ok (k r : Nat) (F : Nat) (cap : Array Value) (f : List Int → Int) (W : World) (k1 : 1 ≤ k) (k4 : k ≤ 4) (r3 : r ≤ 3)
    (hE : ∀ args w, (callFunc F args).run Tryd.prog w = .ok (.enter F args) w) (hF : TellsW F cap W (2 * r + 1) k f) :
    Calls Tryd.prog 23 #[.int .i64 k, .int .i64 r, .func (.func F) #[] cap] W fun e w' => ∃ aT, e = .returned (ruleV k r (some ⟨aT, 0, none⟩) (k ^ (2 * r + 1)) (k ^ (2 * r + 1))) ∧ RK .i64 w' (some ⟨aT, 0, none⟩) (k ^ (2 * r + 1)) (madeT k (2 * r + 1) f) ∧ W.heap.size ≤ aT ∧ Below W.heap.size W w' := by
  have HF := Lib.hid hF
  have hTb : k ^ (2 * r + 1) ≤ 16384 := rpow_le k4 (by omega)
  obtain ⟨m, hm⟩ : ∃ m, 2 * r + 1 = m := ⟨_, rfl⟩
  have hmi : 2 * (r : Int) + 1 = (m : Int) := by omega
  have hm7 : m ≤ 7 := by omega
  have hm1 : 1 ≤ m := by omega
  have HSZ := Lib.hid (fun V => size_ok k r (k ^ (2 * r + 1)) V k1 k4 r3 rfl)
  rw [hm] at hTb HSZ ⊢
  rw [hm] at HF
  obtain ⟨T, hT⟩ : ∃ T, k ^ m = T := ⟨_, rfl⟩
  rw [hT] at hTb HSZ ⊢
  have HT := Lib.hid hT
  have mw : IntKind.i64.wrap (m : Int) = (m : Int) := IntWalk.i64_in _ (by omega)
  have kz : ((k : Int) == 0) = false := by rw [beq_eq_false_iff_ne]; omega
  have kz2 : (k : Int) ≠ 0 := by omega
  obtain ⟨w0, hw0⟩ : ∃ w0, W.alloc (.cells #[.int .i64 0, .int .i64 0, .slice none 0 0] 24) = w0 := ⟨_, rfl⟩
  have HY0 : Hid (w0.heap[W.heap.size]? = some (.cells #[.int .i64 0, .int .i64 0, .slice none 0 0] 24)) := by show _ = _; rw [← hw0]; exact heap_alloc_new W _
  have HBX : Hid (Below W.heap.size W w0) := by show Below _ _ _; rw [← hw0]; exact balloc (bnil W) _
  have HS0 : Hid (w0.heap.size = W.heap.size + 1) := by show _ = _; rw [← hw0]; simp
  have HWB := Lib.hid hw0
  clear hF hm hT hw0
  go_enter Tryd.func23, Tryd.ntmps23
  go_wp2_with fail
  rw [HWB.out]
  refine (HSZ.out _).mono ?_; rintro e w' ⟨rfl, rfl⟩
  go_upto_region 3 with (first
    | (at_make; refine mk_full rfl _ _ _ rfl w0.heap.size et_int .i64 .i64 _ _ T rfl rfl rfl rfl (by omega) (by unfold maxLen; omega) (Nat.le_refl _) ?_; intro w1 hown1 hb1 hsz1; rw [made_i64P] at hown1; obtain ⟨gT, hgT⟩ : ∃ gT, w0.heap.size = gT := ⟨_, rfl⟩; rw [hgT] at hown1; simp only [hgT]; have HO1 := Lib.hid hown1; have HB1 := Lib.hid hb1; have HGT := Lib.hid hgT; clear hown1 hb1 hsz1 hgT))
  obtain ⟨w2, hw2⟩ : ∃ w2, w1.alloc (.cells #[.int .i64 k, .int .i64 r, .slice (some ⟨gT, 0, none⟩) T T] 24) = w2 := ⟨_, rfl⟩
  obtain ⟨g9, hg9⟩ : ∃ g9, w1.heap.size = g9 := ⟨_, rfl⟩
  have hb12 : Below w1.heap.size w1 w2 := by rw [← hw2]; exact balloc (bnil w1) _
  have HZ9 : Hid (w2.heap[g9]? = some (.cells #[.int .i64 k, .int .i64 r, .slice (some ⟨gT, 0, none⟩) T T] 24)) := by show _ = _; rw [← hw2, ← hg9]; exact heap_alloc_new w1 _
  have HO2 := Lib.hid (owns_up HO1.out hb12)
  have HB2 := Lib.hid (bstep (bstep HBX.out HB1.out) hb12)
  have HG9 : Hid (gT < g9) := by show _ < _; rw [← hg9]; exact own_lt HO1.out gT rfl
  have hs2 : w2.heap.size = g9 + 1 := by rw [← hw2, ← hg9]; simp
  have HW2 := Lib.hid hw2
  have HG9E := Lib.hid hg9
  clear hw2 hb12
  rw [HW2.out]
  try simp only [HG9E.out]
  clear hg9
  go_wp2_with (first
    | (at_make; refine mk_full rfl _ _ _ rfl w2.heap.size et_int .i64 .i64 _ _ m rfl rfl rfl rfl (by omega) (by unfold maxLen; omega) (Nat.le_refl _) ?_; intro w3 hown3 hb3 hsz3; rw [made_i64P] at hown3; obtain ⟨gw, hgw⟩ : ∃ gw, w2.heap.size = gw := ⟨_, rfl⟩; rw [hgw] at hown3; simp only [hgw]; have HO3 := Lib.hid hown3; have HB3 := Lib.hid hb3; have HGW := Lib.hid hgw; have hz3 := (hb3.block _ (heap_ltP HZ9.out)).trans HZ9.out; have HZ3 := Lib.hid hz3; obtain ⟨⟨z0, z1, z2⟩, _⟩ := cells3P hz3; clear hown3 hb3 hsz3 hgw hz3))
  have HGN : Hid (gT ≠ gw ∧ g9 ≠ gw ∧ W.heap.size < gT ∧ W.heap.size < gw) := by
    have h1 := HGT.out
    have h2 := HS0.out
    have h3 := HG9.out
    have h4 := HGW.out
    exact ⟨by omega, by omega, by omega, by omega⟩
  have HB3W := Lib.hid (bstep HB2.out HB3.out)
  have HT3 := Lib.hid (owns_up HO2.out HB3.out)
  have HY2 := Lib.hid ((HB1.out.block _ (heap_ltP HY0.out)).trans HY0.out)
  have HY2b : Hid (w2.heap[W.heap.size]? = some (.cells #[.int .i64 0, .int .i64 0, .slice none 0 0] 24)) := by show _ = _; rw [← HW2.out, heap_alloc_old _ _ (heap_ltP HY2.out)]; exact HY2.out
  have HY3 := Lib.hid ((HB3.out.block _ (heap_ltP HY2b.out)).trans HY2b.out)
  clear z0 z1 z2 hs2
  go_loopw [32] (fun ix wr => ∃ (i : Nat) (cur cw : List Int), i ≤ T ∧ ix = .int .i64 (i : Nat) ∧ PutP (fun n => f (digP k m n)) T cur i ∧ cw.length = m ∧ wr.ownsRow gT 3 1 (.slice (some ⟨gT, 0, none⟩) T T) T (cur.map (Value.int .i64)) ∧ wr.ownsRow gw 3 1 (.slice (some ⟨gw, 0, none⟩) m m) m (cw.map (Value.int .i64)) ∧ wr.heap[g9]? = some (.cells #[.int .i64 k, .int .i64 r, .slice (some ⟨gT, 0, none⟩) T T] 24) ∧ wr.heap[W.heap.size]? = some (.cells #[.int .i64 0, .int .i64 0, .slice none 0 0] 24) ∧ Below W.heap.size W wr) (fun ix _ => T - (intOf ix).toNat)
  case atStart => exact ⟨0, _, _, Nat.zero_le _, rfl, ⟨by simp, fun q h => by omega⟩, by simp, HT3.out, HO3.out, HZ3.out, HY3.out, HB3W.out⟩
  case round =>
    clear HT3 HO3 HZ3 HB3W HY3 HY2 HY2b HB3 HO2 HB2 HZ9 HO1 HB1
    obtain ⟨i, cur, cw, hi, rfl, hpt, hcw, hot, how, hz9, hy, hb⟩ := hrel
    have HY := Lib.hid hy
    clear hy
    have HPT := Lib.hid hpt
    have HCW := Lib.hid hcw
    have HOT := Lib.hid hot
    have HOW := Lib.hid how
    have HZ9 := Lib.hid hz9
    have HB := Lib.hid hb
    clear hpt hcw hot how hz9 hb
    by_cases hiT : i < T
    · have i1 : (i : Int) < (T : Int) := by omega
      have i0 : (0 : Int) ≤ (i : Int) := by omega
      go_wp2_with fail
      go_loopw [12, 38] (fun xx jx wz => ∃ (j x : Nat) (cw : List Int), j ≤ m ∧ jx = .int .i64 (j : Nat) ∧ xx = .int .i64 (x : Nat) ∧ x ≤ 16384 ∧ Hid (x = i / k ^ j) ∧ DigTo k m i cw j ∧ wz.ownsRow gT 3 1 (.slice (some ⟨gT, 0, none⟩) T T) T (cur.map (Value.int .i64)) ∧ wz.ownsRow gw 3 1 (.slice (some ⟨gw, 0, none⟩) m m) m (cw.map (Value.int .i64)) ∧ wz.heap[g9]? = some (.cells #[.int .i64 k, .int .i64 r, .slice (some ⟨gT, 0, none⟩) T T] 24) ∧ wz.heap[W.heap.size]? = some (.cells #[.int .i64 0, .int .i64 0, .slice none 0 0] 24) ∧ Below W.heap.size W wz) (fun _ jx _ => m - (intOf jx).toNat)
      case atStart => exact ⟨0, i, cw, Nat.zero_le _, rfl, rfl, by omega, by show i = i / k ^ 0; rw [Nat.pow_zero, Nat.div_one], ⟨HCW.out, fun q h1 h2 => by omega⟩, HOT.out, HOW.out, HZ9.out, HY.out, HB.out⟩
      case round =>
        clear HCW HOT HOW HZ9 HY HB cw
        obtain ⟨j, x, cw, hj, rfl, rfl, hx, HX, hdg, hot, how, hz9, hy, hb⟩ := hrel
        have HY := Lib.hid hy
        clear hy
        generalize wr = wz at *
        have HDG := Lib.hid hdg
        have HOT := Lib.hid hot
        have HOW := Lib.hid how
        have HZ9 := Lib.hid hz9
        have HB := Lib.hid hb
        clear hdg hot how hz9 hb
        by_cases hjm : j < m
        · have hcl := HDG.out.1
          have hst := own_set HOW.out (m - 1 - j) (.int .i64 ((x % k : Nat) : Int))
          have f0 := HOW.out.frozenAt (m - 1 - j)
          have c0 : wz.cell? ⟨gw, m - 1 - j, none⟩ = some (.int .i64 (cw.getD (m - 1 - j) 0)) := by rw [HOW.out.cellAt _ (by omega), map_atP _ _ _ (by omega)]
          rw [← List.map_set] at hst
          have HNX : Hid (DigTo k m i (cw.set (m - 1 - j) ((x % k : Nat) : Int)) (j + 1)) := by
            have h := digTo_set HDG.out hjm
            rw [← HX.out] at h
            exact h
          have HX2 : Hid (x / k = i / k ^ (j + 1)) := by show _ = _; rw [HX.out, Nat.div_div_eq_div_mul, ← Nat.pow_succ]
          have HST := Lib.hid hst
          have HOT2 := Lib.hid (own_heapP HOT.out (w' := wz.setCell ⟨gw, m - 1 - j, none⟩ (.int .i64 ((x % k : Nat) : Int))) (g := gw) (fun b hb => Below.heap_setCell _ _ _ _ hb) HGN.out.1)
          have HZ92 : Hid ((wz.setCell ⟨gw, m - 1 - j, none⟩ (.int .i64 ((x % k : Nat) : Int))).heap[g9]? = some (.cells #[.int .i64 k, .int .i64 r, .slice (some ⟨gT, 0, none⟩) T T] 24)) := by show _ = _; rw [Below.heap_setCell _ _ _ _ HGN.out.2.1]; exact HZ9.out
          have HY2 : Hid ((wz.setCell ⟨gw, m - 1 - j, none⟩ (.int .i64 ((x % k : Nat) : Int))).heap[W.heap.size]? = some (.cells #[.int .i64 0, .int .i64 0, .slice none 0 0] 24)) := by show _ = _; rw [Below.heap_setCell _ _ _ _ (by show _ ≠ gw; have := HGN.out.2.2.2; omega)]; exact HY.out
          have HBW := Lib.hid (HB.out.setCell (p := ⟨gw, m - 1 - j, none⟩) (by show _ ≤ gw; have := HGN.out.2.2.2; omega) (.int .i64 ((x % k : Nat) : Int)))
          obtain ⟨p, hp⟩ : ∃ p, m - 1 - j = p := ⟨_, rfl⟩
          obtain ⟨d, hd⟩ : ∃ d, x % k = d := ⟨_, rfl⟩
          obtain ⟨q, hq⟩ : ∃ q, x / k = q := ⟨_, rfl⟩
          have hqx : q ≤ x := by rw [← hq]; exact Nat.div_le_self _ _
          have e1 : IntKind.i64.wrap ((m : Int) - 1) = (m : Int) - 1 := IntWalk.i64_in _ (by omega)
          have e2 : (m : Int) - 1 - (j : Int) = (p : Int) := by omega
          have e3 : IntKind.i64.wrap (p : Int) = (p : Int) := IntWalk.i64_in _ (by omega)
          have e4 : (x : Int).tmod (k : Int) = (d : Int) := by rw [Int.tmod_eq_emod_of_nonneg (by omega), ← hd]; exact (Int.natCast_emod x k).symm
          have e5 : (x : Int).tdiv (k : Int) = (q : Int) := by rw [Int.tdiv_eq_ediv_of_nonneg (by omega), ← hq]; exact (Int.natCast_ediv x k).symm
          have e4' : (x : Int) % (k : Int) = (d : Int) := by rw [← hd]; exact (Int.natCast_emod x k).symm
          have e5' : (x : Int) / (k : Int) = (q : Int) := by rw [← hq]; exact (Int.natCast_ediv x k).symm
          have hdk : d < 4 := by rw [← hd]; exact Nat.lt_of_lt_of_le (Nat.mod_lt _ k1) k4
          have e6 : IntKind.i64.wrap (d : Int) = (d : Int) := IntWalk.i64_in _ (by omega)
          have e7 : IntKind.i64.wrap (q : Int) = (q : Int) := IntWalk.i64_in _ (by omega)
          have p0 : (0 : Int) ≤ (p : Int) := by omega
          have p1 : (p : Int) < (m : Int) := by omega
          have j1 : (j : Int) < (m : Int) := by omega
          rw [hp] at c0 f0
          rw [hp, hd] at HST HOT2 HZ92 HY2 HBW HNX
          rw [hq] at HX2
          clear hst hcl hp hd hq
          generalize cw.getD p 0 = y at *
          go_wp2
          go_roundw
          case rel => exact ⟨j + 1, q, _, by omega, by go_num, rfl, by omega, HX2, HNX.out, HOT2.out, HST.out, HZ92.out, HY2.out, HBW.out⟩
          case measure => simp [intOf]; omega
        · obtain rfl : j = m := by omega
          have j1 : ¬ (j : Int) < (j : Int) := by omega
          have hcw := digTo_end HDG.out
          subst hcw
          have HRW : Hid (RK .i64 wz (some ⟨gw, 0, none⟩) j (digP k j i)) := RK.of_own HOW.out
          obtain ⟨⟨z0, z1, z2⟩, _⟩ := cells3P HZ9.out
          have HS0' : Hid (wz.drew.cell? ⟨g9, 2, none⟩ = some (.slice (some ⟨gT, 0, none⟩) T T)) := z2
          have HCL := Lib.hid HPT.out.1
          have HBD : Hid (Below W.heap.size W wz.drew) := HB.out.drew
          have HRD : Hid (RK .i64 wz.drew (some ⟨gw, 0, none⟩) j (digP k j i)) := HRW.out
          have HSY : Hid (∀ x ∈ digP k j i, 0 ≤ x ∧ x < (k : Int)) := digP_sym k1
          have HNX : Hid (PutP (fun n => f (digP k j n)) T (cur.set i (f (digP k j i))) (i + 1)) := putP_set HPT.out hiT
          clear z0 z1 z2
          go_wp2_with fail
          go_region_held3 (fun w' => w'.cell? ⟨g9, 2, none⟩ = some (.slice (some ⟨gT, 0, none⟩) T T))
            (first | with_reducible exact HS6.out | with_reducible exact HS5.out | with_reducible exact HS0'.out | go_keep)
            (first
              | (have hef := hE; refine (HF.out _ HBD.out (some ⟨gw, 0, none⟩) j (digP k j i) HRD.out HSY.out).mono ?_; rintro e w5 ⟨rfl, hb5⟩; have hb6 : Below wz.heap.size wz w5 := (bnil wz).drew.trans hb5; have HT5 := Lib.hid (owns_up HOT.out hb6); have HO5 := Lib.hid (owns_up HOW.out hb6); have HZ5 := Lib.hid ((hb6.block _ (heap_ltP HZ9.out)).trans HZ9.out); have HS5 : Hid (w5.cell? ⟨g9, 2, none⟩ = some (.slice (some ⟨gT, 0, none⟩) T T)) := (cells3P HZ5.out).1.2.2; have HY5 := Lib.hid ((hb6.block _ (heap_ltP HY.out)).trans HY.out); have HZ6 : Hid ((w5.setCell ⟨gT, i, none⟩ (.int .i64 (f (digP k j i)))).heap[g9]? = some (.cells #[.int .i64 k, .int .i64 r, .slice (some ⟨gT, 0, none⟩) T T] 24)) := (by show _ = _; rw [Below.heap_setCell _ _ _ _ (by show _ ≠ gT; have := HG9.out; omega)]; exact HZ5.out); have HS6 := Lib.hid (cells3P HZ6.out).1.2.2; have HB5 := Lib.hid (bstep HB.out hb6); have f0 := HT5.out.frozenAt i; have c0 : w5.cell? ⟨gT, i, none⟩ = some (.int .i64 (cur.getD i 0)) := (by rw [HT5.out.cellAt _ (by omega), map_atP _ _ _ (by rw [HCL.out]; exact hiT)]); clear hef hb5 hb6))
          all_goals
            have hst := own_set HT5.out i (.int .i64 (f (digP k j i)))
            rw [← List.map_set] at hst
            have HST := Lib.hid hst
            have HO6 := Lib.hid (own_heapP HO5.out (w' := w5.setCell ⟨gT, i, none⟩ (.int .i64 (f (digP k j i)))) (g := gT) (fun b hb => Below.heap_setCell _ _ _ _ hb) (fun e => HGN.out.1 e.symm))
            have HY6 : Hid ((w5.setCell ⟨gT, i, none⟩ (.int .i64 (f (digP k j i)))).heap[W.heap.size]? = some (.cells #[.int .i64 0, .int .i64 0, .slice none 0 0] 24)) := by show _ = _; rw [Below.heap_setCell _ _ _ _ (by show _ ≠ gT; have := HGN.out.2.2.1; omega)]; exact HY5.out
            have HB6 := Lib.hid (HB5.out.setCell (p := ⟨gT, i, none⟩) (by show _ ≤ gT; have := HGN.out.2.2.1; omega) (.int .i64 (f (digP k j i))))
            clear hst
            generalize f (digP k j i) = v at *
            go_wp2
            go_roundw
            case rel => exact ⟨i + 1, _, _, by omega, by go_num, HNX.out, digP_len _ _ _, HST.out, HO6.out, HZ6.out, HY6.out, HB6.out⟩
            case measure => simp [intOf]; omega
    · obtain rfl : i = T := by omega
      have i1 : ¬ (i : Int) < (i : Int) := by omega
      have hcur : cur = madeT k m f := putP_end HPT.out (by rw [madeT_len, HT.out]) (fun q hq => madeT_at (by rw [HT.out]; exact hq))
      subst hcur
      have hgy : W.heap.size < w0.heap.size := by have := HS0.out; omega
      have HY9 : Hid (wr.heap[W.heap.size]? = some (.cells #[.int .i64 0, .int .i64 0, .slice none 0 0] 24)) := HY.out
      obtain ⟨⟨p0, p1, p2⟩, f3, f4, f5⟩ := cells3P HY9.out
      obtain ⟨⟨z0, z1, z2⟩, _⟩ := cells3P HZ9.out
      obtain ⟨w9, e9, hk, hs, hbl, hz⟩ := set3P HY9.out (.int .i64 k) (.int .i64 r) (.slice (some ⟨gT, 0, none⟩) i i)
      obtain ⟨⟨r0, r1, r2⟩, _⟩ := cells3P hz
      have HRK := Lib.hid (rk_heapP (RK.of_own HOT.out) hk hs (by have := HGN.out.2.2.1; omega))
      have HBE := Lib.hid (hbl W W.heap.size (Nat.le_refl _) HB.out)
      have HE9 := Lib.hid e9
      have HRR := Lib.hid (And.intro r0 (And.intro r1 r2))
      clear e9 hk hs hbl hz r0 r1 r2
      go_wp2
      rw [HE9.out]
      have r0 := HRR.out.1
      have r1 := HRR.out.2.1
      have r2 := HRR.out.2.2
      refine bodyPost_ret (v := ruleV k r (some ⟨gT, 0, none⟩) i i) (by simp [ruleV, results, Tryd.results23, go_sem, r0, r1, r2]) rfl ?_
      exact ⟨gT, rfl, HRK.out, by have := HGN.out.2.2.1; omega, HBE.out⟩
end Go.Proofs.YtnmegpplfbkpcaaDoor
