/- judge: does an entry hold. -/
import Derived.Test.YtocfkmdoalhjmaaDoorJdgA
import Derived.Test.YtocfkmdoalhjmaaDoorJdgK
namespace Go.Proofs.YtocfkmdoalhjmaaDoor
open Go.RowKit
set_option linter.unusedVariables false
set_option maxRecDepth 100000

/-- how many looks, and whether an entry (col, xa, xb) holds behind acc: r columns to come, the first of them c; n looks so far -/
def holdsF (t : List Int) (h want col xa xb : Nat) (acc : List (Int × Int × Int)) : Nat → Nat → Nat → Nat × Bool
  | 0, _, n => (n, true)
  | r + 1, c, n => if (looksF t xa xb c want h 0).2 = true ∧ ¬ (((col + 1 : Nat) : Int), (xb : Int), (c : Int)) ∈ acc then (n + (looksF t xa xb c want h 0).1, false) else holdsF t h want col xa xb acc r (c + 1) (n + (looksF t xa xb c want h 0).1)
theorem holdsF_le (t : List Int) (h want col xa xb : Nat) (acc : List (Int × Int × Int)) : ∀ r c n, n ≤ (holdsF t h want col xa xb acc r c n).1 ∧ (holdsF t h want col xa xb acc r c n).1 ≤ n + r * h
  | 0, c, n => by simp [holdsF]
  | r + 1, c, n => by
    have hl := (looksF_le t xa xb c want h 0).2
    have ih := holdsF_le t h want col xa xb acc r (c + 1) (n + (looksF t xa xb c want h 0).1)
    have hm : (r + 1) * h = r * h + h := Nat.succ_mul r h
    unfold holdsF
    split
    · show n ≤ n + _ ∧ n + _ ≤ _; omega
    · omega
theorem cell_allocS {w : World} {p : Addr} {v : Value} (o : Obj) (h : w.cell? p = some v) : (w.alloc o).cell? p = some v := al000 h
theorem grown_alloc {w w' : World} {r : Option Nat} (o : Obj) (h : w.grownBy w' r) : w.grownBy (w'.alloc o) r := grown_trans h (World.grownBy_alloc w' o r)
theorem wf64 {n : Int} (h0 : 0 ≤ n) (h1 : n ≤ 1000000000) : (Lit.int .i64 n).wf = true := by
  have h2 : IntKind.i64.wrap n = n := IntWalk.i64_in _ (by omega)
  simp [Lit.wf, IntKind.min, IntKind.max, IntKind.bits, IntKind.signed]
  omega
theorem wf3N {a b c : Nat} (h1 : a ≤ 1000000000) (h2 : b ≤ 1000000000) (h3 : c ≤ 1000000000) : Wf3 ((a : Int), (b : Int), (c : Int)) := ⟨wf64 (by show (0 : Int) ≤ (a : Int); omega) (by show (a : Int) ≤ _; omega), wf64 (by show (0 : Int) ≤ (b : Int); omega) (by show (b : Int) ≤ _; omega), wf64 (by show (0 : Int) ≤ (c : Int); omega) (by show (c : Int) ≤ _; omega)⟩
theorem unit_zero (w : World) : (zeroValue 140).run Tryd.prog w = .ok (.agg #[]) w := by kernel_rfl
set_option maxHeartbeats 16000000 in
theorem jholds_any (g ab ao cT mb n : Nat) (t : List Int) (k h col xa xb want : Nat) (pw : Int) (pa : Option Addr) (pn pc : Nat) (cb0 co nC cC : Nat) (acc : List (Int × Int × Int)) (W : World) (hne : ab ≠ g) (hnm : mb ≠ g) (hnc : cb0 ≠ g)
    (hT : RK .i64 W (some ⟨ab, ao, none⟩) 512 t) (hz : TB W g (some ⟨ab, ao, none⟩) 512 cT k) (hk : k < 50000000) (hh : h ≤ 4) (ha : xa < 1024) (hb : xb < 1024) (hw : want < 1024) (hcol : col < nC) (hcn : nC ≤ 1000000)
    (hC : W.cell? ⟨cb0, co + col, none⟩ = some (.int .i64 (want : Nat))) (hcB : cb0 < W.heap.size) (hM : MapE W mb n acc) (hacc : ∀ y ∈ acc, Wf3 y) :
    Calls Tryd.prog 85 #[.pointer (some ⟨g, 0, none⟩), patV pw h pa pn pc, .slice (some ⟨cb0, co, none⟩) nC cC, .agg #[.int .i64 (col : Nat), .int .i64 (xa : Nat), .int .i64 (xb : Nat)], .map (some mb)] W fun e w' =>
      e = .returned (.bool (holdsF t h want col xa xb acc (4 * 2 ^ h) 0 0).2) ∧ TB w' g (some ⟨ab, ao, none⟩) 512 cT (k + (holdsF t h want col xa xb acc (4 * 2 ^ h) 0 0).1) ∧ W.grownBy w' (some g) := by
  obtain ⟨HF, hHF⟩ : ∃ HF, holdsF t h want col xa xb acc (4 * 2 ^ h) 0 0 = HF := ⟨_, rfl⟩
  rw [hHF]
  obtain ⟨M, hM4⟩ : ∃ M, 4 * 2 ^ h = M := ⟨_, rfl⟩
  rw [hM4] at hHF
  have hM64 : M ≤ 64 := by
    rw [← hM4]
    have := Nat.pow_le_pow_right (n := 2) (by omega) hh
    have h2 : (2 : Nat) ^ 4 = 16 := by decide
    omega
  have hMI : (4 : Int) * 2 ^ h = (M : Int) := by rw [← hM4, Int.natCast_mul, Int.natCast_pow]; rfl
  have hMw : IntKind.i64.wrap (M : Int) = (M : Int) := IntWalk.i64_in _ (by omega)
  have h0I : (0 : Int) ≤ (h : Int) := by omega
  have h64I : (h : Int) ≤ 64 := by omega
  obtain ⟨bp, hbp⟩ : ∃ bp, W.heap.size = bp := ⟨_, rfl⟩
  obtain ⟨Wb, hWb⟩ : ∃ Wb, (W.alloc (.cells #[.int .i64 pw, .int .i64 (h : Nat), .slice pa pn pc] 24)).alloc (.cells #[.int .i64 (col : Nat), .int .i64 (xa : Nat), .int .i64 (xb : Nat)] 82) = Wb := ⟨_, rfl⟩
  have hgb : W.grownBy Wb (some g) := by rw [← hWb]; exact grown_alloc _ (World.grownBy_alloc W _ _)
  have hgl : g < W.heap.size := by rcases Nat.lt_or_ge g W.heap.size with h | h; exact h; rw [TB, Array.getElem?_eq_none h] at hz; cases hz
  have HC0 : Hid (Wb.cell? ⟨bp, 1, none⟩ = some (.int .i64 (h : Nat)) ∧ Wb.cell? ⟨bp + 1, 0, none⟩ = some (.int .i64 (col : Nat)) ∧ Wb.cell? ⟨bp + 1, 1, none⟩ = some (.int .i64 (xa : Nat)) ∧ Wb.cell? ⟨bp + 1, 2, none⟩ = some (.int .i64 (xb : Nat)) ∧ Wb.cell? ⟨cb0, co + col, none⟩ = some (.int .i64 (want : Nat))) := by
    show _ ∧ _
    rw [← hWb, ← hbp]
    refine ⟨al000 (cnw (by simp) rfl), ?_, ?_, ?_, al000 (al000 hC)⟩
    · exact cnw (by simp) rfl
    · exact cnw (by simp) rfl
    · exact cnw (by simp) rfl
  have HTb : Hid (RK .i64 Wb (some ⟨ab, ao, none⟩) 512 t) := rk_grown hT hgb hne
  have HZb : Hid (TB Wb g (some ⟨ab, ao, none⟩) 512 cT k) := by show TB _ _ _ _ _ _; rw [← hWb]; exact (balloc (balloc (bnil W) _) _).block g hgl |>.trans hz
  have HMb : Hid (MapE Wb mb n acc) := mapE_grown hM hgb hnm
  have HGb := Lib.hid hgb
  have HWb := Lib.hid hWb
  have HBP : Hid (bp ≠ g ∧ bp + 1 ≠ g) := ⟨by omega, by omega⟩
  have HAC := Lib.hid hacc
  have HHF := Lib.hid hHF
  have HBPE := Lib.hid hbp
  clear hgb hWb hz hT hM hC hacc hHF hgl
  go_enter Tryd.func85, Tryd.ntmps85
  have p1 : ((W.alloc (.cells #[.int .i64 pw, .int .i64 (h : Nat), .slice pa pn pc] 24)).alloc (.cells #[.int .i64 (col : Nat), .int .i64 (xa : Nat), .int .i64 (xb : Nat)] 82)).cell? ⟨W.heap.size, 1, none⟩ = some (.int .i64 (h : Nat)) := by rw [HWb.out, HBPE.out]; exact HC0.out.1
  clear hbp
  go_wp2_with fail
  rw [HWb.out, HBPE.out]
  clear p1
  go_loopw [17] (fun ix wr => ∃ c nn : Nat, c ≤ M ∧ nn ≤ 4 * c ∧ ix = .int .i64 (c : Nat) ∧ holdsF t h want col xa xb acc (M - c) c nn = HF ∧ TB wr g (some ⟨ab, ao, none⟩) 512 cT (k + nn) ∧ Wb.grownBy wr (some g)) (fun ix _ => M - (intOf ix).toNat)
  case atStart => exact ⟨0, 0, by omega, by omega, rfl, HHF.out, HZb.out, grown_refl _ _⟩
  case round =>
    obtain ⟨c, nn, hc, hnn, rfl, hrun, hz, hg⟩ := hrel
    have HG := Lib.hid hg
    have HZ2 := Lib.hid hz
    clear hg hz HHF
    generalize wr = wo at *
    by_cases hcM : c < M
    · obtain ⟨m, hm⟩ : ∃ m, M - c = m + 1 := ⟨M - c - 1, by omega⟩
      have hm2 : M - (c + 1) = m := by omega
      rw [hm] at hrun
      unfold holdsF at hrun
      rw [← hm2] at hrun
      have c1 : (c : Int) < (M : Int) := by omega
      have c0 : (0 : Int) ≤ (c : Int) := by omega
      have hll := (looksF_le t xa xb c want h 0).2
      have hC := fun (w : World) (hT : RK .i64 w (some ⟨ab, ao, none⟩) 512 t) (hz : TB w g (some ⟨ab, ao, none⟩) 512 cT (k + nn)) => jmakes_any g ab ao cT t (k + nn) h xa xb c want w hne hT hz (by omega) hh ha hb (by omega) hw
      obtain ⟨lk, lb, hlk⟩ : ∃ lk lb, looksF t xa xb c want h 0 = (lk, lb) := ⟨_, _, rfl⟩
      rw [hlk] at hrun hll hC
      simp only at hrun hll hC
      have HC := Lib.hid hC
      have cg : ∀ {p : Addr} {v : Value}, Wb.cell? p = some v → p.block ≠ g → wo.cell? p = some v := fun h hn => grown_cell HG.out hn h
      have z1 := cg HC0.out.1 HBP.out.1
      have x0 := cg HC0.out.2.1 HBP.out.2
      have x1 := cg HC0.out.2.2.1 HBP.out.2
      have x2 := cg HC0.out.2.2.2.1 HBP.out.2
      have y0 := cg HC0.out.2.2.2.2 hnc
      have HS0 : Hid (wo.drew.cell? ⟨bp, 1, none⟩ = some (.int .i64 (h : Nat)) ∧ wo.drew.cell? ⟨bp + 1, 0, none⟩ = some (.int .i64 (col : Nat)) ∧ wo.drew.cell? ⟨bp + 1, 1, none⟩ = some (.int .i64 (xa : Nat)) ∧ wo.drew.cell? ⟨bp + 1, 2, none⟩ = some (.int .i64 (xb : Nat)) ∧ wo.drew.cell? ⟨cb0, co + col, none⟩ = some (.int .i64 (want : Nat))) := ⟨z1, x0, x1, x2, y0⟩
      have HTr : Hid (RK .i64 wo.drew (some ⟨ab, ao, none⟩) 512 t) := (rk_grown HTb.out HG.out hne).up (Below.drew (bnil wo))
      have HZr : Hid (TB wo.drew g (some ⟨ab, ao, none⟩) 512 cT (k + nn)) := HZ2.out
      have co0 : (0 : Int) ≤ (col : Int) := by omega
      have co1 : (col : Int) < (nC : Int) := by omega
      clear hC hlk hm hm2 z1 x0 x1 x2 y0 cg
      cases lb with
      | false =>
        rw [if_neg (fun h => by cases h.1)] at hrun
        have HRUN := Lib.hid hrun
        clear hrun
        go_wp2_with fail
        go_region_held3 (fun w' => w'.cell? ⟨bp, 1, none⟩ = some (.int .i64 (h : Nat)) ∧ w'.cell? ⟨bp + 1, 0, none⟩ = some (.int .i64 (col : Nat)) ∧ w'.cell? ⟨bp + 1, 1, none⟩ = some (.int .i64 (xa : Nat)) ∧ w'.cell? ⟨bp + 1, 2, none⟩ = some (.int .i64 (xb : Nat)) ∧ w'.cell? ⟨cb0, co + col, none⟩ = some (.int .i64 (want : Nat)))
          (first | with_reducible exact HS5.out | with_reducible exact HS0.out | go_keep)
          (first | (go_at_call 113; refine (HC.out _ HTr.out HZr.out).mono ?_; rintro e w5 ⟨rfl, hz5, hg5⟩; have HZ5 := Lib.hid hz5; have HG5 := Lib.hid hg5; have HS5 := Lib.hid (And.intro (grown_cell hg5 HBP.out.1 HS0.out.1) (And.intro (grown_cell hg5 HBP.out.2 HS0.out.2.1) (And.intro (grown_cell hg5 HBP.out.2 HS0.out.2.2.1) (And.intro (grown_cell hg5 HBP.out.2 HS0.out.2.2.2.1) (grown_cell hg5 hnc HS0.out.2.2.2.2))))); clear hz5 hg5))
        all_goals
          have HG6 : Hid (Wb.grownBy w5 (some g)) := grown_trans (grown_drew HG.out) HG5.out
          have HZ6 : Hid (TB w5 g (some ⟨ab, ao, none⟩) 512 cT (k + (nn + lk))) := by show TB _ _ _ _ _ _; rw [← Nat.add_assoc]; exact HZ5.out
          clear HC
          go_wp2
          go_roundw
          case rel => exact ⟨c + 1, nn + lk, by omega, by omega, by go_num, HRUN.out, HZ6.out, HG6.out⟩
          case measure => simp [intOf]; omega
      | true =>
        go_wp2_with fail
        go_region_held3 (fun w' => w'.cell? ⟨bp, 1, none⟩ = some (.int .i64 (h : Nat)) ∧ w'.cell? ⟨bp + 1, 0, none⟩ = some (.int .i64 (col : Nat)) ∧ w'.cell? ⟨bp + 1, 1, none⟩ = some (.int .i64 (xa : Nat)) ∧ w'.cell? ⟨bp + 1, 2, none⟩ = some (.int .i64 (xb : Nat)) ∧ w'.cell? ⟨cb0, co + col, none⟩ = some (.int .i64 (want : Nat)))
          (first | with_reducible exact HS5.out | with_reducible exact HS0.out | go_keep)
          (first | (go_at_call 113; refine (HC.out _ HTr.out HZr.out).mono ?_; rintro e w5 ⟨rfl, hz5, hg5⟩; have HZ5 := Lib.hid hz5; have HG5 := Lib.hid hg5; have HS5 := Lib.hid (And.intro (grown_cell hg5 HBP.out.1 HS0.out.1) (And.intro (grown_cell hg5 HBP.out.2 HS0.out.2.1) (And.intro (grown_cell hg5 HBP.out.2 HS0.out.2.2.1) (And.intro (grown_cell hg5 HBP.out.2 HS0.out.2.2.2.1) (grown_cell hg5 hnc HS0.out.2.2.2.2))))); clear hz5 hg5))
        all_goals
          have HG6 : Hid (Wb.grownBy w5 (some g)) := grown_trans (grown_drew HG.out) HG5.out
          have HZ6 : Hid (TB w5 g (some ⟨ab, ao, none⟩) 512 cT (k + (nn + lk))) := by show TB _ _ _ _ _ _; rw [← Nat.add_assoc]; exact HZ5.out
          have HM6 : Hid (MapE w5 mb n acc) := mapE_grown HMb.out HG6.out hnm
          have q0 := HS5.out.2.1
          have q2 := HS5.out.2.2.2.1
          have hwf : Wf3 (((col + 1 : Nat) : Int), (xb : Int), (c : Int)) := wf3N (by omega) (by omega) (by omega)
          have hkey := key_ent _ hwf
          have hhas := has_setE HAC.out hwf
          have ecol : ((col + 1 : Nat) : Int) = (col : Int) + 1 := by omega
          rw [ecol] at hkey hhas hwf hrun
          have colw : IntKind.i64.wrap ((col : Int) + 1) = (col : Int) + 1 := IntWalk.i64_in _ (by omega)
          clear HC hwf ecol
          by_cases hmem : ((col : Int) + 1, (xb : Int), (c : Int)) ∈ acc
          · rw [decide_eq_true hmem] at hhas
            rw [if_neg (fun h => h.2 hmem)] at hrun
            have HKEY := Lib.hid (And.intro hkey hhas)
            have HRUN := Lib.hid hrun
            clear hkey hhas hrun hmem
            go_wp2_with (first
              | (at_lookup; refine wpList_lookup_own_unit _ rfl _ _ 138 rfl 82 140 lawE Tryd.underlying138 (unit_zero _) mb n (setE acc) rfl HM6.out _ _ rfl HKEY.out.1 ?_; rw [HKEY.out.2]))
            have HG7 : Hid (Wb.grownBy (w5.alloc (.cells #[] 140)) (some g)) := grown_alloc _ HG6.out
            have HZ7 : Hid (TB (w5.alloc (.cells #[] 140)) g (some ⟨ab, ao, none⟩) 512 cT (k + (nn + lk))) := ((balloc (bnil w5) _).block g (heap_ltT HZ6.out)).trans HZ6.out
            go_roundw
            case rel => exact ⟨c + 1, nn + lk, by omega, by omega, by go_num, HRUN.out, HZ7.out, HG7.out⟩
            case measure => simp [intOf]; omega
          · rw [decide_eq_false hmem] at hhas
            rw [if_pos ⟨trivial, hmem⟩] at hrun
            have HKEY := Lib.hid (And.intro hkey hhas)
            have HRUN := Lib.hid hrun
            clear hkey hhas hrun hmem
            go_wp2_with (first
              | (at_lookup; refine wpList_lookup_own_unit _ rfl _ _ 138 rfl 82 140 lawE Tryd.underlying138 (unit_zero _) mb n (setE acc) rfl HM6.out _ _ rfl HKEY.out.1 ?_; rw [HKEY.out.2]))
            have HG7 : Hid (Wb.grownBy (w5.alloc (.cells #[] 140)) (some g)) := grown_alloc _ HG6.out
            have HZ7 : Hid (TB (w5.alloc (.cells #[] 140)) g (some ⟨ab, ao, none⟩) 512 cT (k + (nn + lk))) := ((balloc (bnil w5) _).block g (heap_ltT HZ6.out)).trans HZ6.out
            go_ret
            rw [← HRUN.out]
            exact ⟨rfl, HZ7.out, grown_trans HGb.out HG7.out⟩
    · obtain rfl : c = M := by omega
      rw [Nat.sub_self] at hrun
      have HRUN := Lib.hid hrun
      clear hrun
      go_wp2
      go_ret
      rw [← HRUN.out]
      exact ⟨rfl, HZ2.out, grown_trans HGb.out HG.out⟩
end Go.Proofs.YtocfkmdoalhjmaaDoor
