/- edenref24.Ways of a right table and patch. -/
import Derived.Test.YtoaooblodgejdaaDoorEvP
import Derived.Test.YtoaooblodgejdaaDoorSym24
import Derived.Test.YtoaooblodgejdaaDoorMst
import Derived.Test.YtoaooblodgejdaaDoorRefPJ
import Derived.Deep.QuietTactic
import Derived.BigQuiet
namespace Go.Proofs.YtoaooblodgejdaaDoor
open Go.RowKit
set_option linter.unusedVariables false
set_option maxRecDepth 100000

abbrev u64s (N : Nat) (f : Nat → Nat) : List Value := (List.range N).map fun j => Value.int .u64 ((f j : Nat) : Int)
theorem u64s_at {N j : Nat} (f : Nat → Nat) (h : j < N) : (u64s N f)[j]? = some (.int .u64 ((f j : Nat) : Int)) := by simp [u64s, h]
theorem u64s_set {N j x : Nat} (f g : Nat → Nat) (hg : ∀ i, i < N → g i = if i = j then x else f i) : (u64s N f).set j (.int .u64 (x : Nat)) = u64s N g := by
  apply List.ext_getElem
  · simp [u64s]
  · intro i h1 h2
    simp only [u64s, List.length_map, List.length_range, List.length_set] at h1 h2
    rw [List.getElem_set]
    simp only [u64s, List.getElem_map, List.getElem_range]
    rw [hg i h2]
    by_cases e : j = i
    · rw [if_pos e, if_pos e.symm]
    · rw [if_neg e, if_neg (fun e2 => e e2.symm)]
theorem made_u64 (N : Nat) : (madeCells (Value.int .u64 0).cells (N * 1)).toList = u64s N fun _ => 0 := by
  rw [show (Value.int .u64 0).cells = #[.int .u64 0] from by rfl, toList_madeCells_one]
  simp [u64s, List.map_const']
theorem bdrewN' {B : Nat} {a b : World} (h : Below B a b) (n : Nat) : Below B a (b.drewN n) := below_drewN h n
theorem u64_add (p q : Nat) : IntKind.u64.wrap ((p : Int) + (q : Int)) = (((p + q) % M64 : Nat) : Int) := by
  have h : IntKind.u64.wrap ((p : Int) + (q : Int)) = ((p : Int) + (q : Int)) % 18446744073709551616 := rfl
  rw [h]
  show _ = (((p + q) % 18446744073709551616 : Nat) : Int)
  omega
set_option maxHeartbeats 16000000 in
theorem ways24_any (w h : Nat) (a aT : Option Addr) (n c cT : Nat) (l t : List Int) (W : World) (hR : RK .i64 W a n l) (hm : n ≤ maxLen) (hT : RK .i64 W aT 512 t) (hp : IsPatch w h l) (hw8 : w ≤ 8) (hh4 : h ≤ 4) :
    Calls Tryd.prog 50 #[.slice aT 512 cT, patV w h a n c] W fun e w' => e = .returned (.int .u64 ((waysF t (colL w h l) h (4 * 2 ^ h) w : Nat) : Int)) ∧ Below W.heap.size W w' := by
  have T0 := Tk.nil W
  have T1 := T0.add (fun wv => Below W.heap.size W wv) (bnil W)
  clear T0
  have T2 := T1.add (fun wv => RK .i64 wv a n l) (hR)
  clear T1
  have T3 := T2.add (fun wv => RK .i64 wv aT 512 t) (hT)
  clear T2
  have HPP := Lib.hid hp
  clear hR hT hp
  obtain ⟨M, hM⟩ : ∃ M, 4 * 2 ^ h = M := ⟨_, rfl⟩
  rw [hM]
  have hMO := fun W => most24_any h hh4 W
  simp only [hM] at hMO
  have HMO := Lib.hid hMO
  have hM64 : M ≤ 64 := by
    rw [← hM]
    have := Nat.pow_le_pow_right (n := 2) (by omega) hh4
    have h2 : (2 : Nat) ^ 4 = 16 := by decide
    omega
  have hM1 : 1 ≤ M := by
    rw [← hM]
    have := Nat.one_le_two_pow (n := h)
    omega
  obtain ⟨CL, hCL⟩ : ∃ CL, colL w h l = CL := ⟨_, rfl⟩
  rw [hCL]
  have HMC := Lib.hid (And.intro hM hCL)
  obtain ⟨WF, hWF⟩ : ∃ WF, waysF t CL h M w = WF := ⟨_, rfl⟩
  rw [hWF]
  have HWF := Lib.hid hWF
  clear hWF
  obtain ⟨NN, hNN⟩ : ∃ NN, M * M = NN := ⟨_, rfl⟩
  have hNNb : NN ≤ 4096 := by rw [← hNN]; exact Nat.mul_le_mul hM64 hM64
  have HNN := Lib.hid hNN
  have hNNI : (M : Int) * (M : Int) = (NN : Int) := by rw [← hNN]; exact (Int.natCast_mul _ _).symm
  have hNNw : IntKind.i64.wrap (NN : Int) = (NN : Int) := IntWalk.i64_in _ (by omega)
  have et_ul : ET Tryd.prog 109 36 (.int .u64 0) 1 8 := ⟨Tryd.underlying109, info_parts (by kernel_rfl), rfl, by decide⟩
  have HETB := Lib.hid et_ul
  clear hM hCL hMO et_ul hNN
  obtain ⟨Wb, hWb⟩ : ∃ Wb, W.alloc (.cells #[.int .i64 w, .int .i64 h, .slice a n c] 24) = Wb := ⟨_, rfl⟩
  have hbWb : Below W.heap.size W Wb := by rw [← hWb]; exact balloc (bnil W) _
  have T4 := T3.up hbWb
  clear T3
  have T5 := T4.add (fun wv => wv.cell? ⟨W.heap.size, 0, none⟩ = some (.int .i64 w) ∧ wv.cell? ⟨W.heap.size, 1, none⟩ = some (.int .i64 h) ∧ wv.cell? ⟨W.heap.size, 2, none⟩ = some (.slice a n c)) (by rw [← hWb]; exact ⟨cnw (by simp) rfl, cnw (by simp) rfl, cnw (by simp) rfl⟩)
  clear T4
  have HWb := Lib.hid hWb
  clear hWb hbWb
  go_enter Tryd.func50, Tryd.ntmps50
  have hcd : colD (w : Int) (h : Int) l = none := by unfold colD; rw [patchErr_of HPP.out]; exact if_neg (by omega)
  have hco : colO (w : Int) (h : Int) l = colL w h l := by unfold colO; rw [hcd]; rfl
  have HCO := Lib.hid (And.intro hco hcd)
  clear hcd hco
  have v_p0 : (W.alloc (.cells #[.int .i64 w, .int .i64 h, .slice a n c] 24)).cell? ⟨W.heap.size, 0, none⟩ = some (.int .i64 w) := by rw [HWb.out]; exact T5.out.2.1
  have v_p1 : (W.alloc (.cells #[.int .i64 w, .int .i64 h, .slice a n c] 24)).cell? ⟨W.heap.size, 1, none⟩ = some (.int .i64 h) := by rw [HWb.out]; exact T5.out.2.2.1
  have v_p2 : (W.alloc (.cells #[.int .i64 w, .int .i64 h, .slice a n c] 24)).cell? ⟨W.heap.size, 2, none⟩ = some (.slice a n c) := by rw [HWb.out]; exact T5.out.2.2.2
  go_wp2_with fail
  rw [HWb.out]
  refine (refcol_any w h a n c l Wb T5.out.1.1.2 hm).mono ?_; rintro e wc ⟨ac, nc, cc, N5, p1, p2, p3, p4, p5, p6, rfl, hcol, _, _, hbwc⟩
  clear v_p0 v_p1 v_p2
  have T6 := T5.up hbwc
  clear T5
  rw [HCO.out.1] at hcol
  obtain rfl : w = nc := by rw [hcol.len, colL_len]
  have T7 := T6.add (fun wv => RK .i64 wv ac w (colL w h l)) (hcol)
  clear T6
  clear hcol HCO
  obtain ⟨wd, hwd⟩ : ∃ wd, wc.alloc (.cells #[.int .i64 N5, .slice p1 p2 p3, .slice p4 p5 p6] 60) = wd := ⟨_, rfl⟩
  have hbwd : Below wc.heap.size wc wd := by rw [← hwd]; exact balloc (bnil wc) _
  have T8 := T7.up hbwd
  clear T7
  have Hwd := Lib.hid hwd
  clear hwd hbwd
  have v_p1 : (wc.alloc (.cells #[.int .i64 N5, .slice p1 p2 p3, .slice p4 p5 p6] 60)).cell? ⟨W.heap.size, 1, none⟩ = some (.int .i64 h) := by rw [Hwd.out]; exact T8.out.1.2.2.1
  go_wp2_with fail
  rw [Hwd.out]
  refine (HMO.out wd).mono ?_; rintro e w4 ⟨rfl, hw4⟩
  rw [hw4]
  clear hw4 v_p1
  go_wp2_with (first
    | (at_make; refine mk_full rfl _ _ _ rfl wd.heap.size HETB.out .i64 .i64 _ _ NN rfl rfl rfl rfl (by omega) (by unfold maxLen; omega) (Nat.le_refl _) ?_; intro w5 hown5 hb5 hsz5; rw [made_u64] at hown5; have HOB := Lib.hid hown5; have HBB := Lib.hid hb5; clear hown5 hb5 hsz5))
  obtain ⟨g, hg⟩ : ∃ g, wd.heap.size = g := ⟨_, rfl⟩
  have HO0 : Hid (w5.ownsRow g 36 1 (.slice (some ⟨g, 0, none⟩) NN NN) NN (u64s NN fun j => if j < 0 then 1 else 0)) := by show World.ownsRow _ _ _ _ _ _ _; rw [← hg]; exact HOB.out
  have HB0 : Hid (Below g wd w5) := by rw [← hg]; exact HBB.out
  have HG := Lib.hid hg
  simp only [hg]
  clear hg HOB HBB
  go_loopw [9] (fun ix wr => ∃ i : Nat, i ≤ NN ∧ ix = .int .i64 (i : Nat) ∧ wr.ownsRow g 36 1 (.slice (some ⟨g, 0, none⟩) NN NN) NN (u64s NN fun j => if j < i then 1 else 0) ∧ Below g wd wr) (fun ix _ => NN - (intOf ix).toNat)
  case atStart => exact ⟨0, by omega, rfl, HO0.out, HB0.out⟩
  case round =>
    obtain ⟨i, hi, rfl, ho, hb⟩ := hrel
    have HO := Lib.hid ho
    have HBJ := Lib.hid hb
    clear ho hb HO0 HB0
    by_cases hiN : i < NN
    · have hfz := HO.out.frozenAt i
      have hca := HO.out.cellAt i (by omega)
      rw [u64s_at _ hiN] at hca
      have hO9 := own_set HO.out i (.int .u64 ((1 : Nat) : Int))
      rw [u64s_set _ (fun j => if j < i + 1 then 1 else 0) (fun j _ => by
        show (if j < i + 1 then 1 else 0) = if j = i then 1 else if j < i then 1 else 0
        by_cases e : j = i
        · rw [if_pos e, if_pos (by omega)]
        · rw [if_neg e]
          by_cases e2 : j < i
          · rw [if_pos e2, if_pos (by omega)]
          · rw [if_neg e2, if_neg (by omega)])] at hO9
      have HO9 := Lib.hid hO9
      have HB9 := Lib.hid (HBJ.out.setCell (p := ⟨g, i, none⟩) (Nat.le_refl g) (.int .u64 ((1 : Nat) : Int)))
      have k0 : (0 : Int) ≤ (i : Int) := by omega
      have k1 : (i : Int) < (NN : Int) := by omega
      have kw : IntKind.i64.wrap ((i : Int) + 1) = (i : Int) + 1 := IntWalk.i64_in _ (by omega)
      have hgr : g < wr.heap.size := (HO.out.lt g rfl).2
      clear hO9
      go_wp2
      go_roundw
      case rel => exact ⟨i + 1, by omega, by go_num, HO9.out, HB9.out⟩
      case measure => simp [intOf]; omega
    obtain rfl : i = NN := by omega
    have hO1 := HO.out
    rw [show (u64s i fun j => if j < i then 1 else 0) = u64s i (fwF t CL h M 0) from List.map_congr_left fun j hj => by show Value.int .u64 (((if j < i then 1 else 0 : Nat)) : Int) = _; rw [if_pos (List.mem_range.1 hj)]; rfl] at hO1
    have HO1 := Lib.hid hO1
    have HZG : Hid (W.heap.size < g) := by show _ < _; rw [← HG.out]; exact World.block_lt_of_cell? _ _ (T8.out.1.2.1)
    have i1 : ¬ (i : Int) < (i : Int) := by omega
    clear hO1 HO
    generalize wr = w6 at *
    go_wp2_with fail
    go_loopw [8, 10] (fun ax kx wr => ∃ (q g1 : Nat), q ≤ w ∧ kx = .int .i64 (q : Nat) ∧ ax = .slice (some ⟨g1, 0, none⟩) i i ∧ wr.ownsRow g 36 1 (.slice (some ⟨g1, 0, none⟩) i i) i (u64s i (fwF t CL h M q)) ∧ Below g wd wr) (fun _ kx _ => w - (intOf kx).toNat)
    case atStart => exact ⟨0, g, by omega, rfl, rfl, HO1.out, HBJ.out⟩
    case round =>
      obtain ⟨q, g1, hq, rfl, rfl, ho, hb⟩ := hrel
      have HO := Lib.hid ho
      have HBK := Lib.hid hb
      clear ho hb HO1 HBJ
      generalize wr = wo at *
      have hb0 : Below wd.heap.size wd wo := by rw [HG.out]; exact HBK.out
      have T9 := T8.up hb0
      clear T8
      have v_p0 : wo.cell? ⟨W.heap.size, 0, none⟩ = some (.int .i64 w) := T9.out.1.2.1
      clear hb0
      by_cases hqw : q < w
      · skip
        obtain ⟨gc, oc, hgc0, _, hcc⟩ := (T9.out.2).addr (by omega)
        subst hgc0
        obtain ⟨ab, ao, hab0, _, _⟩ := (T9.out.1.1.2).addr (by omega)
        subst hab0
        have hcl := colL_bd HPP.out hh4 hqw
        have hcW := hcc q hqw
        rw [HMC.out.2] at hcl hcW
        obtain ⟨want, hwant⟩ : ∃ want, (CL.getD q 0).toNat = want := ⟨_, rfl⟩
        rw [hwant] at hcl
        rw [hcl.1] at hcW
        have hw1024 := hcl.2
        have HCW := Lib.hid hcW
        have HWT := Lib.hid hwant
        have hCH := fun (w : World) (h1 : RK .i64 w (some ⟨ab, ao, none⟩) 512 t) (c a b : Nat) (hc : c < M) (ha : a < M) (hb : b < M) => looks24_any ab ao cT t h a b c want w h1 hh4 (by omega) (by omega) (by omega) hw1024
        have HCH := Lib.hid hCH
        obtain ⟨A, hA⟩ : ∃ A, fwF t CL h M q = A := ⟨_, rfl⟩
        have hAlt : ∀ u, A u < M64 := by rw [← hA]; exact fwF_lt t CL h M q
        have hA1 : ∀ u, fwF t CL h M (q + 1) u = nxF t CL h M q A (M * M * M) u := by rw [← hA]; exact fun u => rfl
        rw [hA] at HO
        have HAL := Lib.hid hAlt
        have HA1 := Lib.hid hA1
        have q1 : (q : Int) < (w : Int) := by omega
        have q0 : (0 : Int) ≤ (q : Int) := by omega
        have hg1l : g1 < wo.heap.size := (HO.out.lt g1 rfl).2
        clear hcc hcl hcW hwant hCH hA hAlt hA1
        go_wp2_with (first
          | (at_make; refine mk_full rfl _ _ _ rfl wo.heap.size HETB.out .i64 .i64 _ _ i rfl rfl rfl rfl (by omega) (by unfold maxLen; omega) (Nat.le_refl _) ?_; intro w5 hown5 hb5 hsz5; rw [made_u64] at hown5; have HOB := Lib.hid hown5; have HBB := Lib.hid hb5; clear hown5 hb5 hsz5))
        obtain ⟨g2, hg2⟩ : ∃ g2, wo.heap.size = g2 := ⟨_, rfl⟩
        have HN0 : Hid (w5.ownsRow g2 36 1 (.slice (some ⟨g2, 0, none⟩) i i) i (u64s i (nxF t CL h M q A (0 * M)))) := by show World.ownsRow _ _ _ _ _ _ _; rw [← hg2, Nat.zero_mul]; exact HOB.out
        have HC0 : Hid (Below g2 wo w5) := by rw [← hg2]; exact HBB.out
        have HG2 := Lib.hid hg2
        simp only [hg2]
        have hg12 : g1 < g2 := by rw [← hg2]; exact hg1l
        have HGG : Hid (W.heap.size < g2 ∧ g ≤ g2) := ⟨by rw [← hg2]; exact World.block_lt_of_cell? _ _ (T9.out.1.2.1), by have := (HO.out.lt g1 rfl).1; omega⟩
        clear hg2 HOB HBB v_p0
        go_loopw [12] (fun ix wr => ∃ j : Nat, j ≤ i ∧ ix = .int .i64 (j : Nat) ∧ wr.ownsRow g2 36 1 (.slice (some ⟨g2, 0, none⟩) i i) i (u64s i (nxF t CL h M q A (j * M))) ∧ Below g2 wo wr) (fun ix _ => i - (intOf ix).toNat)
        case atStart => exact ⟨0, by omega, rfl, HN0.out, HC0.out⟩
        case round =>
          obtain ⟨j, hj, rfl, ho, hb⟩ := hrel
          have HN := Lib.hid ho
          have HC := Lib.hid hb
          clear ho hb HN0 HC0
          by_cases hji : j < i
          · skip
            have hAown : wr.ownsRow g 36 1 (.slice (some ⟨g1, 0, none⟩) i i) i (u64s i A) := owns_up HO.out (by rw [HG2.out]; exact HC.out)
            have hca := hAown.cellAt j (by omega)
            rw [u64s_at _ hji] at hca
            have hal := HAL.out j
            obtain ⟨av, hav⟩ : ∃ av, A j = av := ⟨_, rfl⟩
            rw [hav] at hca hal
            have HAV := Lib.hid hav
            have HAO := Lib.hid hAown
            have j0 : (0 : Int) ≤ (j : Int) := by omega
            have j1 : (j : Int) < (i : Int) := by omega
            have jw : IntKind.i64.wrap ((j : Int) + 1) = (j : Int) + 1 := IntWalk.i64_in _ (by omega)
            clear hAown hav
            by_cases hz : av = 0
            · subst hz
              have HN2 : Hid (wr.ownsRow g2 36 1 (.slice (some ⟨g2, 0, none⟩) i i) i (u64s i (nxF t CL h M q A ((j + 1) * M)))) := by
                show World.ownsRow _ _ _ _ _ _ _
                rw [show nxF t CL h M q A ((j + 1) * M) = nxF t CL h M q A (j * M) from by rw [Nat.succ_mul]; exact funext fun u => nxF_line HAV.out M (Nat.le_refl _) u]
                exact HN.out
              go_wp2
              go_roundw
              case rel => exact ⟨j + 1, by omega, by go_num, HN2.out, HC.out⟩
              case measure => simp [intOf]; omega
            have hzI : ((av : Int) == 0) = false := by rw [beq_eq_false_iff_ne]; omega
            have hzJ : ¬ (av : Int) = 0 := by omega
            generalize wr = wp at *
            obtain ⟨jd, hjd⟩ : ∃ jd, j / M = jd := ⟨_, rfl⟩
            obtain ⟨jm, hjm⟩ : ∃ jm, j % M = jm := ⟨_, rfl⟩
            have hjdM : jd < M := by rw [← hjd]; exact Nat.div_lt_of_lt_mul (by have := HNN.out; omega)
            have hjmM : jm < M := by rw [← hjm]; exact Nat.mod_lt _ (by omega)
            have hjdI : (j : Int) / (M : Int) = (jd : Int) := by rw [← hjd]; exact (Int.natCast_ediv _ _).symm
            have hjmI : (j : Int) % (M : Int) = (jm : Int) := by rw [← hjm]; exact (Int.natCast_emod _ _).symm
            have hjdT : (j : Int).tdiv (M : Int) = (jd : Int) := by rw [Int.tdiv_eq_ediv_of_nonneg (by omega)]; exact hjdI
            have hjmT : (j : Int).tmod (M : Int) = (jm : Int) := by rw [Int.tmod_eq_emod_of_nonneg (by omega)]; exact hjmI
            have hMz : ((M : Int) == 0) = false := by rw [beq_eq_false_iff_ne]; omega
            have hMz2 : ¬ (M : Int) = 0 := by omega
            have hMz3 : ¬ M = 0 := by omega
            have hjdw : IntKind.i64.wrap (jd : Int) = (jd : Int) := IntWalk.i64_in _ (by omega)
            have hjmw : IntKind.i64.wrap (jm : Int) = (jm : Int) := IntWalk.i64_in _ (by omega)
            obtain ⟨jmM, hjmM2⟩ : ∃ jmM, jm * M = jmM := ⟨_, rfl⟩
            have hjmMb : jmM ≤ 4096 := by rw [← hjmM2]; exact Nat.le_trans (Nat.mul_le_mul (show _ ≤ 64 by omega) hM64) (by omega)
            have hjmMI : (jm : Int) * (M : Int) = (jmM : Int) := by rw [← hjmM2]; exact (Int.natCast_mul _ _).symm
            have hjmMw : IntKind.i64.wrap (jmM : Int) = (jmM : Int) := IntWalk.i64_in _ (by omega)
            have HJ := Lib.hid (And.intro hjd (And.intro hjm hjmM2))
            have HNs : Hid (wp.ownsRow g2 36 1 (.slice (some ⟨g2, 0, none⟩) i i) i (u64s i (nxF t CL h M q A (j * M + 0)))) := HN.out
            clear hjd hjm hjmM2
            go_wp2_with fail
            go_loopw [13] (fun cx wr => ∃ c2 : Nat, c2 ≤ M ∧ cx = .int .i64 (c2 : Nat) ∧ wr.ownsRow g2 36 1 (.slice (some ⟨g2, 0, none⟩) i i) i (u64s i (nxF t CL h M q A (j * M + c2))) ∧ Below g2 wo wr) (fun cx _ => M - (intOf cx).toNat)
            case atStart => exact ⟨0, by omega, rfl, HNs.out, HC.out⟩
            case round =>
              obtain ⟨c2, hc2, rfl, ho, hb⟩ := hrel
              have HNx := Lib.hid ho
              have HCx := Lib.hid hb
              have hbT : Below wo.heap.size wo wr := by rw [HG2.out]; exact hb
              clear ho hb HNs
              have T10 := T9.up hbT
              clear T9
              clear hbT
              by_cases hcM : c2 < M
              · skip
                obtain ⟨lk, mk, hlk⟩ : ∃ lk mk, looksF t jd jm c2 want h 0 = (lk, mk) := ⟨_, _, rfl⟩
                have hRTq := T10.out.1.1.2
                have HCQ : Hid (∀ qq, Calls Tryd.prog 85 #[.slice (some ⟨ab, ao, none⟩) 512 cT, .int .i64 (h : Nat), .int .i64 (jd : Nat), .int .i64 (jm : Nat), .int .i64 (c2 : Nat), .int .i64 (want : Nat)] (wr.drewN qq) fun e w' => e = .returned (.tuple #[.int .i64 (lk : Nat), .bool mk]) ∧ ∃ n, w' = (wr.drewN qq).drewN n) := fun qq => by
                  have hh := HCH.out (wr.drewN qq) (hRTq.up (bdrewN (bnil wr) qq)) c2 jd jm hcM hjdM hjmM
                  rw [hlk] at hh
                  exact hh
                have hmk : mkF t CL h M q (j * M + c2) = mk := by
                  unfold mkF
                  have e1 : (j * M + c2) / M = j := by rw [Nat.mul_comm, Nat.mul_add_div (by omega), Nat.div_eq_of_lt hcM, Nat.add_zero]
                  have e2 : (j * M + c2) % M = c2 := by rw [Nat.mul_comm, Nat.mul_add_mod, Nat.mod_eq_of_lt hcM]
                  rw [e1, e2, HJ.out.1, HJ.out.2.1, HWT.out, hlk]
                have hcr : wr.cell? ⟨gc, oc + q, none⟩ = some (.int .i64 (want : Nat)) := cpb (by rw [HG2.out]; exact HCx.out) HCW.out
                have c0 : (0 : Int) ≤ (c2 : Int) := by omega
                have c1 : (c2 : Int) < (M : Int) := by omega
                have cW : IntKind.i64.wrap ((c2 : Int) + 1) = (c2 : Int) + 1 := IntWalk.i64_in _ (by omega)
                have HMK := Lib.hid hmk
                clear hlk hRTq hmk
                have v_p1 : wr.cell? ⟨W.heap.size, 1, none⟩ = some (.int .i64 h) := T10.out.1.2.2.1
                cases mk with
                | false =>
                  have HN2 : Hid ((wr.drewN 0).ownsRow g2 36 1 (.slice (some ⟨g2, 0, none⟩) i i) i (u64s i (nxF t CL h M q A (j * M + (c2 + 1))))) := by
                    show World.ownsRow _ _ _ _ _ _ _
                    rw [show nxF t CL h M q A (j * M + (c2 + 1)) = nxF t CL h M q A (j * M + c2) from funext fun u => nxF_skip (.inl HMK.out) u]
                    exact HNx.out
                  go_wp2_with fail
                  go_quiet ((go_at_call 85; exact Calls.quiet_of (HCQ.out _)))
                  go_wp2
                  go_roundw
                  case rel => exact ⟨c2 + 1, by omega, by go_num, owns_up HN2.out (bdrewN (bnil _) _), bdrewN' HCx.out _⟩
                  case measure => simp [intOf]; omega
                | true =>
                  go_wp2_with fail
                  go_quiet ((go_at_call 85; exact Calls.quiet_of (HCQ.out _)))
                  obtain ⟨u, hu⟩ : ∃ u, jmM + c2 = u := ⟨_, rfl⟩
                  have huN : u < i := by
                    have h1 : (jm + 1) * M ≤ M * M := Nat.mul_le_mul_right _ hjmM
                    rw [Nat.succ_mul, HJ.out.2.2, HNN.out] at h1
                    omega
                  have huE : (j * M + c2) % (M * M) = u := by
                    rw [← hu, ← HJ.out.2.2, ← HJ.out.2.1]
                    have e1 : j * M + c2 = M * M * (j / M) + (j % M * M + c2) := by
                      have h1 := Nat.div_add_mod j M
                      have h2 : j * M = (M * (j / M) + j % M) * M := by rw [h1]
                      rw [h2, Nat.add_mul, Nat.mul_right_comm, Nat.add_assoc]
                    rw [e1, Nat.mul_add_mod, Nat.mod_eq_of_lt]
                    rw [HJ.out.2.1, HJ.out.2.2, hu, HNN.out]
                    exact huN
                  have ye : (j * M + c2) / M = j := by rw [Nat.mul_comm, Nat.mul_add_div (by omega), Nat.div_eq_of_lt hcM, Nat.add_zero]
                  have uI : (jmM : Int) + (c2 : Int) = (u : Int) := by omega
                  have uW : IntKind.i64.wrap (u : Int) = (u : Int) := IntWalk.i64_in _ (by omega)
                  have u0 : (0 : Int) ≤ (u : Int) := by omega
                  have u1 : (u : Int) < (i : Int) := by omega
                  obtain ⟨nv, hnv⟩ : ∃ nv, nxF t CL h M q A (j * M + c2) u = nv := ⟨_, rfl⟩
                  have HNu : Hid (nxF t CL h M q A (j * M + (c2 + 1)) u = (nv + av) % M64) := by
                    have hh := nxF_take (t := t) (cols := CL) (h := h) (m := M) (k := q) (at_ := A) (x := j * M + c2) HMK.out
                    rw [huE, ye, HAV.out, hnv] at hh
                    exact hh
                  have HNe : Hid (∀ u', u' ≠ u → nxF t CL h M q A (j * M + (c2 + 1)) u' = nxF t CL h M q A (j * M + c2) u') := fun u' hne => nxF_ne (x := j * M + c2) (by rw [huE]; exact fun e => hne e.symm)
                  have HNq : Hid ((wr.drewN nq).drew.ownsRow g2 36 1 (.slice (some ⟨g2, 0, none⟩) i i) i (u64s i (nxF t CL h M q A (j * M + c2)))) := owns_up (owns_up HNx.out (bdrewN (bnil _) nq)) (Below.drew (bnil _))
                  have HAq : Hid ((wr.drewN nq).drew.ownsRow g 36 1 (.slice (some ⟨g1, 0, none⟩) i i) i (u64s i A)) := owns_up (owns_up (owns_up HO.out (by rw [HG2.out]; exact HCx.out)) (bdrewN (bnil _) nq)) (Below.drew (bnil _))
                  have z1 := HNq.out.cellAt u (by omega)
                  rw [u64s_at _ huN, hnv] at z1
                  have z2 := HAq.out.cellAt j (by omega)
                  rw [u64s_at _ hji, HAV.out] at z2
                  have z3 := HNq.out.frozenAt u
                  have z4 : wr.cell? ⟨g2, u, none⟩ = some (.int .u64 (nv : Nat)) := z1
                  have z5 : wr.cell? ⟨g1, j, none⟩ = some (.int .u64 (av : Nat)) := z2
                  have z6 : wr.frozen? ⟨g2, u, none⟩ = false := z3
                  have hadd := u64_add nv av
                  obtain ⟨sv, hsv⟩ : ∃ sv, (nv + av) % M64 = sv := ⟨_, rfl⟩
                  rw [hsv] at hadd
                  have hO9 := own_set HNq.out u (.int .u64 (sv : Nat))
                  rw [u64s_set _ (nxF t CL h M q A (j * M + (c2 + 1))) (fun j' _ => by
                    by_cases e : j' = u
                    · rw [if_pos e, e, HNu.out, hsv]
                    · rw [if_neg e]; exact HNe.out j' e)] at hO9
                  have HO9 := Lib.hid hO9
                  have HC9 := Lib.hid ((Below.drew (bdrewN' HCx.out nq)).setCell (p := ⟨g2, u, none⟩) (Nat.le_refl g2) (.int .u64 (sv : Nat)))
                  clear hu huE ye hnv hsv hO9
                  go_wp2_with fail
                  go_region
                  all_goals
                    go_wp2
                    go_roundw
                    case rel => exact ⟨c2 + 1, by omega, by go_num, HO9.out, HC9.out⟩
                    case measure => simp [intOf]; omega
              · skip
                obtain rfl : c2 = M := by omega
                have HN2 : Hid (wr.ownsRow g2 36 1 (.slice (some ⟨g2, 0, none⟩) i i) i (u64s i (nxF t CL h c2 q A ((j + 1) * c2)))) := by
                  show World.ownsRow _ _ _ _ _ _ _
                  rw [Nat.succ_mul]
                  exact HNx.out
                have c1 : ¬ (c2 : Int) < (c2 : Int) := by omega
                go_wp2
                go_roundw
                case rel => exact ⟨j + 1, by omega, by go_num, HN2.out, HCx.out⟩
                case measure => simp [intOf]; omega
          · skip
            obtain rfl : j = i := by omega
            have HN2 : Hid (wr.ownsRow g 36 1 (.slice (some ⟨g2, 0, none⟩) j j) j (u64s j (fwF t CL h M (q + 1)))) := by
              show World.ownsRow _ _ _ _ _ _ _
              rw [show fwF t CL h M (q + 1) = nxF t CL h M q A (j * M) from funext fun u => by rw [HA1.out u, HNN.out]]
              exact owns_base HN.out HGG.out.2
            have HB2 : Hid (Below g wd wr) := HBK.out.trans (HC.out.mono HGG.out.2)
            have j1 : ¬ (j : Int) < (j : Int) := by omega
            have qw : IntKind.i64.wrap ((q : Int) + 1) = (q : Int) + 1 := IntWalk.i64_in _ (by omega)
            go_wp2
            go_roundw
            case rel => exact ⟨q + 1, g2, by omega, by go_num, rfl, HN2.out, HB2.out⟩
            case measure => simp [intOf]; omega
      obtain rfl : q = w := by omega
      obtain ⟨A, hA⟩ : ∃ A, fwF t CL h M q = A := ⟨_, rfl⟩
      have hret : sumN i A % M64 = WF := by rw [← HWF.out]; unfold waysF; rw [hA, HNN.out]
      have HRET := Lib.hid hret
      rw [hA] at HO
      have q1 : ¬ (q : Int) < (q : Int) := by omega
      clear hA hret
      go_wp2_with fail
      go_loopw [16, 17] (fun nx ix wr => ∃ j : Nat, j ≤ i ∧ ix = .int .i64 (j : Nat) ∧ nx = .int .u64 (((sumN j A % M64 : Nat)) : Int) ∧ wr = wo) (fun _ ix _ => i - (intOf ix).toNat)
      case atStart => exact ⟨0, by omega, rfl, rfl, rfl⟩
      case round =>
        obtain ⟨j, hj, rfl, rfl, hwr⟩ := hrel
        rw [hwr]
        clear hwr
        by_cases hji : j < i
        · skip
          have hca := HO.out.cellAt j (by omega)
          rw [u64s_at _ hji] at hca
          have hs : sumN (j + 1) A % M64 = (sumN j A % M64 + A j) % M64 := by rw [Nat.mod_add_mod]; rfl
          have HS := Lib.hid hs
          generalize A j = av at *
          generalize sumN j A % M64 = sv at *
          have hadd := u64_add sv av
          have j0 : (0 : Int) ≤ (j : Int) := by omega
          have j1 : (j : Int) < (i : Int) := by omega
          have jw : IntKind.i64.wrap ((j : Int) + 1) = (j : Int) + 1 := IntWalk.i64_in _ (by omega)
          obtain ⟨rv, hrv⟩ : ∃ rv, (sv + av) % M64 = rv := ⟨_, rfl⟩
          rw [hrv] at hadd hs
          have HS := Lib.hid hs
          clear hs hrv
          go_wp2
          go_roundw
          case rel => exact ⟨j + 1, by omega, by go_num, by rw [HS.out], by first | rfl | trivial⟩
          case measure => simp [intOf]; omega
        · skip
          obtain rfl : j = i := by omega
          have j1 : ¬ (j : Int) < (j : Int) := by omega
          go_wp2
          go_ret
          exact ⟨congrArg (fun x : Nat => Ending.returned (.int .u64 (x : Int))) HRET.out, T9.out.1.1.1.1.2⟩
end Go.Proofs.YtoaooblodgejdaaDoor
