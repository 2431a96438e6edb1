/- eve.Count of a right table and patch. -/
import Derived.Test.YtoaooblodgejdaaDoorEvR
import Derived.Test.YtoaooblodgejdaaDoorEvP
import Derived.Test.YtoaooblodgejdaaDoorRjW
import Derived.Deep.RegionHeld3
import Derived.Deep.Cut
namespace Go.Proofs.YtoaooblodgejdaaDoor
open Go.RowKit
set_option linter.unusedVariables false
set_option maxRecDepth 100000

abbrev vs (N : Nat) (f : Nat → Value) : List Value := (List.range N).map f
theorem vs_at {N j : Nat} (f : Nat → Value) (h : j < N) : (vs N f)[j]? = some (f j) := by simp [vs, h]
theorem vs_set {N j : Nat} {x : Value} (f g : Nat → Value) (hg : ∀ i, i < N → g i = if i = j then x else f i) : (vs N f).set j x = vs N g := by
  apply List.ext_getElem
  · simp [vs]
  · intro i h1 h2
    simp only [vs, List.length_map, List.length_range, List.length_set] at h1 h2
    rw [List.getElem_set]
    simp only [vs, List.getElem_map, List.getElem_range]
    rw [hg i h2]
    by_cases e : j = i
    · rw [if_pos e, if_pos e.symm]
    · rw [if_neg e, if_neg (fun e2 => e e2.symm)]
theorem vs_congr {N : Nat} (f g : Nat → Value) (h : ∀ i, i < N → f i = g i) : vs N f = vs N g := List.map_congr_left fun j hj => h j (List.mem_range.1 hj)
theorem made_sl (N : Nat) : (madeCells (Value.slice none 0 0).cells (N * 1)).toList = vs N fun _ => .slice none 0 0 := by
  rw [show (Value.slice none 0 0).cells = #[.slice none 0 0] from by rfl, toList_madeCells_one]
  simp [vs, List.map_const']
theorem made_iv (N : Nat) : (madeCells (Value.int .i64 0).cells (N * 1)).toList = vs N fun _ => .int .i64 0 := by
  rw [show (Value.int .i64 0).cells = #[.int .i64 0] from by rfl, toList_madeCells_one]
  simp [vs, List.map_const']
theorem step_lt {f : Nat → Value} {z x : Value} {r i : Nat} (hx : x = f r) : (if i < r + 1 then f i else z) = if i = r then x else if i < r then f i else z := by
  by_cases e : i = r
  · rw [if_pos e, if_pos (by omega), hx, e]
  · rw [if_neg e]
    by_cases e2 : i < r
    · rw [if_pos e2, if_pos (by omega)]
    · rw [if_neg e2, if_neg (by omega)]
/-- the rows of what each pair makes -/
def MX (w : World) (ga NN M : Nat) (rb : Nat → Nat) (F : Nat → Nat → Nat) : Prop := (∀ j, j < NN → w.cell? ⟨ga, j, none⟩ = some (.slice (some ⟨rb j, 0, none⟩) M M)) ∧ ∀ j, j < NN → ∀ c, c < M → w.cell? ⟨rb j, c, none⟩ = some (.int .i64 (F j c : Nat))
theorem MX.up {w w' : World} {ga NN M : Nat} {rb : Nat → Nat} {F : Nat → Nat → Nat} (h : MX w ga NN M rb F) (hb : Below w.heap.size w w') : MX w' ga NN M rb F := ⟨fun j hj => cpa hb (h.1 j hj), fun j hj c hc => cpa hb (h.2 j hj c hc)⟩
instance monoMX {ga NN M : Nat} {rb : Nat → Nat} {F : Nat → Nat → Nat} : Mono (fun w => MX w ga NN M rb F) := ⟨⟨fun hb h => MX.up h hb⟩⟩
theorem cell_set_ne {w : World} {b g o o2 : Nat} {v x : Value} (hne : b ≠ g) (h : w.cell? ⟨b, o, none⟩ = some v) : (w.setCell ⟨g, o2, none⟩ x).cell? ⟨b, o, none⟩ = some v := by
  have hh := Below.heap_setCell w ⟨g, o2, none⟩ x b hne
  simp only [World.cell?] at h ⊢
  rw [hh]
  exact h
theorem cell_below {w w' : World} {B b o : Nat} {v : Value} (hb : Below B w w') (hl : b < B) (h : w.cell? ⟨b, o, none⟩ = some v) : w'.cell? ⟨b, o, none⟩ = some v := by
  simp only [World.cell?, hb.block b hl]
  exact h
/-- does the third column make the patch's -/
theorem mkF_made {t CL : List Int} {h M k i c want : Nat} (ht : IsTab t) (hw : CL.getD k 0 = (want : Int)) (hlt : want < 2 ^ h) (hc : c < M) :
    (((madeV t (i / M) (i % M) c h : Nat) : Int) = (want : Int)) ↔ mkF t CL h M k (i * M + c) = true := by
  have h1 := made_mk (cols := CL) (col := k) ht hw hlt (i / M) (i % M) c
  have e : mkF t CL h M k (i * M + c) = mkL t CL h k (i / M) (i % M) c := by
    unfold mkF
    rw [pair_div hc, pair_rem hc]
  rw [e, ← h1, decide_eq_true_iff]
def cprt (t CL : List Int) (h M w s i c : Nat) : Nat := sumN c (fun c => if mkF t CL h M (w - 1 - s) (i * M + c) = true then bwF t CL h M w s (i % M * M + c) else 0) % M64
theorem cprt_skip {t CL : List Int} {h M w s i c : Nat} (hn : ¬ mkF t CL h M (w - 1 - s) (i * M + c) = true) : cprt t CL h M w s i (c + 1) = cprt t CL h M w s i c := by
  show (sumN c _ + (if _ then _ else 0)) % M64 = _
  rw [if_neg hn]
  rfl
theorem cprt_take {t CL : List Int} {h M w s i c : Nat} (hn : mkF t CL h M (w - 1 - s) (i * M + c) = true) : cprt t CL h M w s i (c + 1) = (cprt t CL h M w s i c + bwF t CL h M w s (i % M * M + c)) % M64 := by
  show (sumN c _ + (if _ then _ else 0)) % M64 = _
  rw [if_pos hn]
  unfold cprt
  rw [Nat.mod_add_mod]
set_option maxHeartbeats 64000000 in
theorem evcount_ok (w h : Nat) (a : Option Addr) (n c ab ao cT : Nat) (l t : List Int) (W : World) (R : Nat → Addr) (hS : Sent W R) (hR : RK .i64 W a n l) (hm : n ≤ maxLen) (hx : I64 l) (hT : RK .i64 W (some ⟨ab, ao, none⟩) 512 t) (ht : IsTab t) (hp : IsPatch w h l) (w8 : w ≤ 8) (hh4 : h ≤ 4) :
    Calls Tryd.prog 17 #[.slice (some ⟨ab, ao, none⟩) 512 cT, patV w h a n c] W fun e w' => ∃ g n', e = .returned (.tuple #[.slice (some ⟨g, 0, none⟩) n' 2, .nilIface]) ∧ w'.ownsRow W.heap.size 47 1 (.slice (some ⟨g, 0, none⟩) n' 2) n' ((ofN (limbs (cntN t (colL w h l) h (4 * 2 ^ h) w))).map (Value.int .u32)) ∧ NV w' (some ⟨g, 0, none⟩) n' 2 (cntN t (colL w h l) h (4 * 2 ^ h) w) ∧ Below W.heap.size W w' := by
  have hed := evD_right ht hp w8 hh4
  have HI6 := Lib.hid hx
  have HIT := Lib.hid ht
  have HPP := Lib.hid hp
  have HED := Lib.hid hed
  obtain ⟨M, hM⟩ : ∃ M, 4 * 2 ^ h = M := ⟨_, rfl⟩
  have hM64 : M ≤ 64 := by rw [← hM]; exact (m_le hh4).1
  have hM1 : 1 ≤ M := by rw [← hM]; exact (m_le hh4).2
  rw [hM]
  have hMI : (4 : Int) * 2 ^ h = (M : Int) := by rw [← hM, Int.natCast_mul, Int.natCast_pow]; rfl
  have hMw : IntKind.i64.wrap (M : Int) = (M : Int) := IntWalk.i64_in _ (by omega)
  have h0I : (0 : Int) ≤ (h : Int) := by omega
  have h64I : (h : Int) ≤ 64 := by omega
  obtain ⟨CL, hCL⟩ : ∃ CL, colL w h l = CL := ⟨_, rfl⟩
  rw [hCL]
  obtain ⟨CN, hCN⟩ : ∃ CN, cntN t CL h M w = CN := ⟨_, rfl⟩
  rw [hCN]
  have hcn1 := (ways_cnt t CL h M w).2
  have hcn2 : cntN t CL h M w < M64 := cntN_lt hM64 w8
  rw [Nat.mod_eq_of_lt hcn2, hCN] at hcn1
  rw [hCN] at hcn2
  have HCN := Lib.hid (And.intro hcn1 hcn2)
  have HMC := Lib.hid (And.intro hM hCL)
  obtain ⟨NN, hNN⟩ : ∃ NN, M * M = NN := ⟨_, rfl⟩
  have hNNb : NN ≤ 4096 := by rw [← hNN]; exact Nat.mul_le_mul hM64 hM64
  have HNN := Lib.hid hNN
  have hNNI : (M : Int) * (M : Int) = (NN : Int) := by rw [← hNN]; exact (Int.natCast_mul _ _).symm
  have hNNw : IntKind.i64.wrap (NN : Int) = (NN : Int) := IntWalk.i64_in _ (by omega)
  have et_ul : ET Tryd.prog 109 36 (.int .u64 0) 1 8 := ⟨Tryd.underlying109, info_parts (by kernel_rfl), rfl, by decide⟩
  have HETB := Lib.hid et_ul
  have et_ii : ET Tryd.prog 107 22 (.slice none 0 0) 1 24 := ⟨Tryd.underlying107, info_parts (by kernel_rfl), rfl, by decide⟩
  have HETI := Lib.hid et_ii
  obtain ⟨F, hF⟩ : ∃ F : Nat → Nat → Nat, (fun j c => madeV t (j / M) (j % M) c h) = F := ⟨_, rfl⟩
  have HF := Lib.hid hF
  have hMz : ((M : Int) == 0) = false := by rw [beq_eq_false_iff_ne]; omega
  have hMz2 : ¬ (M : Int) = 0 := by omega
  have hMz3 : ¬ M = 0 := by omega
  clear hM hCL hCN hcn1 hcn2 hNN et_ul et_ii hF hed
  have T0 := Tk.nil W
  have T1 := T0.add (fun wv => Below W.heap.size W wv) (bnil W)
  clear T0
  have T2 := T1.add (fun wv => Sent wv R) (hS)
  clear T1
  have T3 := T2.add (fun wv => RK .i64 wv a n l) (hR)
  clear T2
  have T4 := T3.add (fun wv => RK .i64 wv (some ⟨ab, ao, none⟩) 512 t) (hT)
  clear T3
  clear hS hR hx hT ht hp
  obtain ⟨Wb, hWb⟩ : ∃ Wb, W.alloc (.cells #[.int .i64 w, .int .i64 h, .slice a n c] 24) = Wb := ⟨_, rfl⟩
  have hbWb : Below W.heap.size W Wb := by rw [← hWb]; exact balloc (bnil W) _
  have T5 := T4.up hbWb
  clear T4
  have T6 := T5.add (fun wv => wv.cell? ⟨W.heap.size, 0, none⟩ = some (.int .i64 w) ∧ wv.cell? ⟨W.heap.size, 1, none⟩ = some (.int .i64 h) ∧ wv.cell? ⟨W.heap.size, 2, none⟩ = some (.slice a n c)) (by rw [← hWb]; exact ⟨cnw (by simp) rfl, cnw (by simp) rfl, cnw (by simp) rfl⟩)
  clear T5
  have HWb := Lib.hid hWb
  clear hWb hbWb
  go_enter Tryd.func17, Tryd.ntmps17
  have v_p0 : (W.alloc (.cells #[.int .i64 w, .int .i64 h, .slice a n c] 24)).cell? ⟨W.heap.size, 0, none⟩ = some (.int .i64 w) := by rw [HWb.out]; exact T6.out.2.1
  have v_p1 : (W.alloc (.cells #[.int .i64 w, .int .i64 h, .slice a n c] 24)).cell? ⟨W.heap.size, 1, none⟩ = some (.int .i64 h) := by rw [HWb.out]; exact T6.out.2.2.1
  have v_p2 : (W.alloc (.cells #[.int .i64 w, .int .i64 h, .slice a n c] 24)).cell? ⟨W.heap.size, 2, none⟩ = some (.slice a n c) := by rw [HWb.out]; exact T6.out.2.2.2
  go_wp2_with fail
  rw [HWb.out]
  refine (evasked_any w h a (some ⟨ab, ao, none⟩) n c 512 cT l t Wb R T6.out.1.1.1.2 T6.out.1.1.2 hm HI6.out T6.out.1.2 (by unfold maxLen; omega)).mono ?_; rintro e w1 ⟨ev, rfl, he, hbw1⟩
  clear v_p0 v_p1 v_p2
  have T7 := T6.up hbw1
  clear T6
  rw [HED.out] at he
  obtain rfl : ev = .nilIface := he
  have v_p0 : w1.cell? ⟨W.heap.size, 0, none⟩ = some (.int .i64 w) := T7.out.2.1
  have v_p1 : w1.cell? ⟨W.heap.size, 1, none⟩ = some (.int .i64 h) := T7.out.2.2.1
  have v_p2 : w1.cell? ⟨W.heap.size, 2, none⟩ = some (.slice a n c) := T7.out.2.2.2
  go_wp2_with fail
  refine (columns_okJ w h a n c l w1 R T7.out.1.1.1.2 T7.out.1.1.2 hm HI6.out HPP.out (by omega)).mono ?_; rintro e w2 ⟨gc, cc, rfl, hcol, hbw2⟩
  clear v_p0 v_p1 v_p2
  have T8 := T7.up hbw2
  clear T7
  rw [HMC.out.2] at hcol
  have T9 := T8.add (fun wv => RK .i64 wv (some ⟨gc, 0, none⟩) w CL) (hcol)
  clear T8
  clear hcol
  have v_p1 : w2.cell? ⟨W.heap.size, 1, none⟩ = some (.int .i64 h) := T9.out.1.2.2.1
  go_wp2_with (first
    | (at_make; refine mk_full rfl _ _ _ rfl w2.heap.size HETI.out .i64 .i64 _ _ NN rfl rfl rfl rfl (by omega) (by unfold maxLen; omega) (Nat.le_refl _) ?_; intro w5 hown5 hb5 hsz5; rw [made_sl] at hown5; have HOB := Lib.hid hown5; have HBB := Lib.hid hb5; clear hown5 hb5 hsz5))
  obtain ⟨ga, hga⟩ : ∃ ga, w2.heap.size = ga := ⟨_, rfl⟩
  have HO0 : Hid (w5.ownsRow ga 22 1 (.slice (some ⟨ga, 0, none⟩) NN NN) NN (vs NN fun j => if j < 0 then .slice (some ⟨(fun _ => 0 : Nat → Nat) j, 0, none⟩) M M else .slice none 0 0)) := by show World.ownsRow _ _ _ _ _ _ _; rw [← hga]; exact HOB.out
  have HB0 : Hid (Below ga w2 w5) := by rw [← hga]; exact HBB.out
  have HGA := Lib.hid hga
  have HWA : Hid (W.heap.size < ga) := by show _ < _; rw [← hga]; exact World.block_lt_of_cell? _ _ (T9.out.1.2.2.1)
  simp only [hga]
  clear hga HOB HBB v_p1
  go_loopw [47] (fun ix wr => ∃ (r : Nat) (rb : Nat → Nat), r ≤ NN ∧ ix = .int .i64 (r : Nat) ∧ wr.ownsRow ga 22 1 (.slice (some ⟨ga, 0, none⟩) NN NN) NN (vs NN fun j => if j < r then .slice (some ⟨rb j, 0, none⟩) M M else .slice none 0 0) ∧ (∀ j, j < r → (ga < rb j ∧ rb j < wr.heap.size) ∧ ∀ c, c < M → wr.cell? ⟨rb j, c, none⟩ = some (.int .i64 (F j c : Nat))) ∧ Below ga w2 wr) (fun ix _ => NN - (intOf ix).toNat)
  case atStart => exact ⟨0, fun _ => 0, by omega, rfl, HO0.out, fun j hj => absurd hj (by omega), HB0.out⟩
  case round =>
    obtain ⟨r, rb, hr, rfl, ho, hrw, hb⟩ := hrel
    have HO := Lib.hid ho
    have HRW := Lib.hid hrw
    have HBJ := Lib.hid hb
    have hb0 : Below w2.heap.size w2 wr := by rw [HGA.out]; exact hb
    clear ho hrw hb HO0 HB0
    generalize wr = wo at *
    have HW0 := Lib.hid hb0
    clear hb0
    by_cases hrN : r < NN
    · skip
      have r0 : (0 : Int) ≤ (r : Int) := by omega
      have r1 : (r : Int) < (NN : Int) := by omega
      have rw1 : IntKind.i64.wrap ((r : Int) + 1) = (r : Int) + 1 := IntWalk.i64_in _ (by omega)
      obtain ⟨g, hg⟩ : ∃ g, wo.heap.size = g := ⟨_, rfl⟩
      have hgag : ga < g := by rw [← hg]; exact (HO.out.lt ga rfl).2
      have HG := Lib.hid hg
      go_wp2_with (first
        | (at_make; refine mk_full rfl _ _ _ rfl wo.heap.size et_int .i64 .i64 _ _ M rfl rfl rfl rfl (by omega) (by unfold maxLen; omega) (Nat.le_refl _) ?_; intro w5 hown5 hb5 hsz5; rw [made_iv] at hown5; have HOB := Lib.hid hown5; have HBB := Lib.hid hb5; have hO5 := owns_up HO.out hb5; have hca := hO5.cellAt r (by omega); rw [vs_at _ hrN, if_neg (Nat.lt_irrefl r)] at hca; have hfz := hO5.frozenAt r; have HO5 := Lib.hid hO5; clear hO5; clear hown5 hb5 hsz5))
      try simp only [hg]
      obtain ⟨wz, hwz⟩ : ∃ wz, w5.setCell ⟨ga, r, none⟩ (.slice (some ⟨g, 0, none⟩) M M) = wz := ⟨_, rfl⟩
      rw [hwz]
      have hown := own_set HO5.out r (.slice (some ⟨g, 0, none⟩) M M)
      rw [hwz, vs_set _ (fun j => if j < r + 1 then .slice (some ⟨(if j < r then rb j else g), 0, none⟩) M M else .slice none 0 0) (fun j _ => by
        by_cases e : j = r
        · subst e; simp
        · by_cases e2 : j < r
          · simp [e, e2, show j < r + 1 by omega]
          · simp [e, e2, show ¬ j < r + 1 by omega])] at hown
      have HOZ := Lib.hid hown
      have HR0 : Hid (wz.ownsRow g 3 1 (.slice (some ⟨g, 0, none⟩) M M) M (vs M fun c => if c < 0 then .int .i64 (F r c : Nat) else .int .i64 0)) := by
        show World.ownsRow _ _ _ _ _ _ _
        rw [← hwz]
        refine own_set_other ?_ (by intro e; have e3 : g = ga := Option.some.inj e; omega) _
        rw [← hg]
        exact HOB.out
      have HBZ : Hid (Below ga w2 wz) := by
        show Below _ _ _
        rw [← hwz]
        exact (HBJ.out.trans (HBB.out.mono (by omega))).setCell (p := ⟨ga, r, none⟩) (Nat.le_refl _) _
      have HRZ : Hid (∀ j, j < r → (ga < rb j ∧ rb j < g) ∧ ∀ c, c < M → wz.cell? ⟨rb j, c, none⟩ = some (.int .i64 (F j c : Nat))) := fun j hj => by
        obtain ⟨⟨h1, h2⟩, h3⟩ := HRW.out j hj
        refine ⟨⟨h1, by rw [← hg]; exact h2⟩, fun c hc => ?_⟩
        rw [← hwz]
        exact cell_set_ne (by omega) (cpa HBB.out (h3 c hc))
      clear hg hwz hown hca hfz HO5 HOB HBB HO
      go_loopw [56] (fun ix wr => ∃ q : Nat, q ≤ M ∧ ix = .int .i64 (q : Nat) ∧ wr.ownsRow g 3 1 (.slice (some ⟨g, 0, none⟩) M M) M (vs M fun c => if c < q then .int .i64 (F r c : Nat) else .int .i64 0) ∧ Below g wz wr) (fun ix _ => M - (intOf ix).toNat)
      case atStart => exact ⟨0, by omega, rfl, HR0.out, Below.refl g wz⟩
      case round =>
        obtain ⟨q, hq, rfl, ho, hb⟩ := hrel
        have HN := Lib.hid ho
        have HC := Lib.hid hb
        clear ho hb HR0
        have HBW : Hid (Below ga w2 wr) := HBZ.out.trans (HC.out.mono (by omega))
        have hgz := HG.out
        by_cases hqM : q < M
        · skip
          have hOO := own_of_heap' HOZ.out (w' := wr) fun b hb => HC.out.block b (by cases hb; exact hgag)
          have c0 := hOO.cellAt r (by omega)
          rw [vs_at _ hrN, if_pos (Nat.lt_succ_self r), if_neg (Nat.lt_irrefl r)] at c0
          have hbq : Below w2.heap.size w2 wr.drew := by rw [HGA.out]; exact Below.drew HBW.out
          have TQ := T9.up hbq
          have p1 : wr.drew.cell? ⟨W.heap.size, 1, none⟩ = some (.int .i64 h) := TQ.out.1.2.2.1
          obtain ⟨rd, hrd⟩ : ∃ rd, r / M = rd := ⟨_, rfl⟩
          obtain ⟨rm, hrm⟩ : ∃ rm, r % M = rm := ⟨_, rfl⟩
          have hrdM : rd < M := by rw [← hrd]; exact Nat.div_lt_of_lt_mul (by have := HNN.out; omega)
          have hrmM : rm < M := by rw [← hrm]; exact Nat.mod_lt _ (by omega)
          have hrdI : (r : Int) / (M : Int) = (rd : Int) := by rw [← hrd]; exact (Int.natCast_ediv _ _).symm
          have hrmI : (r : Int) % (M : Int) = (rm : Int) := by rw [← hrm]; exact (Int.natCast_emod _ _).symm
          have hrdT : (r : Int).tdiv (M : Int) = (rd : Int) := by rw [Int.tdiv_eq_ediv_of_nonneg (by omega)]; exact hrdI
          have hrmT : (r : Int).tmod (M : Int) = (rm : Int) := by rw [Int.tmod_eq_emod_of_nonneg (by omega)]; exact hrmI
          have hrdw : IntKind.i64.wrap (rd : Int) = (rd : Int) := IntWalk.i64_in _ (by omega)
          have hrmw : IntKind.i64.wrap (rm : Int) = (rm : Int) := IntWalk.i64_in _ (by omega)
          have HS0 : Hid (wr.drew.cell? ⟨ga, r, none⟩ = some (.slice (some ⟨g, 0, none⟩) M M) ∧ wr.drew.cell? ⟨W.heap.size, 1, none⟩ = some (.int .i64 h)) := ⟨c0, p1⟩
          have hcq := evmade_any ab ao cT t h rd rm q wr.drew (TQ.out.1.1.2) HIT.out hh4 (by omega) (by omega) (by omega)
          have hfv : madeV t rd rm q h = F r q := by rw [← HF.out, ← hrd, ← hrm]
          rw [hfv] at hcq
          have HCQ := Lib.hid hcq
          have q0 : (0 : Int) ≤ (q : Int) := by omega
          have q1 : (q : Int) < (M : Int) := by omega
          have qw : IntKind.i64.wrap ((q : Int) + 1) = (q : Int) + 1 := IntWalk.i64_in _ (by omega)
          have HNQ : Hid (wr.drew.ownsRow g 3 1 (.slice (some ⟨g, 0, none⟩) M M) M (vs M fun c => if c < q then .int .i64 (F r c : Nat) else .int .i64 0)) := owns_up HN.out (Below.drew (bnil _))
          obtain ⟨fv, hfq⟩ : ∃ fv, F r q = fv := ⟨_, rfl⟩
          simp only [hfq] at HCQ
          have HFQ := Lib.hid hfq
          clear hOO c0 hbq TQ p1 hrd hrm hrdI hrmI hcq hfv hfq hgz
          go_wp2_with fail
          go_region_held3 (fun w' => w'.cell? ⟨ga, r, none⟩ = some (.slice (some ⟨g, 0, none⟩) M M) ∧ w'.cell? ⟨W.heap.size, 1, none⟩ = some (.int .i64 h))
            (first | with_reducible exact HS6.out | with_reducible exact HS5.out | with_reducible exact HS0.out | go_keep)
            (first
              | (go_at_call 62; refine HCQ.out.mono ?_; rintro e w8 ⟨rfl, n8, hw8⟩; have HB8 : Hid (Below wr.drew.heap.size wr.drew w8) := (by show Below _ _ _; rw [hw8]; exact bdrewN (bnil _) n8); have HS5 : Hid (w8.cell? ⟨ga, r, none⟩ = some (.slice (some ⟨g, 0, none⟩) M M) ∧ w8.cell? ⟨W.heap.size, 1, none⟩ = some (.int .i64 h)) := ⟨cpa HB8.out HS0.out.1, cpa HB8.out HS0.out.2⟩; have HN8 := Lib.hid (owns_up HNQ.out HB8.out); have z1 := HN8.out.cellAt q (by omega); rw [vs_at _ hqM, if_neg (Nat.lt_irrefl q)] at z1; have z3 := HN8.out.frozenAt q; have HS6 : Hid ((w8.setCell ⟨g, q, none⟩ (.int .i64 (fv : Nat))).cell? ⟨ga, r, none⟩ = some (.slice (some ⟨g, 0, none⟩) M M) ∧ (w8.setCell ⟨g, q, none⟩ (.int .i64 (fv : Nat))).cell? ⟨W.heap.size, 1, none⟩ = some (.int .i64 h)) := ⟨cell_set_ne (Nat.ne_of_lt hgag) HS5.out.1, cell_set_ne (Nat.ne_of_lt (Nat.lt_trans HWA.out hgag)) HS5.out.2⟩; clear hw8))
          all_goals
            have hO9 := own_set HN8.out q (.int .i64 (fv : Nat))
            rw [vs_set _ (fun c => if c < q + 1 then .int .i64 (F r c : Nat) else .int .i64 0) (fun c _ => step_lt (f := fun c => .int .i64 (F r c : Nat)) (by rw [HFQ.out]))] at hO9
            have HO9 := Lib.hid hO9
            have HC9 := Lib.hid (((Below.drew HC.out).trans (HB8.out.mono (by have := (HN.out.lt g rfl).2; exact Nat.le_of_lt this))).setCell (p := ⟨g, q, none⟩) (Nat.le_refl g) (.int .i64 (fv : Nat)))
            clear hO9 z1 z3
            go_wp2
            go_roundw
            case rel => exact ⟨q + 1, by omega, by go_num, HO9.out, HC9.out⟩
            case measure => simp [intOf]; omega
        obtain rfl : q = M := by omega
        have q1 : ¬ (q : Int) < (q : Int) := by omega
        have HRX : Hid (∀ j, j < r + 1 → (ga < (if j < r then rb j else g) ∧ (if j < r then rb j else g) < wr.heap.size) ∧ ∀ c, c < q → wr.cell? ⟨(if j < r then rb j else g), c, none⟩ = some (.int .i64 (F j c : Nat))) := fun j hj => by
          have hgs := (HN.out.lt g rfl).2
          by_cases e : j < r
          · rw [if_pos e]
            obtain ⟨⟨h1, h2⟩, h3⟩ := HRZ.out j e
            exact ⟨⟨h1, by omega⟩, fun c hc => cell_below HC.out h2 (h3 c hc)⟩
          · obtain rfl : j = r := by omega
            rw [if_neg e]
            refine ⟨⟨hgag, hgs⟩, fun c hc => ?_⟩
            have hh := HN.out.cellAt c (by omega)
            rw [vs_at _ hc, if_pos hc] at hh
            exact hh
        have HOX := Lib.hid (own_of_heap' HOZ.out (w' := wr) fun b hb => HC.out.block b (by cases hb; exact hgag))
        clear hgz
        go_wp2
        go_roundw
        case rel => exact ⟨r + 1, _, by omega, by go_num, HOX.out, HRX.out, HBW.out⟩
        case measure => simp [intOf]; omega
    obtain rfl : r = NN := by omega
    have r1 : ¬ (r : Int) < (r : Int) := by omega
    have hmx : MX wo ga r M rb F := ⟨fun j hj => by
      have hh := HO.out.cellAt j (by omega)
      rw [vs_at _ hj, if_pos hj] at hh
      exact hh, fun j hj c hc => (HRW.out j hj).2 c hc⟩
    have hb0 := HW0.out
    have T10 := T9.up hb0
    clear T9
    clear hb0
    have T11 := T10.add (fun wv => MX wv ga r M rb F) (hmx)
    clear T10
    clear hmx HO HRW HBJ
    go_wp2_with (first
      | (at_make; refine mk_full rfl _ _ _ rfl wo.heap.size HETB.out .i64 .i64 _ _ r rfl rfl rfl rfl (by omega) (by unfold maxLen; omega) (Nat.le_refl _) ?_; intro w5 hown5 hb5 hsz5; rw [made_u64] at hown5; have HOB := Lib.hid hown5; have HBB := Lib.hid hb5; clear hown5 hb5 hsz5))
    obtain ⟨g, hg⟩ : ∃ g, wo.heap.size = g := ⟨_, rfl⟩
    have HO0 : Hid (w5.ownsRow g 36 1 (.slice (some ⟨g, 0, none⟩) r r) r (u64s r fun j => if j < 0 then 1 else 0)) := by show World.ownsRow _ _ _ _ _ _ _; rw [← hg]; exact HOB.out
    have HB0 : Hid (Below g wo w5) := by rw [← hg]; exact HBB.out
    have HG := Lib.hid hg
    try simp only [hg]
    clear hg HOB HBB
    go_loopw [84] (fun ix wr => ∃ i : Nat, i ≤ r ∧ ix = .int .i64 (i : Nat) ∧ wr.ownsRow g 36 1 (.slice (some ⟨g, 0, none⟩) r r) r (u64s r fun j => if j < i then 1 else 0) ∧ Below g wo wr) (fun ix _ => r - (intOf ix).toNat)
    case atStart => exact ⟨0, by omega, rfl, HO0.out, HB0.out⟩
    case round =>
      obtain ⟨i, hi, rfl, ho, hb⟩ := hrel
      have HO := Lib.hid ho
      have HBJ := Lib.hid hb
      clear ho hb HO0 HB0
      by_cases hiN : i < r
      · skip
        have hfz := HO.out.frozenAt i
        have hca := HO.out.cellAt i (by omega)
        rw [u64s_at _ hiN] at hca
        have hO9 := own_set HO.out i (.int .u64 ((1 : Nat) : Int))
        rw [u64s_set _ (fun j => if j < i + 1 then 1 else 0) (fun j _ => by
          show (if j < i + 1 then 1 else 0) = if j = i then 1 else if j < i then 1 else 0
          by_cases e : j = i
          · rw [if_pos e, if_pos (by omega)]
          · rw [if_neg e]
            by_cases e2 : j < i
            · rw [if_pos e2, if_pos (by omega)]
            · rw [if_neg e2, if_neg (by omega)])] at hO9
        have HO9 := Lib.hid hO9
        have HB9 := Lib.hid (HBJ.out.setCell (p := ⟨g, i, none⟩) (Nat.le_refl g) (.int .u64 ((1 : Nat) : Int)))
        have k0 : (0 : Int) ≤ (i : Int) := by omega
        have k1 : (i : Int) < (r : Int) := by omega
        have kw : IntKind.i64.wrap ((i : Int) + 1) = (i : Int) + 1 := IntWalk.i64_in _ (by omega)
        have hgr : g < wr.heap.size := (HO.out.lt g rfl).2
        clear hO9
        go_wp2
        go_roundw
        case rel => exact ⟨i + 1, by omega, by go_num, HO9.out, HB9.out⟩
        case measure => simp [intOf]; omega
      obtain rfl : i = r := by omega
      have hO1 := HO.out
      rw [show (u64s i fun j => if j < i then 1 else 0) = u64s i (bwF t CL h M w 0) from List.map_congr_left fun j hj => by show Value.int .u64 (((if j < i then 1 else 0 : Nat)) : Int) = _; rw [if_pos (List.mem_range.1 hj)]; rfl] at hO1
      have HO1 := Lib.hid hO1
      have i1 : ¬ (i : Int) < (i : Int) := by omega
      have hpw : w ≤ 8 := w8
      have h1w := HPP.out.w1
      have hws : IntKind.i64.wrap ((w : Int) - 1) = (w : Int) - 1 := IntWalk.i64_in _ (by omega)
      clear hO1 HO
      generalize wr = w6 at *
      have v_p0 : w6.cell? ⟨W.heap.size, 0, none⟩ = some (.int .i64 w) := cell_below HBJ.out (by rw [← HG.out]; exact World.block_lt_of_cell? _ _ (T11.out.1.1.2.1)) (T11.out.1.1.2.1)
      go_wp2_with fail
      clear v_p0
      go_loopw [13, 15] (fun ax kx wr => ∃ (s g1 : Nat), s ≤ w ∧ kx = .int .i64 ((w : Int) - 1 - (s : Nat)) ∧ ax = .slice (some ⟨g1, 0, none⟩) i i ∧ wr.ownsRow g 36 1 (.slice (some ⟨g1, 0, none⟩) i i) i (u64s i (bwF t CL h M w s)) ∧ Below g wo wr) (fun _ kx _ => (intOf kx + 1).toNat)
      case atStart => exact ⟨0, g, by omega, by simp, rfl, HO1.out, HBJ.out⟩
      case round =>
        obtain ⟨s, g1, hs, rfl, rfl, ho, hb⟩ := hrel
        have HO := Lib.hid ho
        have HBK := Lib.hid hb
        clear ho hb HO1 HBJ
        generalize wr = wc at *
        have hb0 : Below wo.heap.size wo wc := by rw [HG.out]; exact HBK.out
        have T12 := T11.up hb0
        clear T11
        clear hb0
        by_cases hsw : s < w
        · skip
          obtain ⟨co, hco⟩ : ∃ co, w - 1 - s = co := ⟨_, rfl⟩
          have hcoI : (w : Int) - 1 - (s : Int) = (co : Int) := by omega
          rw [hcoI]
          have co0 : (0 : Int) ≤ (co : Int) := by omega
          have co1 : (co : Int) < (w : Int) := by omega
          have cow : IntKind.i64.wrap ((co : Int) - 1) = (co : Int) - 1 := IntWalk.i64_in _ (by omega)
          obtain ⟨gc1, oc1, hgc1, _, hcc⟩ := (T12.out.1.2).addr (by omega)
          cases hgc1
          have hcW := hcc co (by omega)
          rw [Nat.zero_add] at hcW
          have hcl := colL_bd HPP.out hh4 (show co < w by omega)
          rw [HMC.out.2] at hcl
          obtain ⟨want, hwant⟩ : ∃ want, (CL.getD co 0).toNat = want := ⟨_, rfl⟩
          have hwl : want < 2 ^ h := by
            rw [← hwant, ← HMC.out.2, colL_getD (show co < w by omega), Int.toNat_natCast]
            exact colV_lt HPP.out (show co < w by omega) h (Nat.le_refl h)
          rw [hwant] at hcl
          rw [hcl.1] at hcW
          have HCW := Lib.hid hcW
          have HWT : Hid (CL.getD co 0 = (want : Int)) := hcl.1
          have HCO := Lib.hid hco
          have hg1l : g1 < wc.heap.size := (HO.out.lt g1 rfl).2
          clear hcc hcl hcW hwant hco
          go_wp2_with (first
            | (at_make; refine mk_full rfl _ _ _ rfl wc.heap.size HETB.out .i64 .i64 _ _ i rfl rfl rfl rfl (by omega) (by unfold maxLen; omega) (Nat.le_refl _) ?_; intro w5 hown5 hb5 hsz5; rw [made_u64] at hown5; have HOB := Lib.hid hown5; have HBB := Lib.hid hb5; clear hown5 hb5 hsz5))
          obtain ⟨g2, hg2⟩ : ∃ g2, wc.heap.size = g2 := ⟨_, rfl⟩
          have HN0 : Hid (w5.ownsRow g2 36 1 (.slice (some ⟨g2, 0, none⟩) i i) i (u64s i fun u => if u < 0 then bwF t CL h M w (s + 1) u else 0)) := by show World.ownsRow _ _ _ _ _ _ _; rw [← hg2]; exact HOB.out
          have HC0 : Hid (Below g2 wc w5) := by rw [← hg2]; exact HBB.out
          have HG2 := Lib.hid hg2
          have hg12 : g1 < g2 := by rw [← hg2]; exact hg1l
          have HGG : Hid (g ≤ g2) := by show _ ≤ _; have := (HO.out.lt g1 rfl).1; omega
          try simp only [hg2]
          clear hg2 HOB HBB
          go_loopw [103] (fun ix wr => ∃ j : Nat, j ≤ i ∧ ix = .int .i64 (j : Nat) ∧ wr.ownsRow g2 36 1 (.slice (some ⟨g2, 0, none⟩) i i) i (u64s i fun u => if u < j then bwF t CL h M w (s + 1) u else 0) ∧ Below g2 wc wr) (fun ix _ => i - (intOf ix).toNat)
          case atStart => exact ⟨0, by omega, rfl, HN0.out, HC0.out⟩
          case round =>
            obtain ⟨j, hj, rfl, ho, hb⟩ := hrel
            have HN := Lib.hid ho
            have HC := Lib.hid hb
            clear ho hb HN0 HC0
            by_cases hji : j < i
            · skip
              obtain ⟨wj, hwj⟩ : ∃ wj, wr = wj := ⟨_, rfl⟩
              have hbw : Below wc.heap.size wc wr := by rw [HG2.out]; exact HC.out
              have hm1 : wr.cell? ⟨ga, j, none⟩ = some (.slice (some ⟨rb j, 0, none⟩) M M) := cpa hbw ((T12.out.2).1 j hji)
              have j0 : (0 : Int) ≤ (j : Int) := by omega
              have j1 : (j : Int) < (i : Int) := by omega
              have jw : IntKind.i64.wrap ((j : Int) + 1) = (j : Int) + 1 := IntWalk.i64_in _ (by omega)
              have HNs : Hid (wr.ownsRow g2 36 1 (.slice (some ⟨g2, 0, none⟩) i i) i (u64s i fun u => if u < j then bwF t CL h M w (s + 1) u else if u = j then cprt t CL h M w s j 0 else 0)) := by
                show World.ownsRow _ _ _ _ _ _ _
                rw [show (fun u => if u < j then bwF t CL h M w (s + 1) u else if u = j then cprt t CL h M w s j 0 else 0) = (fun u => if u < j then bwF t CL h M w (s + 1) u else 0) from funext fun u => by
                  by_cases e : u < j
                  · rw [if_pos e, if_pos e]
                  · rw [if_neg e, if_neg e]
                    split
                    · rfl
                    · rfl]
                exact HN.out
              obtain ⟨jm, hjm⟩ : ∃ jm, j % M = jm := ⟨_, rfl⟩
              have hjmM : jm < M := by rw [← hjm]; exact Nat.mod_lt _ (by omega)
              have hjmI : (j : Int) % (M : Int) = (jm : Int) := by rw [← hjm]; exact (Int.natCast_emod _ _).symm
              have hjmT : (j : Int).tmod (M : Int) = (jm : Int) := by rw [Int.tmod_eq_emod_of_nonneg (by omega)]; exact hjmI
              have hjmw : IntKind.i64.wrap (jm : Int) = (jm : Int) := IntWalk.i64_in _ (by omega)
              obtain ⟨jmM, hjmM2⟩ : ∃ jmM, jm * M = jmM := ⟨_, rfl⟩
              have hjmMb : jmM ≤ 4096 := by rw [← hjmM2]; exact Nat.le_trans (Nat.mul_le_mul (show _ ≤ 64 by omega) hM64) (by omega)
              have hjmMI : (jm : Int) * (M : Int) = (jmM : Int) := by rw [← hjmM2]; exact (Int.natCast_mul _ _).symm
              have hjmMw : IntKind.i64.wrap (jmM : Int) = (jmM : Int) := IntWalk.i64_in _ (by omega)
              have HJ := Lib.hid (And.intro hjm hjmM2)
              clear hjm hjmM2 hwj hbw
              go_wp2_with fail
              go_loopw [110] (fun cx wr => ∃ c2 : Nat, c2 ≤ M ∧ cx = .int .i64 (c2 : Nat) ∧ wr.ownsRow g2 36 1 (.slice (some ⟨g2, 0, none⟩) i i) i (u64s i fun u => if u < j then bwF t CL h M w (s + 1) u else if u = j then cprt t CL h M w s j c2 else 0) ∧ Below g2 wc wr) (fun cx _ => M - (intOf cx).toNat)
              case atStart => exact ⟨0, by omega, rfl, HNs.out, HC.out⟩
              case round =>
                obtain ⟨c2, hc2, rfl, ho, hb⟩ := hrel
                have HNx := Lib.hid ho
                have HCx := Lib.hid hb
                clear ho hb HNs hm1
                by_cases hcM : c2 < M
                · skip
                  have hbw : Below wc.heap.size wc wr := by rw [HG2.out]; exact HCx.out
                  have hm2 : wr.cell? ⟨rb j, c2, none⟩ = some (.int .i64 (F j c2 : Nat)) := cpa hbw ((T12.out.2).2 j hji c2 hcM)
                  have hcr : wr.cell? ⟨gc, co, none⟩ = some (.int .i64 (want : Nat)) := cpa hbw HCW.out
                  have hmk := mkF_made (M := M) (i := j) (c := c2) HIT.out HWT.out hwl hcM
                  have hFj : madeV t (j / M) (j % M) c2 h = F j c2 := by rw [← HF.out]
                  rw [hFj] at hmk
                  have c0 : (0 : Int) ≤ (c2 : Int) := by omega
                  have c1 : (c2 : Int) < (M : Int) := by omega
                  have cW : IntKind.i64.wrap ((c2 : Int) + 1) = (c2 : Int) + 1 := IntWalk.i64_in _ (by omega)
                  have HMK := Lib.hid hmk
                  obtain ⟨fv, hfv⟩ : ∃ fv, F j c2 = fv := ⟨_, rfl⟩
                  rw [hfv] at hm2 hmk
                  clear hbw hFj
                  by_cases hfw : (fv : Int) = (want : Int)
                  · skip
                    have HMQ : Hid (mkF t CL h M (w - 1 - s) (j * M + c2) = true) := by rw [HCO.out]; exact hmk.1 hfw
                    clear hmk hfv
                    obtain ⟨u, hu⟩ : ∃ u, jmM + c2 = u := ⟨_, rfl⟩
                    have huN : u < i := by
                      have h1 : (jm + 1) * M ≤ M * M := Nat.mul_le_mul_right _ hjmM
                      rw [Nat.succ_mul, HJ.out.2, HNN.out] at h1
                      omega
                    have uI : (jmM : Int) + (c2 : Int) = (u : Int) := by omega
                    have uW : IntKind.i64.wrap (u : Int) = (u : Int) := IntWalk.i64_in _ (by omega)
                    have u0 : (0 : Int) ≤ (u : Int) := by omega
                    have u1 : (u : Int) < (i : Int) := by omega
                    obtain ⟨nv, hnv⟩ : ∃ nv, cprt t CL h M w s j c2 = nv := ⟨_, rfl⟩
                    obtain ⟨av, hav⟩ : ∃ av, bwF t CL h M w s u = av := ⟨_, rfl⟩
                    have HNu : Hid (cprt t CL h M w s j (c2 + 1) = (nv + av) % M64) := by
                      have hh := cprt_take HMQ.out
                      rw [HJ.out.1, HJ.out.2, hu, hnv, hav] at hh
                      exact hh
                    have HNq : Hid (wr.drew.ownsRow g2 36 1 (.slice (some ⟨g2, 0, none⟩) i i) i (u64s i fun u => if u < j then bwF t CL h M w (s + 1) u else if u = j then cprt t CL h M w s j c2 else 0)) := owns_up HNx.out (Below.drew (bnil _))
                    have HAq : Hid (wr.drew.ownsRow g 36 1 (.slice (some ⟨g1, 0, none⟩) i i) i (u64s i (bwF t CL h M w s))) := owns_up (owns_up HO.out (by rw [HG2.out]; exact HCx.out)) (Below.drew (bnil _))
                    have z1 := HNq.out.cellAt j (by omega)
                    rw [u64s_at _ hji, if_neg (Nat.lt_irrefl j), if_pos rfl, hnv] at z1
                    have z2 := HAq.out.cellAt u (by omega)
                    rw [u64s_at _ huN, hav] at z2
                    have z3 := HNq.out.frozenAt j
                    have z4 : wr.cell? ⟨g2, j, none⟩ = some (.int .u64 (nv : Nat)) := z1
                    have z5 : wr.cell? ⟨g1, u, none⟩ = some (.int .u64 (av : Nat)) := z2
                    have z6 : wr.frozen? ⟨g2, j, none⟩ = false := z3
                    have hadd := u64_add nv av
                    obtain ⟨sv, hsv⟩ : ∃ sv, (nv + av) % M64 = sv := ⟨_, rfl⟩
                    rw [hsv] at hadd
                    have hO9 := own_set HNq.out j (.int .u64 (sv : Nat))
                    rw [u64s_set _ (fun u => if u < j then bwF t CL h M w (s + 1) u else if u = j then cprt t CL h M w s j (c2 + 1) else 0) (fun j' _ => by
                      by_cases e : j' = j
                      · subst e
                        rw [if_neg (Nat.lt_irrefl j'), if_pos rfl, if_pos rfl, HNu.out, hsv]
                      · rw [if_neg e, if_neg e, if_neg e])] at hO9
                    have HO9 := Lib.hid hO9
                    have HC9 := Lib.hid ((Below.drew HCx.out).setCell (p := ⟨g2, j, none⟩) (Nat.le_refl g2) (.int .u64 (sv : Nat)))
                    clear hu hnv hav hsv hO9
                    go_wp2_with fail
                    go_region
                    all_goals
                      go_wp2
                      go_roundw
                      case rel => exact ⟨c2 + 1, by omega, by go_num, HO9.out, HC9.out⟩
                      case measure => simp [intOf]; omega
                  have HN2 : Hid (wr.ownsRow g2 36 1 (.slice (some ⟨g2, 0, none⟩) i i) i (u64s i fun u => if u < j then bwF t CL h M w (s + 1) u else if u = j then cprt t CL h M w s j (c2 + 1) else 0)) := by
                    show World.ownsRow _ _ _ _ _ _ _
                    rw [show cprt t CL h M w s j (c2 + 1) = cprt t CL h M w s j c2 from cprt_skip (by rw [HCO.out]; exact fun q => hfw (hmk.2 q))]
                    exact HNx.out
                  clear hmk hfv
                  go_wp2
                  go_roundw
                  case rel => exact ⟨c2 + 1, by omega, by go_num, HN2.out, HCx.out⟩
                  case measure => simp [intOf]; omega
                obtain rfl : c2 = M := by omega
                have HN2 : Hid (wr.ownsRow g2 36 1 (.slice (some ⟨g2, 0, none⟩) i i) i (u64s i fun u => if u < j + 1 then bwF t CL h c2 w (s + 1) u else 0)) := by
                  show World.ownsRow _ _ _ _ _ _ _
                  rw [show (fun u => if u < j + 1 then bwF t CL h c2 w (s + 1) u else 0) = (fun u => if u < j then bwF t CL h c2 w (s + 1) u else if u = j then cprt t CL h c2 w s j c2 else 0) from funext fun u => by
                    by_cases e : u = j
                    · subst e
                      rw [if_pos (Nat.lt_succ_self u), if_neg (Nat.lt_irrefl u), if_pos rfl]
                      rfl
                    · rw [if_neg e]
                      by_cases e2 : u < j
                      · rw [if_pos e2, if_pos (by omega)]
                      · rw [if_neg e2, if_neg (by omega)]]
                  exact HNx.out
                have c1 : ¬ (c2 : Int) < (c2 : Int) := by omega
                go_wp2
                go_roundw
                case rel => exact ⟨j + 1, by omega, by go_num, HN2.out, HCx.out⟩
                case measure => simp [intOf]; omega
            obtain rfl : j = i := by omega
            have HN2 : Hid (wr.ownsRow g 36 1 (.slice (some ⟨g2, 0, none⟩) j j) j (u64s j (bwF t CL h M w (s + 1)))) := by
              show World.ownsRow _ _ _ _ _ _ _
              rw [show (u64s j (bwF t CL h M w (s + 1))) = (u64s j fun u => if u < j then bwF t CL h M w (s + 1) u else 0) from List.map_congr_left fun x hx => by show Value.int .u64 ((bwF t CL h M w (s + 1) x : Nat) : Int) = Value.int .u64 (((if x < j then bwF t CL h M w (s + 1) x else 0 : Nat)) : Int); rw [if_pos (List.mem_range.1 hx)]]
              exact owns_base HN.out HGG.out
            have HB2 : Hid (Below g wo wr) := HBK.out.trans (HC.out.mono HGG.out)
            have j1 : ¬ (j : Int) < (j : Int) := by omega
            go_wp2
            go_roundw
            case rel => exact ⟨s + 1, g2, by omega, congrArg (Value.int .i64) (by omega), rfl, HN2.out, HB2.out⟩
            case measure => simp [intOf] <;> omega
        obtain rfl : s = w := by omega
        obtain ⟨A, hA⟩ : ∃ A, bwF t CL h M s s = A := ⟨_, rfl⟩
        have hret : sumN i A % M64 = CN := by rw [← HCN.out.1, ← hA, HNN.out]
        have HRET := Lib.hid hret
        rw [hA] at HO
        have s0 : ¬ (0 : Int) ≤ (s : Int) - 1 - (s : Int) := by omega
        clear hA hret
        have HWL : Hid (W.heap.size ≤ wc.heap.size) := (T12.out.1.1.1.1.1.1.2).size
        go_wp2_with fail
        go_loopw [21, 142] (fun nx ix wr => ∃ j : Nat, j ≤ i ∧ ix = .int .i64 (j : Nat) ∧ nx = .int .u64 (((sumN j A % M64 : Nat)) : Int) ∧ wr = wc) (fun _ ix _ => i - (intOf ix).toNat)
        case atStart => exact ⟨0, by omega, rfl, rfl, rfl⟩
        case round =>
          obtain ⟨j, hj, rfl, rfl, hwr⟩ := hrel
          rw [hwr]
          clear hwr
          by_cases hji : j < i
          · skip
            have hca := HO.out.cellAt j (by omega)
            rw [u64s_at _ hji] at hca
            have hs2 : sumN (j + 1) A % M64 = (sumN j A % M64 + A j) % M64 := by rw [Nat.mod_add_mod]; rfl
            have HS := Lib.hid hs2
            generalize A j = av at *
            generalize sumN j A % M64 = sv at *
            have hadd := u64_add sv av
            have j0 : (0 : Int) ≤ (j : Int) := by omega
            have j1 : (j : Int) < (i : Int) := by omega
            have jw : IntKind.i64.wrap ((j : Int) + 1) = (j : Int) + 1 := IntWalk.i64_in _ (by omega)
            obtain ⟨rv, hrv⟩ : ∃ rv, (sv + av) % M64 = rv := ⟨_, rfl⟩
            rw [hrv] at hadd hs2
            have HS := Lib.hid hs2
            clear hs2 hrv
            go_wp2
            go_roundw
            case rel => exact ⟨j + 1, by omega, by go_num, by rw [HS.out], by first | rfl | trivial⟩
            case measure => simp [intOf]; omega
          obtain rfl : j = i := by omega
          have j1 : ¬ (j : Int) < (j : Int) := by omega
          rw [HRET.out]
          have hfr := fun w => (from_any CN w HCN.out.2 : Calls Tryd.prog 16 #[.int .u64 CN] w _)
          go_wp2_with fail
          refine (hfr _).mono ?_; rintro e w9 ⟨nF, rfl, hoF, hnF, hb9⟩
          have T13 := T12.up hb9
          clear T12
          have HRES := Lib.hid (And.intro (owns_base hoF (show W.heap.size ≤ _ from HWL.out)) (And.intro hnF (T13.out.1.1.1.1.1.1.2)))
          clear hoF hnF hfr
          go_wp2
          refine bodyPost_ret (v := .tuple #[.slice (some ⟨wc.heap.size, 0, none⟩) nF 2, .nilIface]) (by simp [results, Tryd.results17, go_sem]) rfl ?_
          exact ⟨_, _, rfl, HRES.out.1, HRES.out.2.1, HRES.out.2.2⟩
end Go.Proofs.YtoaooblodgejdaaDoor
