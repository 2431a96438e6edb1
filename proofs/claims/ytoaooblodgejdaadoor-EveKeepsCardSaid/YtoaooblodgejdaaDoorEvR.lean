/- eve.Search of a right table and patch. -/
import Derived.Test.YtoaooblodgejdaaDoorEvX
import Derived.Test.YtoaooblodgejdaaDoorEvG
import Derived.Test.YtoaooblodgejdaaDoorLow
import Derived.Deep.RegionHeld3
import Derived.Deep.Cut
namespace Go.Proofs.YtoaooblodgejdaaDoor
open Go.RowKit
set_option linter.unusedVariables false
set_option maxRecDepth 100000

theorem evD_right {t l : List Int} {w h : Nat} (ht : IsTab t) (hp : IsPatch w h l) (w8 : w ≤ 8) (h4 : h ≤ 4) : evD t (w : Int) (h : Int) l = none := by
  unfold evD
  rw [tabD_of ht, patchErr_of hp]
  exact (if_neg (by omega)).trans (if_neg (by omega))
instance monoNR {a : Option Addr} {n : Nat} {l : List Nat} : Mono (fun w => NR w a n l) := ⟨⟨fun hb h => NR.up h hb⟩⟩
/-- the tries that are granted -/
def granted (x : Nat) : Nat := if x < 1099511627776 then x else 1099511627776
theorem eq_nil (b : Addr) (w : World) : (binOp .eql 30 .nilIface (.iface 190 (.pointer (some b)))).run Tryd.prog w = .ok (.bool false) w := by
  first | kernel_rfl | simp [binOp, go_sem]
set_option maxHeartbeats 4000000 in
theorem is_nil (b : Addr) (w : World) : Calls Tryd.prog 49 #[.nilIface, .iface 190 (.pointer (some b))] w fun e w' => e = .returned (.bool false) ∧ Below w.heap.size w w' := by
  have hen := eq_nil b w
  go_enter Tryd.func49, Tryd.ntmps49
  go_wp2
  go_ret
  exact ⟨rfl, bnil w⟩
theorem mkBools (NN : Nat) (hb : NN ≤ 32768) : ∃ ZC : Array Value, ZC.toList = bools NN (fun _ => false) ∧ ∀ w : World, (Instr.makeSlice 98 (.int .i64 (NN : Int)) (.int .i64 (NN : Int))).run Tryd.prog w = .ok (.slice (some ⟨w.heap.size, 0, none⟩) NN NN) (w.alloc (.cells ZC 4)) := by
  have et_bl : ET Tryd.prog 98 4 (.bool false) 1 1 := ⟨Tryd.underlying98, info_parts (by kernel_rfl), rfl, by decide⟩
  obtain ⟨i, h2, h3, h4, h5⟩ := et_bl.hi
  refine ⟨madeCells (Value.bool false).cells (NN * 1), made_bools NN, fun w => ?_⟩
  have h := run_makeSlice (P := Tryd.prog) w 98 4 i (.bool false) et_bl.ht h2 h3 .i64 .i64 (NN : Int) (NN : Int) (by omega) (by omega) (by rw [h4]; simp; omega) (by rw [h5]; omega) (by omega)
  rw [h4] at h
  simpa using h
/-- an error stays where a result of the type api.Found is written -/
theorem Chain.othF {w w' : World} {gr : Nat} {xs : Array Value} (hz : w.heap[gr]? = some (.cells xs 28)) (hk : ∀ j, j ≠ gr → w'.heap[j]? = w.heap[j]?) : ∀ {l : List (ByteArray × Int)} {v : Value} {a : Addr}, (l = [] → ∃ c t, w'.heap[a.block]? = some (.cells c t (0, 0))) → Chain w v l a → (∀ c t, w.heap[a.block]? = some (.cells c t (0, 0)) → ∃ c t, w'.heap[a.block]? = some (.cells c t (0, 0))) → Chain w' v l a
  | [], v, a, h0, h, ha => ⟨h.1, h0 rfl⟩
  | y :: r, v, a, h0, h, ha => by
    obtain ⟨g, x, hv, hg, hc⟩ := h
    refine ⟨g, x, hv, ?_, Chain.othF hz hk (fun e => ?_) hc ha⟩
    · rw [hk g (fun e => by
        subst e
        rw [hg] at hz
        simp only [Option.some.injEq, faultObj, Obj.cells.injEq] at hz
        exact absurd hz.2.1 (by decide))]
      exact hg
    · subst e
      obtain ⟨_, c, t, hh⟩ := hc
      exact ha c t hh
theorem EC.othF {R : Nat → Addr} {w w' : World} {v : Value} {es : List (ByteArray × Int)} {n : Int} {gr : Nat} {x0 x1 x2 x3 x4 : Value} (h : EC R w v (some (es, n))) (hz : w.heap[gr]? = some (.cells #[x0, x1, x2, x3, x4] 28)) (hk : ∀ j, j ≠ gr → w'.heap[j]? = w.heap[j]?) (hs : (R (rix n)).block ≠ gr) : EC R w' v (some (es, n)) := by
  have ha : ∀ c t, w.heap[(R (rix n)).block]? = some (.cells c t (0, 0)) → ∃ c t, w'.heap[(R (rix n)).block]? = some (.cells c t (0, 0)) := fun c t hh => ⟨c, t, (hk _ hs).trans hh⟩
  refine Chain.othF hz hk (fun e => ?_) h ha
  subst e
  obtain ⟨_, c, t, hh⟩ := h
  exact ha c t hh
/-- what Search hands back -/
def SrEnd (R : Nat → Addr) (B : Nat) (w' : World) (w h : Nat) (X : SS × Option Bool) (val ev : Value) : Prop := match X.2 with
  | none => val = fndV 0 0 0 none 0 0 none 0 0 ∧ EC R w' ev (some ([(opEve, 2)], 5))
  | some true => ∃ a n c, val = fndV 1 ((w + 2 : Nat) : Int) ((h + 2 : Nat) : Int) a n c none 0 0 ∧ ev = .nilIface ∧ OwI w' B a n c (joinL (h + 2) X.1.way.reverse)
  | some false => ∃ a c, val = fndV 2 0 0 none 0 0 a (4 + 3 * X.1.order.length) c ∧ ev = .nilIface ∧ w'.ownsRow B 5 1 (.slice a (4 + 3 * X.1.order.length) c) (4 + 3 * X.1.order.length) ((encL (w : Int) (h : Int) X.1.order).map (Value.int .u8))
set_option maxHeartbeats 32000000 in
theorem evsearch_ok (w h : Nat) (a : Option Addr) (n c ab ao cT : Nat) (l t : List Int) (aL : Option Addr) (nL cL : Nat) (lb : List Nat) (W : World) (R : Nat → Addr) (hS : Sent W R) (hR : RK .i64 W a n l) (hm : n ≤ maxLen) (hx : I64 l) (hT : RK .i64 W (some ⟨ab, ao, none⟩) 512 t) (hL : NR W aL nL lb) (hLc : nL ≤ cL) (hLm : cL ≤ maxLen) (ht : IsTab t) (hp : IsPatch w h l) (w8 : w ≤ 8) (h4 : h ≤ 4) :
    Calls Tryd.prog 15 #[.slice (some ⟨ab, ao, none⟩) 512 cT, patV w h a n c, .slice aL nL cL] W fun e w' => ∃ vf ev, e = .returned (.tuple #[vf, .int .i64 ((seekF t (colL w h l) h (4 * 2 ^ h) w (granted (val lb))).1.tries : Nat), ev]) ∧ Below W.heap.size W w' ∧ SrEnd R W.heap.size w' w h (seekF t (colL w h l) h (4 * 2 ^ h) w (granted (val lb))) vf ev := by
  have hed := evD_right ht hp w8 h4
  have HI6 := Lib.hid hx
  have HIT := Lib.hid ht
  have HPP := Lib.hid hp
  have HU := Lib.hid hL.2
  have HED := Lib.hid hed
  obtain ⟨M, hM⟩ : ∃ M, 4 * 2 ^ h = M := ⟨_, rfl⟩
  have hM64 : M ≤ 64 := by rw [← hM]; exact (m_le h4).1
  have hM1 : 1 ≤ M := by rw [← hM]; exact (m_le h4).2
  rw [hM]
  have hMI : (4 : Int) * 2 ^ h = (M : Int) := by rw [← hM, Int.natCast_mul, Int.natCast_pow]; rfl
  have hMw : IntKind.i64.wrap (M : Int) = (M : Int) := IntWalk.i64_in _ (by omega)
  have h0I : (0 : Int) ≤ (h : Int) := by omega
  have h64I : (h : Int) ≤ 64 := by omega
  obtain ⟨X, hX⟩ : ∃ X, seekF t (colL w h l) h M w (granted (val lb)) = X := ⟨_, rfl⟩
  rw [hX]
  have HMX := Lib.hid (And.intro hM hX)
  obtain ⟨XB, hXB⟩ : ∃ XB, val lb = XB := ⟨_, rfl⟩
  have HXB := Lib.hid hXB
  clear hM hX hXB hed
  have T0 := Tk.nil W
  have T1 := T0.add (fun wv => Below W.heap.size W wv) (bnil W)
  clear T0
  have T2 := T1.add (fun wv => Sent wv R) (hS)
  clear T1
  have T3 := T2.add (fun wv => RK .i64 wv a n l) (hR)
  clear T2
  have T4 := T3.add (fun wv => RK .i64 wv (some ⟨ab, ao, none⟩) 512 t) (hT)
  clear T3
  have T5 := T4.add (fun wv => RK .u32 wv aL nL (ofN lb)) (hL.1)
  clear T4
  have HR4 : Hid ((R 4).block < W.heap.size) := by
    obtain ⟨cb, tb, h⟩ := hS.row 4 (by omega)
    exact heap_ltT h
  clear hS hR hx hT hL ht hp
  obtain ⟨Wb, hWb⟩ : ∃ Wb, (W.alloc (.cells #[.int .i64 w, .int .i64 h, .slice a n c] 24)).alloc (.cells #[.int .i64 0, .int .i64 0, .int .i64 0, .slice none 0 0, .slice none 0 0] 28) = Wb := ⟨_, rfl⟩
  have hbWb : Below W.heap.size W Wb := by rw [← hWb]; exact balloc (balloc (bnil W) _) _
  have T6 := T5.up hbWb
  clear T5
  have T7 := T6.add (fun wv => wv.cell? ⟨W.heap.size, 0, none⟩ = some (.int .i64 w) ∧ wv.cell? ⟨W.heap.size, 1, none⟩ = some (.int .i64 h) ∧ wv.cell? ⟨W.heap.size, 2, none⟩ = some (.slice a n c)) (by rw [← hWb]; exact ⟨al000 (cnw (by simp) rfl), al000 (cnw (by simp) rfl), al000 (cnw (by simp) rfl)⟩)
  clear T6
  have HWb := Lib.hid hWb
  clear hWb hbWb
  have hz : Wb.heap[W.heap.size + 1]? = some (.cells #[.int .i64 0, .int .i64 0, .int .i64 0, .slice none 0 0, .slice none 0 0] 28) := by
    rw [← HWb.out]
    have := heap_alloc_new (W.alloc (.cells #[.int .i64 w, .int .i64 h, .slice a n c] 24)) (.cells #[.int .i64 0, .int .i64 0, .int .i64 0, .slice none 0 0, .slice none 0 0] 28)
    simpa using this
  have T8 := T7.add (fun wv => wv.heap[W.heap.size + 1]? = some (.cells #[.int .i64 0, .int .i64 0, .int .i64 0, .slice none 0 0, .slice none 0 0] 28)) (hz)
  clear T7
  clear hz
  go_enter Tryd.func15, Tryd.ntmps15
  have v_p0 : ((W.alloc (.cells #[.int .i64 w, .int .i64 h, .slice a n c] 24)).alloc (.cells #[.int .i64 0, .int .i64 0, .int .i64 0, .slice none 0 0, .slice none 0 0] 28)).cell? ⟨W.heap.size, 0, none⟩ = some (.int .i64 w) := by rw [HWb.out]; exact T8.out.1.2.1
  have v_p1 : ((W.alloc (.cells #[.int .i64 w, .int .i64 h, .slice a n c] 24)).alloc (.cells #[.int .i64 0, .int .i64 0, .int .i64 0, .slice none 0 0, .slice none 0 0] 28)).cell? ⟨W.heap.size, 1, none⟩ = some (.int .i64 h) := by rw [HWb.out]; exact T8.out.1.2.2.1
  have v_p2 : ((W.alloc (.cells #[.int .i64 w, .int .i64 h, .slice a n c] 24)).alloc (.cells #[.int .i64 0, .int .i64 0, .int .i64 0, .slice none 0 0, .slice none 0 0] 28)).cell? ⟨W.heap.size, 2, none⟩ = some (.slice a n c) := by rw [HWb.out]; exact T8.out.1.2.2.2
  go_wp2_with fail
  rw [HWb.out]
  refine (evasked_any w h a (some ⟨ab, ao, none⟩) n c 512 cT l t Wb R T8.out.1.1.1.1.1.2 T8.out.1.1.1.1.2 hm HI6.out T8.out.1.1.1.2 (by unfold maxLen; omega)).mono ?_; rintro e w1 ⟨ev, rfl, he, hbw1⟩
  clear v_p0 v_p1 v_p2
  have T9 := T8.up hbw1
  clear T8
  rw [HED.out] at he
  obtain rfl : ev = .nilIface := he
  have v_p0 : w1.cell? ⟨W.heap.size, 0, none⟩ = some (.int .i64 w) := T9.out.1.2.1
  have v_p1 : w1.cell? ⟨W.heap.size, 1, none⟩ = some (.int .i64 h) := T9.out.1.2.2.1
  have v_p2 : w1.cell? ⟨W.heap.size, 2, none⟩ = some (.slice a n c) := T9.out.1.2.2.2
  go_wp2_with fail
  refine (columns_okJ w h a n c l w1 R T9.out.1.1.1.1.1.2 T9.out.1.1.1.1.2 hm HI6.out HPP.out (by omega)).mono ?_; rintro e w2 ⟨gc, cc, rfl, hcol, hbw2⟩
  clear v_p0 v_p1 v_p2
  have T10 := T9.up hbw2
  clear T9
  have T11 := T10.add (fun wv => RK .i64 wv (some ⟨gc, 0, none⟩) w (colL w h l)) (hcol)
  clear T10
  clear hcol
  have v_p0 : w2.cell? ⟨W.heap.size, 0, none⟩ = some (.int .i64 w) := T11.out.1.1.2.1
  have v_p1 : w2.cell? ⟨W.heap.size, 1, none⟩ = some (.int .i64 h) := T11.out.1.1.2.2.1
  have v_p2 : w2.cell? ⟨W.heap.size, 2, none⟩ = some (.slice a n c) := T11.out.1.1.2.2.2
  have TK2 := T11
  obtain ⟨g, hg⟩ : ∃ g, w2.heap.size = g := ⟨_, rfl⟩
  have HG := Lib.hid hg
  go_wp2_with fail
  go_cut [12] from 38 (fun s12 wx => s12 = .pointer (some ⟨g, 0, none⟩) ∧ wx.heap[g]? = some (.cells #[.slice (some ⟨ab, ao, none⟩) 512 cT, .int .i64 (w : Nat), .int .i64 (h : Nat), .slice a n c, .slice (some ⟨gc, 0, none⟩) w cc, .int .i64 (M : Nat), .int .i64 0, .int .i64 1099511627776, .slice none 0 0, .slice none 0 0, .slice none 0 0] 100) ∧ Below g w2 wx)
  case first =>
    go_region
    all_goals
      go_wp2_with fail
      go_meet
      refine ⟨rfl, ?_, ?_⟩
      · rw [← HG.out]; exact heap_alloc_new w2 _
      · rw [← HG.out]; exact Below.drew (balloc (bnil w2) _)
  case rest =>
    clear v_p0 v_p1 v_p2
    obtain ⟨rfl, hbx, hb⟩ := hcut
    have hbT : Below w2.heap.size w2 wc := by rw [HG.out]; exact hb
    have HB3 := Lib.hid hbT
    generalize wc = w3 at *
    have T12 := T11.up hbT
    clear T11
    have T13 := T12.add (fun wv => wv.heap[g]? = some (.cells #[.slice (some ⟨ab, ao, none⟩) 512 cT, .int .i64 (w : Nat), .int .i64 (h : Nat), .slice a n c, .slice (some ⟨gc, 0, none⟩) w cc, .int .i64 (M : Nat), .int .i64 0, .int .i64 1099511627776, .slice none 0 0, .slice none 0 0, .slice none 0 0] 100)) (hbx)
    clear T12
    clear hbx hbT hb
    have hfr := fun w => (from_any 1099511627776 w (by decide) : Calls Tryd.prog 16 #[.int .u64 1099511627776] w _)
    go_wp2_with fail
    refine (hfr w3).mono ?_; rintro e w4 ⟨nF, rfl, _, hnv, hbw4⟩
    have T14 := T13.up hbw4
    clear T13
    have T15 := T14.add (fun wv => NR wv (some ⟨w3.heap.size, 0, none⟩) nF (limbs 1099511627776)) (hnv.nr)
    clear T14
    have hnF : nF ≤ 2 := hnv.le
    clear hnv hfr
    go_wp2_with fail
    refine (natCmp_any aL (some ⟨w3.heap.size, 0, none⟩) nL nF cL 2 lb (limbs 1099511627776) w4 ⟨T15.out.1.1.1.1.1.2, HU.out⟩ T15.out.2 hLc hnF hLm (by unfold maxLen; omega)).mono ?_; rintro e w5 ⟨rfl, q5, hw5⟩
    rw [val_limbs, HXB.out]
    have hb5 : Below w4.heap.size w4 w5 := by rw [hw5]; exact bdrewN (bnil w4) q5
    clear hw5
    have T16 := T15.up hb5
    clear T15
    have HB5 : Hid (Below g w2 w5) := by show Below _ _ _; rw [← HG.out]; exact bstep HB3.out (bstep hbw4 hb5)
    clear hb5
    by_cases hsm : XB < 1099511627776
    · skip
      have hcm : cmpN XB 1099511627776 = -1 := if_pos hsm
      rw [hcm]
      have hlow := fun w h => low_any aL nL cL lb w h hLc hLm
      simp only [HXB.out] at hlow
      have hmod : XB % 18446744073709551616 = XB := Nat.mod_eq_of_lt (by omega)
      simp only [hmod] at hlow
      have HLW := Lib.hid hlow
      have hXw : IntKind.i64.wrap (XB : Int) = (XB : Int) := IntWalk.i64_in _ (by omega)
      clear hcm hlow hmod
      have hbx0 := T16.out.1.2
      have c7 : w5.cell? ⟨g, 7, none⟩ = some (.int .i64 1099511627776) := by simp [World.cell?, hbx0]
      have f7 : w5.frozen? ⟨g, 7, none⟩ = false := by simp [World.frozen?, hbx0]
      have hbx7 : (w5.setCell ⟨g, 7, none⟩ (.int .i64 (XB : Nat))).heap[g]? = some (.cells #[.slice (some ⟨ab, ao, none⟩) 512 cT, .int .i64 (w : Nat), .int .i64 (h : Nat), .slice a n c, .slice (some ⟨gc, 0, none⟩) w cc, .int .i64 (M : Nat), .int .i64 0, .int .i64 (XB : Nat), .slice none 0 0, .slice none 0 0, .slice none 0 0] 100) := by simp [World.setCell, Array.getElem?_modify, hbx0]
      obtain ⟨w6, hw6⟩ : ∃ w6, w5.setCell ⟨g, 7, none⟩ (.int .i64 (XB : Nat)) = w6 := ⟨_, rfl⟩
      rw [hw6] at hbx7
      have HBX7 := Lib.hid hbx7
      have HB6 : Hid (Below g w2 w6) := by
        show Below _ _ _
        rw [← hw6]
        exact HB5.out.setCell (p := ⟨g, 7, none⟩) (Nat.le_refl _) _
      have hb6 : Below w2.heap.size w2 w6 := by rw [HG.out]; exact HB6.out
      clear hbx0 hbx7
      go_wp2_with fail
      refine (HLW.out _ ⟨T16.out.1.1.1.1.1.2, HU.out⟩).mono ?_; rintro e w9 ⟨rfl, hw9⟩
      rw [hw9]
      clear hw9
      have T916 := TK2.up hb6
      clear T16
      have T917 := T916.add (fun wv => wv.heap[g]? = some (.cells #[.slice (some ⟨ab, ao, none⟩) 512 cT, .int .i64 (w : Nat), .int .i64 (h : Nat), .slice a n c, .slice (some ⟨gc, 0, none⟩) w cc, .int .i64 (M : Nat), .int .i64 0, .int .i64 (XB : Nat), .slice none 0 0, .slice none 0 0, .slice none 0 0] 100)) (HBX7.out)
      clear T916
      have HL0 : Hid (granted XB = XB) := if_pos hsm
      clear hb6
      obtain ⟨P1, hP1⟩ : ∃ P1, w * M = P1 := ⟨_, rfl⟩
      have hP1b : P1 ≤ 512 := by rw [← hP1]; exact Nat.mul_le_mul w8 hM64
      obtain ⟨NN, hNN⟩ : ∃ NN, P1 * M = NN := ⟨_, rfl⟩
      have hNNb : NN ≤ 32768 := by rw [← hNN]; exact Nat.mul_le_mul hP1b hM64
      have HNN : Hid (NN = w * M * M) := by show _ = _; rw [hP1, hNN]
      have hP1I : (w : Int) * (M : Int) = (P1 : Int) := by rw [← hP1]; exact (Int.natCast_mul _ _).symm
      have hNNI : (P1 : Int) * (M : Int) = (NN : Int) := by rw [← hNN]; exact (Int.natCast_mul _ _).symm
      have hP1w : IntKind.i64.wrap (P1 : Int) = (P1 : Int) := IntWalk.i64_in _ (by omega)
      have hNNw : IntKind.i64.wrap (NN : Int) = (NN : Int) := IntWalk.i64_in _ (by omega)
      obtain ⟨ZC, hzl, hmk⟩ := mkBools NN hNNb
      have HZL := Lib.hid hzl
      clear hP1 hNN hzl
      have hbx := T917.out.2
      have c5 : w6.cell? ⟨g, 5, none⟩ = some (.int .i64 (M : Nat)) := by simp [World.cell?, hbx]
      have c8 : w6.cell? ⟨g, 8, none⟩ = some (.slice none 0 0) := by simp [World.cell?, hbx]
      have f8 : w6.frozen? ⟨g, 8, none⟩ = false := by simp [World.frozen?, hbx]
      have hbx2 : (w6.alloc (.cells ZC 4)).heap[g]? = some (.cells #[.slice (some ⟨ab, ao, none⟩) 512 cT, .int .i64 (w : Nat), .int .i64 (h : Nat), .slice a n c, .slice (some ⟨gc, 0, none⟩) w cc, .int .i64 (M : Nat), .int .i64 0, .int .i64 (XB : Nat), .slice none 0 0, .slice none 0 0, .slice none 0 0] 100) := ((balloc (bnil w6) _).block _ (heap_ltT hbx)).trans hbx
      have d8 : (w6.alloc (.cells ZC 4)).cell? ⟨g, 8, none⟩ = some (.slice none 0 0) := al000 c8
      have e8 : (w6.alloc (.cells ZC 4)).frozen? ⟨g, 8, none⟩ = false := by simp only [World.frozen?, hbx2]; rfl
      have d5 : (w6.alloc (.cells ZC 4)).cell? ⟨g, 5, none⟩ = some (.int .i64 (M : Nat)) := al000 c5
      have d0 : (w6.alloc (.cells ZC 4)).cell? ⟨W.heap.size, 0, none⟩ = some (.int .i64 w) := al000 (T917.out.1.1.1.2.1)
      have HBX2 := Lib.hid hbx2
      have hglt := heap_ltT hbx
      have HGLT := Lib.hid hglt
      have HBXX := Lib.hid hbx
      clear hbx hbx2
      have v_p0 : w6.cell? ⟨W.heap.size, 0, none⟩ = some (.int .i64 w) := T917.out.1.1.1.2.1
      go_wp2_with fail
      go_cut [] from 65 (fun wx => ∃ gd, wx.heap[g]? = some (.cells #[.slice (some ⟨ab, ao, none⟩) 512 cT, .int .i64 (w : Nat), .int .i64 (h : Nat), .slice a n c, .slice (some ⟨gc, 0, none⟩) w cc, .int .i64 (M : Nat), .int .i64 0, .int .i64 (XB : Nat), .slice (some ⟨gd, 0, none⟩) NN NN, .slice none 0 0, .slice none 0 0] 100) ∧ wx.ownsRow (g + 1) 4 1 (.slice (some ⟨gd, 0, none⟩) NN NN) NN (bools NN (ahB M [])) ∧ Below g w6 wx)
      case first =>
        go_region
        all_goals
          go_wp2_with fail
          go_meet
          have hbxx := HBXX.out
          have hgd : ¬ w6.heap.size = g := by have := HGLT.out; omega
          refine ⟨w6.heap.size, ?_, ?_, ?_⟩
          · have h1 : (w6.setCell ⟨g, 8, none⟩ (.slice (some ⟨w6.heap.size, 0, none⟩) NN NN)).heap[g]? = some (.cells #[.slice (some ⟨ab, ao, none⟩) 512 cT, .int .i64 (w : Nat), .int .i64 (h : Nat), .slice a n c, .slice (some ⟨gc, 0, none⟩) w cc, .int .i64 (M : Nat), .int .i64 0, .int .i64 (XB : Nat), .slice (some ⟨w6.heap.size, 0, none⟩) NN NN, .slice none 0 0, .slice none 0 0] 100) := by simp [World.setCell, Array.getElem?_modify, hbxx]
            exact ((balloc (bnil (w6.setCell ⟨g, 8, none⟩ (.slice (some ⟨w6.heap.size, 0, none⟩) NN NN))) (.cells ZC 4)).block _ (heap_ltT h1)).trans h1
          · have ho := own_lit (w := w6.setCell ⟨g, 8, none⟩ (.slice (some ⟨w6.heap.size, 0, none⟩) NN NN)) (base := g + 1) (g := w6.heap.size) (n := NN) (sz := 1) (e := 4) (cs := ZC) (by simp [World.setCell]) (by simp [World.setCell]; exact HGLT.out) (by unfold maxLen; omega) (by have := congrArg List.length HZL.out; simpa [bools] using this)
            rw [HZL.out] at ho
            exact owns_up ho (Below.drew (bnil _))
          · exact Below.drew (((Below.refl g w6).setCell (p := ⟨g, 8, none⟩) (Nat.le_refl _) _).alloc (by simp [World.setCell]; exact Nat.le_of_lt HGLT.out) _)
      case rest =>
        obtain ⟨gd, hbx7, hdd7, hb7⟩ := hcut
        generalize wc = w7 at *
        have HD7 := Lib.hid hdd7
        have HBX7 := Lib.hid hbx7
        have HB7 : Hid (Below g w2 w7) := HB6.out.trans hb7
        clear hbx7 hdd7 hb7
        clear v_p0
        obtain ⟨k, hk⟩ : ∃ k : SK, SK.mk g ab ao cT a n c gc 0 cc w h M gd NN = k := ⟨_, rfl⟩
        have hst : ST k t l R w2 := by
          rw [← hk]
          exact ⟨HG.out, TK2.out.1.1.1.1.1.1.2, TK2.out.1.1.1.1.2, TK2.out.2, HIT.out, HPP.out, w8, h4, HMX.out.1.symm, HNN.out⟩
        have hsm7 : SM k (S0 XB) w7 none 0 none 0 := by
          rw [← hk]
          exact ⟨HBX7.out, HD7.out, World.ownsRow_nil _ _ _ _, OwI.nil _ _⟩
        have hsk : seekF t (colL w h l) h M w XB = X := by
          have e := HMX.out.2
          rw [HXB.out, HL0.out] at e
          exact e
        have hL0 : XB ≤ 1099511627776 := by omega
        have hCall := evall k t l R w2 hst XB hL0 w7 none none 0 0 hsm7 (by rw [← hk]; exact HB7.out)
        have hkp : k.g = g ∧ k.w = w ∧ k.h = h ∧ k.m = M := by rw [← hk]; exact ⟨rfl, rfl, rfl, rfl⟩
        obtain ⟨kg, kw, kh, km⟩ := hkp
        rw [kg, kw, kh, km, hsk] at hCall
        have HCALL := Lib.hid hCall
        have HKK := Lib.hid (And.intro kg (And.intro kw kh))
        have HK0 := Lib.hid hk
        clear hCall hst hsm7 hsk kg kw kh km hk
        go_wp2_with fail
        refine HCALL.out.mono ?_; rintro e w8 ⟨vf, ev8, aO8, cO8, aW8, cW8, rfl, hm8, hb8, hf8⟩
        have HM8 := Lib.hid hm8
        have HB8 : Hid (Below g w2 w8) := by show Below _ _ _; rw [← HKK.out.1]; exact hb8
        have hb8T : Below w2.heap.size w2 w8 := by rw [HG.out]; exact HB8.out
        have HW7 : Hid (g ≤ w7.heap.size) := Nat.le_of_lt (heap_ltT HBX7.out)
        have T1817 := TK2.up hb8T
        clear T917
        obtain ⟨S8, o8⟩ := X
        have hbx8 : w8.heap[g]? = some (sObj k S8.tries S8.left aO8 S8.order.length cO8 aW8 S8.way.length cW8) := by rw [← HKK.out.1]; exact hm8.box
        have T1818 := T1817.add (fun wv => wv.heap[g]? = some (sObj k S8.tries S8.left aO8 S8.order.length cO8 aW8 S8.way.length cW8)) (hbx8)
        clear T1817
        clear hm8 hb8 hb8T hbx8
        cases o8 with
        | none =>
          obtain ⟨rfl, rfl⟩ : vf = fndV 0 0 0 none 0 0 none 0 0 ∧ ev8 = nbV R := hf8
          have HSN8 := Lib.hid (T1818.out.1.1.1.1.1.1.1.2)
          obtain ⟨w9, hw9⟩ : ∃ w9, w8.alloc (.cells #[.int .i64 0, .int .i64 0, .int .i64 0, .slice none 0 0, .slice none 0 0] 28) = w9 := ⟨_, rfl⟩
          have hbw9 : Below w8.heap.size w8 w9 := by rw [← hw9]; exact balloc (bnil w8) _
          have T1819 := T1818.up hbw9
          clear T1818
          have T1820 := T1819.add (fun wv => wv.cell? ⟨w8.heap.size, 0, none⟩ = some (.int .i64 0) ∧ wv.cell? ⟨w8.heap.size, 1, none⟩ = some (.int .i64 0) ∧ wv.cell? ⟨w8.heap.size, 2, none⟩ = some (.int .i64 0) ∧ wv.cell? ⟨w8.heap.size, 3, none⟩ = some (.slice none 0 0) ∧ wv.cell? ⟨w8.heap.size, 4, none⟩ = some (.slice none 0 0)) (by rw [← hw9]; exact ⟨cnw (by simp) rfl, cnw (by simp) rfl, cnw (by simp) rfl, cnw (by simp) rfl, cnw (by simp) rfl⟩)
          clear T1819
          have Hw9 := Lib.hid hw9
          clear hw9 hbw9
          have hgl9 : w9.cell? ⟨0, 0, none⟩ = some (nbV R) := (T1820.out.1.1.1.1.1.1.1.1.2).glob 4 (by omega)
          have hgl8 : w8.cell? ⟨0, 0, none⟩ = some (nbV R) := HSN8.out.glob 4 (by omega)
          have hgl8b : (w8.alloc (.cells #[.int .i64 0, .int .i64 0, .int .i64 0, .slice none 0 0, .slice none 0 0] 28)).cell? ⟨0, 0, none⟩ = some (nbV R) := by rw [Hw9.out]; exact hgl9
          go_wp2_with fail
          rw [Hw9.out]
          have hrow := (T1820.out.1.1.1.1.1.1.1.1.2).row 4 (by omega)
          obtain ⟨cb4, tb4, hrw⟩ := hrow
          refine (is_any (nbV R) [] (R 4) (R 4) w9 cb4 tb4 ⟨rfl, _, _, hrw⟩ hrw).mono ?_; rintro e w10 ⟨rfl, hw10⟩
          rw [decide_eq_true rfl, ← hw10]
          clear hw10 hrw hgl9 hgl8 hgl8b
          have hbx := T1820.out.1.2
          have hzz := T1820.out.1.1.1.2
          have c6 : w9.cell? ⟨g, 6, none⟩ = some (.int .i64 (S8.tries : Nat)) := by simp [World.cell?, hbx]
          have HS0 : Hid (w9.drew.cell? ⟨g, 6, none⟩ = some (.int .i64 (S8.tries : Nat))) := c6
          have HZZ : Hid (w9.drew.heap[W.heap.size + 1]? = some (.cells #[.int .i64 0, .int .i64 0, .int .i64 0, .slice none 0 0, .slice none 0 0] 28)) := hzz
          have HTD : Hid (Sent w9.drew R) := (T1820.out.1.1.1.1.1.1.1.1.2).up (Below.drew (bnil _))
          have HBW : Hid (Below W.heap.size W w9.drew) := Below.drew (T1820.out.1.1.1.1.1.1.1.1.1.2)
          have HGW : Hid (g ≠ W.heap.size + 1) := by
            have h1 := heap_ltT (TK2.out.1.2)
            have h2 := HG.out
            show _ ≠ _
            omega
          clear hbx hzz c6
          go_wp2_with fail
          go_region_held3 (fun w' => w'.cell? ⟨g, 6, none⟩ = some (.int .i64 (S8.tries : Nat)))
            (first | with_reducible exact HS6.out | with_reducible exact HS5.out | with_reducible exact HS0.out | go_keep)
            (first
              | (go_at_call 60; refine (eve_wrong _ _ _ R HTD.out.glob rfl).mono ?_; rintro e w11 ⟨rfl, hw11⟩; have HB11 : Hid (Below w9.drew.heap.size w9.drew w11) := (by show Below _ _ _; rw [hw11]; exact balloc (bnil _) _); have HE11 : Hid (EC R w11 (.iface 124 (.pointer (some ⟨w9.drew.heap.size, 0, none⟩))) (some ([(opEve, 2)], 5))) := (by show EC _ _ _ _; rw [hw11]; exact ec_err (HTD.out.up (balloc (bnil _) _)) (isErr_new (Nat.le_refl _))); have HZ11 : Hid (w11.heap[W.heap.size + 1]? = some (.cells #[.int .i64 0, .int .i64 0, .int .i64 0, .slice none 0 0, .slice none 0 0] 28)) := ((HB11.out.block _ (heap_ltT HZZ.out)).trans HZZ.out); have HS5 : Hid (w11.cell? ⟨g, 6, none⟩ = some (.int .i64 (S8.tries : Nat))) := cpa HB11.out HS0.out; have HS6 : Hid ((((((w11.setCell ⟨W.heap.size + 1, 0, none⟩ (.int .i64 0)).setCell ⟨W.heap.size + 1, 1, none⟩ (.int .i64 0)).setCell ⟨W.heap.size + 1, 2, none⟩ (.int .i64 0)).setCell ⟨W.heap.size + 1, 3, none⟩ (.slice none 0 0)).setCell ⟨W.heap.size + 1, 4, none⟩ (.slice none 0 0)).cell? ⟨g, 6, none⟩ = some (.int .i64 (S8.tries : Nat))) := (by obtain ⟨wA, eA, _, hkA, _, _⟩ := set5f HZ11.out (.int .i64 0) (.int .i64 0) (.int .i64 0) (.slice none 0 0) (.slice none 0 0); show World.cell? _ _ = _; rw [eA]; simp only [World.cell?, hkA g HGW.out]; exact HS5.out); have zz := f_cells HZ11.out; have z0 := zz.1.1; have z1 := zz.1.2.1; have z2 := zz.1.2.2.1; have z3 := zz.1.2.2.2.1; have z4 := zz.1.2.2.2.2; have zf0 := zz.2 0; have zf1 := zz.2 1; have zf2 := zz.2 2; have zf3 := zz.2 3; have zf4 := zz.2 4; clear zz hw11))
          all_goals
            obtain ⟨wA, eA, ⟨r0, r1, r2, r3, r4⟩, hkA, hsA, hbA⟩ := set5f HZ11.out (.int .i64 0) (.int .i64 0) (.int .i64 0) (.slice none 0 0) (.slice none 0 0)
            have HEA := Lib.hid eA
            have HRA := Lib.hid (And.intro r0 (And.intro r1 (And.intro r2 (And.intro r3 r4))))
            have HBA := Lib.hid (hbA W W.heap.size (by omega) (HBW.out.trans (HB11.out.mono HBW.out.size)))
            have HEE : Hid (EC R wA (.iface 124 (.pointer (some ⟨w9.drew.heap.size, 0, none⟩))) (some ([(opEve, 2)], 5))) := EC.othF HE11.out HZ11.out hkA (by have h := HR4.out; have e : rix 5 = 4 := rfl; rw [e]; omega)
            clear r0 r1 r2 r3 r4 hkA hsA hbA eA
            go_wp2
            rw [HEA.out]
            have r0 := HRA.out.1
            have r1 := HRA.out.2.1
            have r2 := HRA.out.2.2.1
            have r3 := HRA.out.2.2.2.1
            have r4 := HRA.out.2.2.2.2
            refine bodyPost_ret (v := .tuple #[fndV 0 0 0 none 0 0 none 0 0, .int .i64 (S8.tries : Nat), .iface 124 (.pointer (some ⟨w9.drew.heap.size, 0, none⟩))]) (by simp [results, Tryd.results15, go_sem, r0, r1, r2, r3, r4]) rfl ?_
            exact ⟨_, _, rfl, HBA.out, rfl, HEE.out⟩
        | some o8 =>
          cases o8 with
          | true =>
            obtain ⟨a8, n8, c8, hvf, rfl, ho8⟩ : ∃ a n c, vf = fndV 1 ((k.w + 2 : Nat) : Int) ((k.h + 2 : Nat) : Int) a n c none 0 0 ∧ ev8 = .nilIface ∧ OwI w8 w7.heap.size a n c (joinL (k.h + 2) S8.way.reverse) := hf8
            obtain ⟨WW, hWW⟩ : ∃ WW, w + 2 = WW := ⟨_, rfl⟩
            obtain ⟨HH, hHH⟩ : ∃ HH, h + 2 = HH := ⟨_, rfl⟩
            rw [HKK.out.2.1, HKK.out.2.2, hWW, hHH] at hvf
            rw [HKK.out.2.2, hHH] at ho8
            subst hvf
            have HWH := Lib.hid (And.intro hWW hHH)
            have HO8 := Lib.hid ho8
            clear ho8 hWW hHH
            have HSN8 := Lib.hid (T1818.out.1.1.1.1.1.1.1.2)
            obtain ⟨w9, hw9⟩ : ∃ w9, w8.alloc (.cells #[.int .i64 1, .int .i64 (WW : Nat), .int .i64 (HH : Nat), .slice a8 n8 c8, .slice none 0 0] 28) = w9 := ⟨_, rfl⟩
            have hbw9 : Below w8.heap.size w8 w9 := by rw [← hw9]; exact balloc (bnil w8) _
            have T1819 := T1818.up hbw9
            clear T1818
            have T1820 := T1819.add (fun wv => wv.cell? ⟨w8.heap.size, 0, none⟩ = some (.int .i64 1) ∧ wv.cell? ⟨w8.heap.size, 1, none⟩ = some (.int .i64 (WW : Nat)) ∧ wv.cell? ⟨w8.heap.size, 2, none⟩ = some (.int .i64 (HH : Nat)) ∧ wv.cell? ⟨w8.heap.size, 3, none⟩ = some (.slice a8 n8 c8) ∧ wv.cell? ⟨w8.heap.size, 4, none⟩ = some (.slice none 0 0)) (by rw [← hw9]; exact ⟨cnw (by simp) rfl, cnw (by simp) rfl, cnw (by simp) rfl, cnw (by simp) rfl, cnw (by simp) rfl⟩)
            clear T1819
            have Hw9 := Lib.hid hw9
            clear hw9 hbw9
            have hgl9 : w9.cell? ⟨0, 0, none⟩ = some (nbV R) := (T1820.out.1.1.1.1.1.1.1.1.2).glob 4 (by omega)
            have hgl8 : w8.cell? ⟨0, 0, none⟩ = some (nbV R) := HSN8.out.glob 4 (by omega)
            have hgl8b : (w8.alloc (.cells #[.int .i64 1, .int .i64 (WW : Nat), .int .i64 (HH : Nat), .slice a8 n8 c8, .slice none 0 0] 28)).cell? ⟨0, 0, none⟩ = some (nbV R) := by rw [Hw9.out]; exact hgl9
            go_wp2_with fail
            rw [Hw9.out]
            refine (is_nil (R 4) w9).mono ?_; rintro e w10 ⟨rfl, hb10⟩
            clear hgl9 hgl8 hgl8b
            have T1821 := T1820.up hb10
            clear T1820
            have hzz := T1821.out.1.1.1.2
            have hbx := T1821.out.1.2
            have c6 : w10.cell? ⟨g, 6, none⟩ = some (.int .i64 (S8.tries : Nat)) := by simp [World.cell?, hbx]
            obtain ⟨⟨z0, z1, z2, z3, z4⟩, zf⟩ := f_cells hzz
            have zf0 := zf 0
            have zf1 := zf 1
            have zf2 := zf 2
            have zf3 := zf 3
            have zf4 := zf 4
            obtain ⟨wA, eA, ⟨r0, r1, r2, r3, r4⟩, hkA, hsA, hbA⟩ := set5f hzz (.int .i64 1) (.int .i64 (WW : Nat)) (.int .i64 (HH : Nat)) (.slice a8 n8 c8) (.slice none 0 0)
            have HEA := Lib.hid eA
            have HRA := Lib.hid (And.intro r0 (And.intro r1 (And.intro r2 (And.intro r3 r4))))
            have HBA := Lib.hid (hbA W W.heap.size (by omega) (T1821.out.1.1.1.1.1.1.1.1.1.2))
            have HKA := Lib.hid hkA
            have hb89 : Below w8.heap.size w8 w9 := by rw [← Hw9.out]; exact balloc (bnil w8) _
            have ho10 := owns_up (HO8.out.own) (bstep hb89 hb10)
            have HO10 := Lib.hid ho10
            have HLW : Hid (W.heap.size + 1 < w7.heap.size) := by
              have h1 := heap_ltT (TK2.out.1.2)
              have h2 := HG.out
              have h3 := HW7.out
              show _ < _
              omega
            have v_f0 : w10.cell? ⟨w8.heap.size, 0, none⟩ = some (.int .i64 1) := T1821.out.2.1
            have v_f1 : w10.cell? ⟨w8.heap.size, 1, none⟩ = some (.int .i64 (WW : Nat)) := T1821.out.2.2.1
            have v_f2 : w10.cell? ⟨w8.heap.size, 2, none⟩ = some (.int .i64 (HH : Nat)) := T1821.out.2.2.2.1
            have v_f3 : w10.cell? ⟨w8.heap.size, 3, none⟩ = some (.slice a8 n8 c8) := T1821.out.2.2.2.2.1
            have v_f4 : w10.cell? ⟨w8.heap.size, 4, none⟩ = some (.slice none 0 0) := T1821.out.2.2.2.2.2
            clear zf r0 r1 r2 r3 r4 hkA hsA hbA eA hzz hbx ho10 hb89
            go_wp2_with fail
            go_region
            all_goals
              go_wp2
              rw [HEA.out]
              have r0 := HRA.out.1
              have r1 := HRA.out.2.1
              have r2 := HRA.out.2.2.1
              have r3 := HRA.out.2.2.2.1
              have r4 := HRA.out.2.2.2.2
              refine bodyPost_ret (v := .tuple #[fndV 1 (WW : Nat) (HH : Nat) a8 n8 c8 none 0 0, .int .i64 (S8.tries : Nat), .nilIface]) (by simp [results, Tryd.results15, go_sem, r0, r1, r2, r3, r4]) rfl ?_
              exact ⟨_, _, rfl, Below.drew HBA.out, a8, n8, c8, by rw [HWH.out.1, HWH.out.2], rfl, by rw [HWH.out.2]; exact ⟨owns_base (owns_up (own_of_heap' HO10.out fun b hb => HKA.out b (by have h1 := (HO8.out.own.lt b hb).1; have := HLW.out; omega)) (Below.drew (bnil _))) (by have := HLW.out; omega)⟩⟩
          | false =>
            obtain ⟨a8, c8, hvf, rfl, ho8⟩ : ∃ a c, vf = fndV 2 0 0 none 0 0 a (4 + 3 * S8.order.length) c ∧ ev8 = .nilIface ∧ w8.ownsRow w7.heap.size 5 1 (.slice a (4 + 3 * S8.order.length) c) (4 + 3 * S8.order.length) ((encL (k.w : Int) (k.h : Int) S8.order).map (Value.int .u8)) := hf8
            obtain ⟨LN, hLN⟩ : ∃ LN, 4 + 3 * S8.order.length = LN := ⟨_, rfl⟩
            rw [hLN] at hvf ho8
            rw [HKK.out.2.1, HKK.out.2.2] at ho8
            subst hvf
            have HLN := Lib.hid hLN
            have HO8 := Lib.hid ho8
            clear ho8 hLN
            have HSN8 := Lib.hid (T1818.out.1.1.1.1.1.1.1.2)
            obtain ⟨w9, hw9⟩ : ∃ w9, w8.alloc (.cells #[.int .i64 2, .int .i64 0, .int .i64 0, .slice none 0 0, .slice a8 LN c8] 28) = w9 := ⟨_, rfl⟩
            have hbw9 : Below w8.heap.size w8 w9 := by rw [← hw9]; exact balloc (bnil w8) _
            have T1819 := T1818.up hbw9
            clear T1818
            have T1820 := T1819.add (fun wv => wv.cell? ⟨w8.heap.size, 0, none⟩ = some (.int .i64 2) ∧ wv.cell? ⟨w8.heap.size, 1, none⟩ = some (.int .i64 0) ∧ wv.cell? ⟨w8.heap.size, 2, none⟩ = some (.int .i64 0) ∧ wv.cell? ⟨w8.heap.size, 3, none⟩ = some (.slice none 0 0) ∧ wv.cell? ⟨w8.heap.size, 4, none⟩ = some (.slice a8 LN c8)) (by rw [← hw9]; exact ⟨cnw (by simp) rfl, cnw (by simp) rfl, cnw (by simp) rfl, cnw (by simp) rfl, cnw (by simp) rfl⟩)
            clear T1819
            have Hw9 := Lib.hid hw9
            clear hw9 hbw9
            have hgl9 : w9.cell? ⟨0, 0, none⟩ = some (nbV R) := (T1820.out.1.1.1.1.1.1.1.1.2).glob 4 (by omega)
            have hgl8 : w8.cell? ⟨0, 0, none⟩ = some (nbV R) := HSN8.out.glob 4 (by omega)
            have hgl8b : (w8.alloc (.cells #[.int .i64 2, .int .i64 0, .int .i64 0, .slice none 0 0, .slice a8 LN c8] 28)).cell? ⟨0, 0, none⟩ = some (nbV R) := by rw [Hw9.out]; exact hgl9
            go_wp2_with fail
            rw [Hw9.out]
            refine (is_nil (R 4) w9).mono ?_; rintro e w10 ⟨rfl, hb10⟩
            clear hgl9 hgl8 hgl8b
            have T1821 := T1820.up hb10
            clear T1820
            have hzz := T1821.out.1.1.1.2
            have hbx := T1821.out.1.2
            have c6 : w10.cell? ⟨g, 6, none⟩ = some (.int .i64 (S8.tries : Nat)) := by simp [World.cell?, hbx]
            obtain ⟨⟨z0, z1, z2, z3, z4⟩, zf⟩ := f_cells hzz
            have zf0 := zf 0
            have zf1 := zf 1
            have zf2 := zf 2
            have zf3 := zf 3
            have zf4 := zf 4
            obtain ⟨wA, eA, ⟨r0, r1, r2, r3, r4⟩, hkA, hsA, hbA⟩ := set5f hzz (.int .i64 2) (.int .i64 0) (.int .i64 0) (.slice none 0 0) (.slice a8 LN c8)
            have HEA := Lib.hid eA
            have HRA := Lib.hid (And.intro r0 (And.intro r1 (And.intro r2 (And.intro r3 r4))))
            have HBA := Lib.hid (hbA W W.heap.size (by omega) (T1821.out.1.1.1.1.1.1.1.1.1.2))
            have HKA := Lib.hid hkA
            have hb89 : Below w8.heap.size w8 w9 := by rw [← Hw9.out]; exact balloc (bnil w8) _
            have ho10 := owns_up (HO8.out) (bstep hb89 hb10)
            have HO10 := Lib.hid ho10
            have HLW : Hid (W.heap.size + 1 < w7.heap.size) := by
              have h1 := heap_ltT (TK2.out.1.2)
              have h2 := HG.out
              have h3 := HW7.out
              show _ < _
              omega
            have v_f0 : w10.cell? ⟨w8.heap.size, 0, none⟩ = some (.int .i64 2) := T1821.out.2.1
            have v_f1 : w10.cell? ⟨w8.heap.size, 1, none⟩ = some (.int .i64 0) := T1821.out.2.2.1
            have v_f2 : w10.cell? ⟨w8.heap.size, 2, none⟩ = some (.int .i64 0) := T1821.out.2.2.2.1
            have v_f3 : w10.cell? ⟨w8.heap.size, 3, none⟩ = some (.slice none 0 0) := T1821.out.2.2.2.2.1
            have v_f4 : w10.cell? ⟨w8.heap.size, 4, none⟩ = some (.slice a8 LN c8) := T1821.out.2.2.2.2.2
            clear zf r0 r1 r2 r3 r4 hkA hsA hbA eA hzz hbx ho10 hb89
            go_wp2_with fail
            go_region
            all_goals
              go_wp2
              rw [HEA.out]
              have r0 := HRA.out.1
              have r1 := HRA.out.2.1
              have r2 := HRA.out.2.2.1
              have r3 := HRA.out.2.2.2.1
              have r4 := HRA.out.2.2.2.2
              refine bodyPost_ret (v := .tuple #[fndV 2 0 0 none 0 0 a8 LN c8, .int .i64 (S8.tries : Nat), .nilIface]) (by simp [results, Tryd.results15, go_sem, r0, r1, r2, r3, r4]) rfl ?_
              exact ⟨_, _, rfl, Below.drew HBA.out, a8, c8, by rw [HLN.out], rfl, by rw [HLN.out]; exact owns_base (owns_up (own_of_heap' HO10.out fun b hb => HKA.out b (by have h1 := (HO8.out.lt b hb).1; have := HLW.out; omega)) (Below.drew (bnil _))) (by have := HLW.out; omega)⟩
    have hcm : ¬ cmpN XB 1099511627776 < 0 := by
      unfold cmpN
      rw [if_neg hsm]
      split <;> omega
    have HL0 : Hid (granted XB = 1099511627776) := if_neg hsm
    obtain ⟨P1, hP1⟩ : ∃ P1, w * M = P1 := ⟨_, rfl⟩
    have hP1b : P1 ≤ 512 := by rw [← hP1]; exact Nat.mul_le_mul w8 hM64
    obtain ⟨NN, hNN⟩ : ∃ NN, P1 * M = NN := ⟨_, rfl⟩
    have hNNb : NN ≤ 32768 := by rw [← hNN]; exact Nat.mul_le_mul hP1b hM64
    have HNN : Hid (NN = w * M * M) := by show _ = _; rw [hP1, hNN]
    have hP1I : (w : Int) * (M : Int) = (P1 : Int) := by rw [← hP1]; exact (Int.natCast_mul _ _).symm
    have hNNI : (P1 : Int) * (M : Int) = (NN : Int) := by rw [← hNN]; exact (Int.natCast_mul _ _).symm
    have hP1w : IntKind.i64.wrap (P1 : Int) = (P1 : Int) := IntWalk.i64_in _ (by omega)
    have hNNw : IntKind.i64.wrap (NN : Int) = (NN : Int) := IntWalk.i64_in _ (by omega)
    obtain ⟨ZC, hzl, hmk⟩ := mkBools NN hNNb
    have HZL := Lib.hid hzl
    clear hP1 hNN hzl
    have hbx := T16.out.1.2
    have c5 : w5.cell? ⟨g, 5, none⟩ = some (.int .i64 (M : Nat)) := by simp [World.cell?, hbx]
    have c8 : w5.cell? ⟨g, 8, none⟩ = some (.slice none 0 0) := by simp [World.cell?, hbx]
    have f8 : w5.frozen? ⟨g, 8, none⟩ = false := by simp [World.frozen?, hbx]
    have hbx2 : (w5.alloc (.cells ZC 4)).heap[g]? = some (.cells #[.slice (some ⟨ab, ao, none⟩) 512 cT, .int .i64 (w : Nat), .int .i64 (h : Nat), .slice a n c, .slice (some ⟨gc, 0, none⟩) w cc, .int .i64 (M : Nat), .int .i64 0, .int .i64 1099511627776, .slice none 0 0, .slice none 0 0, .slice none 0 0] 100) := ((balloc (bnil w5) _).block _ (heap_ltT hbx)).trans hbx
    have d8 : (w5.alloc (.cells ZC 4)).cell? ⟨g, 8, none⟩ = some (.slice none 0 0) := al000 c8
    have e8 : (w5.alloc (.cells ZC 4)).frozen? ⟨g, 8, none⟩ = false := by simp only [World.frozen?, hbx2]; rfl
    have d5 : (w5.alloc (.cells ZC 4)).cell? ⟨g, 5, none⟩ = some (.int .i64 (M : Nat)) := al000 c5
    have d0 : (w5.alloc (.cells ZC 4)).cell? ⟨W.heap.size, 0, none⟩ = some (.int .i64 w) := al000 (T16.out.1.1.1.1.2.1)
    have HBX2 := Lib.hid hbx2
    have hglt := heap_ltT hbx
    have HGLT := Lib.hid hglt
    have HBXX := Lib.hid hbx
    clear hbx hbx2
    have v_p0 : w5.cell? ⟨W.heap.size, 0, none⟩ = some (.int .i64 w) := T16.out.1.1.1.1.2.1
    go_wp2_with fail
    go_cut [] from 65 (fun wx => ∃ gd, wx.heap[g]? = some (.cells #[.slice (some ⟨ab, ao, none⟩) 512 cT, .int .i64 (w : Nat), .int .i64 (h : Nat), .slice a n c, .slice (some ⟨gc, 0, none⟩) w cc, .int .i64 (M : Nat), .int .i64 0, .int .i64 1099511627776, .slice (some ⟨gd, 0, none⟩) NN NN, .slice none 0 0, .slice none 0 0] 100) ∧ wx.ownsRow (g + 1) 4 1 (.slice (some ⟨gd, 0, none⟩) NN NN) NN (bools NN (ahB M [])) ∧ Below g w5 wx)
    case first =>
      go_region
      all_goals
        go_wp2_with fail
        go_meet
        have hbxx := HBXX.out
        have hgd : ¬ w5.heap.size = g := by have := HGLT.out; omega
        refine ⟨w5.heap.size, ?_, ?_, ?_⟩
        · have h1 : (w5.setCell ⟨g, 8, none⟩ (.slice (some ⟨w5.heap.size, 0, none⟩) NN NN)).heap[g]? = some (.cells #[.slice (some ⟨ab, ao, none⟩) 512 cT, .int .i64 (w : Nat), .int .i64 (h : Nat), .slice a n c, .slice (some ⟨gc, 0, none⟩) w cc, .int .i64 (M : Nat), .int .i64 0, .int .i64 1099511627776, .slice (some ⟨w5.heap.size, 0, none⟩) NN NN, .slice none 0 0, .slice none 0 0] 100) := by simp [World.setCell, Array.getElem?_modify, hbxx]
          exact ((balloc (bnil (w5.setCell ⟨g, 8, none⟩ (.slice (some ⟨w5.heap.size, 0, none⟩) NN NN))) (.cells ZC 4)).block _ (heap_ltT h1)).trans h1
        · have ho := own_lit (w := w5.setCell ⟨g, 8, none⟩ (.slice (some ⟨w5.heap.size, 0, none⟩) NN NN)) (base := g + 1) (g := w5.heap.size) (n := NN) (sz := 1) (e := 4) (cs := ZC) (by simp [World.setCell]) (by simp [World.setCell]; exact HGLT.out) (by unfold maxLen; omega) (by have := congrArg List.length HZL.out; simpa [bools] using this)
          rw [HZL.out] at ho
          exact owns_up ho (Below.drew (bnil _))
        · exact Below.drew (((Below.refl g w5).setCell (p := ⟨g, 8, none⟩) (Nat.le_refl _) _).alloc (by simp [World.setCell]; exact Nat.le_of_lt HGLT.out) _)
    case rest =>
      obtain ⟨gd, hbx7, hdd7, hb7⟩ := hcut
      generalize wc = w7 at *
      have HD7 := Lib.hid hdd7
      have HBX7 := Lib.hid hbx7
      have HB7 : Hid (Below g w2 w7) := HB5.out.trans hb7
      clear hbx7 hdd7 hb7
      clear v_p0
      obtain ⟨k, hk⟩ : ∃ k : SK, SK.mk g ab ao cT a n c gc 0 cc w h M gd NN = k := ⟨_, rfl⟩
      have hst : ST k t l R w2 := by
        rw [← hk]
        exact ⟨HG.out, TK2.out.1.1.1.1.1.1.2, TK2.out.1.1.1.1.2, TK2.out.2, HIT.out, HPP.out, w8, h4, HMX.out.1.symm, HNN.out⟩
      have hsm7 : SM k (S0 1099511627776) w7 none 0 none 0 := by
        rw [← hk]
        exact ⟨HBX7.out, HD7.out, World.ownsRow_nil _ _ _ _, OwI.nil _ _⟩
      have hsk : seekF t (colL w h l) h M w 1099511627776 = X := by
        have e := HMX.out.2
        rw [HXB.out, HL0.out] at e
        exact e
      have hL0 : 1099511627776 ≤ 1099511627776 := by omega
      have hCall := evall k t l R w2 hst 1099511627776 hL0 w7 none none 0 0 hsm7 (by rw [← hk]; exact HB7.out)
      have hkp : k.g = g ∧ k.w = w ∧ k.h = h ∧ k.m = M := by rw [← hk]; exact ⟨rfl, rfl, rfl, rfl⟩
      obtain ⟨kg, kw, kh, km⟩ := hkp
      rw [kg, kw, kh, km, hsk] at hCall
      have HCALL := Lib.hid hCall
      have HKK := Lib.hid (And.intro kg (And.intro kw kh))
      have HK0 := Lib.hid hk
      clear hCall hst hsm7 hsk kg kw kh km hk
      go_wp2_with fail
      refine HCALL.out.mono ?_; rintro e w8 ⟨vf, ev8, aO8, cO8, aW8, cW8, rfl, hm8, hb8, hf8⟩
      have HM8 := Lib.hid hm8
      have HB8 : Hid (Below g w2 w8) := by show Below _ _ _; rw [← HKK.out.1]; exact hb8
      have hb8T : Below w2.heap.size w2 w8 := by rw [HG.out]; exact HB8.out
      have HW7 : Hid (g ≤ w7.heap.size) := Nat.le_of_lt (heap_ltT HBX7.out)
      have T916 := TK2.up hb8T
      clear T16
      obtain ⟨S8, o8⟩ := X
      have hbx8 : w8.heap[g]? = some (sObj k S8.tries S8.left aO8 S8.order.length cO8 aW8 S8.way.length cW8) := by rw [← HKK.out.1]; exact hm8.box
      have T917 := T916.add (fun wv => wv.heap[g]? = some (sObj k S8.tries S8.left aO8 S8.order.length cO8 aW8 S8.way.length cW8)) (hbx8)
      clear T916
      clear hm8 hb8 hb8T hbx8
      cases o8 with
      | none =>
        obtain ⟨rfl, rfl⟩ : vf = fndV 0 0 0 none 0 0 none 0 0 ∧ ev8 = nbV R := hf8
        have HSN8 := Lib.hid (T917.out.1.1.1.1.1.1.1.2)
        obtain ⟨w9, hw9⟩ : ∃ w9, w8.alloc (.cells #[.int .i64 0, .int .i64 0, .int .i64 0, .slice none 0 0, .slice none 0 0] 28) = w9 := ⟨_, rfl⟩
        have hbw9 : Below w8.heap.size w8 w9 := by rw [← hw9]; exact balloc (bnil w8) _
        have T918 := T917.up hbw9
        clear T917
        have T919 := T918.add (fun wv => wv.cell? ⟨w8.heap.size, 0, none⟩ = some (.int .i64 0) ∧ wv.cell? ⟨w8.heap.size, 1, none⟩ = some (.int .i64 0) ∧ wv.cell? ⟨w8.heap.size, 2, none⟩ = some (.int .i64 0) ∧ wv.cell? ⟨w8.heap.size, 3, none⟩ = some (.slice none 0 0) ∧ wv.cell? ⟨w8.heap.size, 4, none⟩ = some (.slice none 0 0)) (by rw [← hw9]; exact ⟨cnw (by simp) rfl, cnw (by simp) rfl, cnw (by simp) rfl, cnw (by simp) rfl, cnw (by simp) rfl⟩)
        clear T918
        have Hw9 := Lib.hid hw9
        clear hw9 hbw9
        have hgl9 : w9.cell? ⟨0, 0, none⟩ = some (nbV R) := (T919.out.1.1.1.1.1.1.1.1.2).glob 4 (by omega)
        have hgl8 : w8.cell? ⟨0, 0, none⟩ = some (nbV R) := HSN8.out.glob 4 (by omega)
        have hgl8b : (w8.alloc (.cells #[.int .i64 0, .int .i64 0, .int .i64 0, .slice none 0 0, .slice none 0 0] 28)).cell? ⟨0, 0, none⟩ = some (nbV R) := by rw [Hw9.out]; exact hgl9
        go_wp2_with fail
        rw [Hw9.out]
        have hrow := (T919.out.1.1.1.1.1.1.1.1.2).row 4 (by omega)
        obtain ⟨cb4, tb4, hrw⟩ := hrow
        refine (is_any (nbV R) [] (R 4) (R 4) w9 cb4 tb4 ⟨rfl, _, _, hrw⟩ hrw).mono ?_; rintro e w10 ⟨rfl, hw10⟩
        rw [decide_eq_true rfl, ← hw10]
        clear hw10 hrw hgl9 hgl8 hgl8b
        have hbx := T919.out.1.2
        have hzz := T919.out.1.1.1.2
        have c6 : w9.cell? ⟨g, 6, none⟩ = some (.int .i64 (S8.tries : Nat)) := by simp [World.cell?, hbx]
        have HS0 : Hid (w9.drew.cell? ⟨g, 6, none⟩ = some (.int .i64 (S8.tries : Nat))) := c6
        have HZZ : Hid (w9.drew.heap[W.heap.size + 1]? = some (.cells #[.int .i64 0, .int .i64 0, .int .i64 0, .slice none 0 0, .slice none 0 0] 28)) := hzz
        have HTD : Hid (Sent w9.drew R) := (T919.out.1.1.1.1.1.1.1.1.2).up (Below.drew (bnil _))
        have HBW : Hid (Below W.heap.size W w9.drew) := Below.drew (T919.out.1.1.1.1.1.1.1.1.1.2)
        have HGW : Hid (g ≠ W.heap.size + 1) := by
          have h1 := heap_ltT (TK2.out.1.2)
          have h2 := HG.out
          show _ ≠ _
          omega
        clear hbx hzz c6
        go_wp2_with fail
        go_region_held3 (fun w' => w'.cell? ⟨g, 6, none⟩ = some (.int .i64 (S8.tries : Nat)))
          (first | with_reducible exact HS6.out | with_reducible exact HS5.out | with_reducible exact HS0.out | go_keep)
          (first
            | (go_at_call 60; refine (eve_wrong _ _ _ R HTD.out.glob rfl).mono ?_; rintro e w11 ⟨rfl, hw11⟩; have HB11 : Hid (Below w9.drew.heap.size w9.drew w11) := (by show Below _ _ _; rw [hw11]; exact balloc (bnil _) _); have HE11 : Hid (EC R w11 (.iface 124 (.pointer (some ⟨w9.drew.heap.size, 0, none⟩))) (some ([(opEve, 2)], 5))) := (by show EC _ _ _ _; rw [hw11]; exact ec_err (HTD.out.up (balloc (bnil _) _)) (isErr_new (Nat.le_refl _))); have HZ11 : Hid (w11.heap[W.heap.size + 1]? = some (.cells #[.int .i64 0, .int .i64 0, .int .i64 0, .slice none 0 0, .slice none 0 0] 28)) := ((HB11.out.block _ (heap_ltT HZZ.out)).trans HZZ.out); have HS5 : Hid (w11.cell? ⟨g, 6, none⟩ = some (.int .i64 (S8.tries : Nat))) := cpa HB11.out HS0.out; have HS6 : Hid ((((((w11.setCell ⟨W.heap.size + 1, 0, none⟩ (.int .i64 0)).setCell ⟨W.heap.size + 1, 1, none⟩ (.int .i64 0)).setCell ⟨W.heap.size + 1, 2, none⟩ (.int .i64 0)).setCell ⟨W.heap.size + 1, 3, none⟩ (.slice none 0 0)).setCell ⟨W.heap.size + 1, 4, none⟩ (.slice none 0 0)).cell? ⟨g, 6, none⟩ = some (.int .i64 (S8.tries : Nat))) := (by obtain ⟨wA, eA, _, hkA, _, _⟩ := set5f HZ11.out (.int .i64 0) (.int .i64 0) (.int .i64 0) (.slice none 0 0) (.slice none 0 0); show World.cell? _ _ = _; rw [eA]; simp only [World.cell?, hkA g HGW.out]; exact HS5.out); have zz := f_cells HZ11.out; have z0 := zz.1.1; have z1 := zz.1.2.1; have z2 := zz.1.2.2.1; have z3 := zz.1.2.2.2.1; have z4 := zz.1.2.2.2.2; have zf0 := zz.2 0; have zf1 := zz.2 1; have zf2 := zz.2 2; have zf3 := zz.2 3; have zf4 := zz.2 4; clear zz hw11))
        all_goals
          obtain ⟨wA, eA, ⟨r0, r1, r2, r3, r4⟩, hkA, hsA, hbA⟩ := set5f HZ11.out (.int .i64 0) (.int .i64 0) (.int .i64 0) (.slice none 0 0) (.slice none 0 0)
          have HEA := Lib.hid eA
          have HRA := Lib.hid (And.intro r0 (And.intro r1 (And.intro r2 (And.intro r3 r4))))
          have HBA := Lib.hid (hbA W W.heap.size (by omega) (HBW.out.trans (HB11.out.mono HBW.out.size)))
          have HEE : Hid (EC R wA (.iface 124 (.pointer (some ⟨w9.drew.heap.size, 0, none⟩))) (some ([(opEve, 2)], 5))) := EC.othF HE11.out HZ11.out hkA (by have h := HR4.out; have e : rix 5 = 4 := rfl; rw [e]; omega)
          clear r0 r1 r2 r3 r4 hkA hsA hbA eA
          go_wp2
          rw [HEA.out]
          have r0 := HRA.out.1
          have r1 := HRA.out.2.1
          have r2 := HRA.out.2.2.1
          have r3 := HRA.out.2.2.2.1
          have r4 := HRA.out.2.2.2.2
          refine bodyPost_ret (v := .tuple #[fndV 0 0 0 none 0 0 none 0 0, .int .i64 (S8.tries : Nat), .iface 124 (.pointer (some ⟨w9.drew.heap.size, 0, none⟩))]) (by simp [results, Tryd.results15, go_sem, r0, r1, r2, r3, r4]) rfl ?_
          exact ⟨_, _, rfl, HBA.out, rfl, HEE.out⟩
      | some o8 =>
        cases o8 with
        | true =>
          obtain ⟨a8, n8, c8, hvf, rfl, ho8⟩ : ∃ a n c, vf = fndV 1 ((k.w + 2 : Nat) : Int) ((k.h + 2 : Nat) : Int) a n c none 0 0 ∧ ev8 = .nilIface ∧ OwI w8 w7.heap.size a n c (joinL (k.h + 2) S8.way.reverse) := hf8
          obtain ⟨WW, hWW⟩ : ∃ WW, w + 2 = WW := ⟨_, rfl⟩
          obtain ⟨HH, hHH⟩ : ∃ HH, h + 2 = HH := ⟨_, rfl⟩
          rw [HKK.out.2.1, HKK.out.2.2, hWW, hHH] at hvf
          rw [HKK.out.2.2, hHH] at ho8
          subst hvf
          have HWH := Lib.hid (And.intro hWW hHH)
          have HO8 := Lib.hid ho8
          clear ho8 hWW hHH
          have HSN8 := Lib.hid (T917.out.1.1.1.1.1.1.1.2)
          obtain ⟨w9, hw9⟩ : ∃ w9, w8.alloc (.cells #[.int .i64 1, .int .i64 (WW : Nat), .int .i64 (HH : Nat), .slice a8 n8 c8, .slice none 0 0] 28) = w9 := ⟨_, rfl⟩
          have hbw9 : Below w8.heap.size w8 w9 := by rw [← hw9]; exact balloc (bnil w8) _
          have T918 := T917.up hbw9
          clear T917
          have T919 := T918.add (fun wv => wv.cell? ⟨w8.heap.size, 0, none⟩ = some (.int .i64 1) ∧ wv.cell? ⟨w8.heap.size, 1, none⟩ = some (.int .i64 (WW : Nat)) ∧ wv.cell? ⟨w8.heap.size, 2, none⟩ = some (.int .i64 (HH : Nat)) ∧ wv.cell? ⟨w8.heap.size, 3, none⟩ = some (.slice a8 n8 c8) ∧ wv.cell? ⟨w8.heap.size, 4, none⟩ = some (.slice none 0 0)) (by rw [← hw9]; exact ⟨cnw (by simp) rfl, cnw (by simp) rfl, cnw (by simp) rfl, cnw (by simp) rfl, cnw (by simp) rfl⟩)
          clear T918
          have Hw9 := Lib.hid hw9
          clear hw9 hbw9
          have hgl9 : w9.cell? ⟨0, 0, none⟩ = some (nbV R) := (T919.out.1.1.1.1.1.1.1.1.2).glob 4 (by omega)
          have hgl8 : w8.cell? ⟨0, 0, none⟩ = some (nbV R) := HSN8.out.glob 4 (by omega)
          have hgl8b : (w8.alloc (.cells #[.int .i64 1, .int .i64 (WW : Nat), .int .i64 (HH : Nat), .slice a8 n8 c8, .slice none 0 0] 28)).cell? ⟨0, 0, none⟩ = some (nbV R) := by rw [Hw9.out]; exact hgl9
          go_wp2_with fail
          rw [Hw9.out]
          refine (is_nil (R 4) w9).mono ?_; rintro e w10 ⟨rfl, hb10⟩
          clear hgl9 hgl8 hgl8b
          have T920 := T919.up hb10
          clear T919
          have hzz := T920.out.1.1.1.2
          have hbx := T920.out.1.2
          have c6 : w10.cell? ⟨g, 6, none⟩ = some (.int .i64 (S8.tries : Nat)) := by simp [World.cell?, hbx]
          obtain ⟨⟨z0, z1, z2, z3, z4⟩, zf⟩ := f_cells hzz
          have zf0 := zf 0
          have zf1 := zf 1
          have zf2 := zf 2
          have zf3 := zf 3
          have zf4 := zf 4
          obtain ⟨wA, eA, ⟨r0, r1, r2, r3, r4⟩, hkA, hsA, hbA⟩ := set5f hzz (.int .i64 1) (.int .i64 (WW : Nat)) (.int .i64 (HH : Nat)) (.slice a8 n8 c8) (.slice none 0 0)
          have HEA := Lib.hid eA
          have HRA := Lib.hid (And.intro r0 (And.intro r1 (And.intro r2 (And.intro r3 r4))))
          have HBA := Lib.hid (hbA W W.heap.size (by omega) (T920.out.1.1.1.1.1.1.1.1.1.2))
          have HKA := Lib.hid hkA
          have hb89 : Below w8.heap.size w8 w9 := by rw [← Hw9.out]; exact balloc (bnil w8) _
          have ho10 := owns_up (HO8.out.own) (bstep hb89 hb10)
          have HO10 := Lib.hid ho10
          have HLW : Hid (W.heap.size + 1 < w7.heap.size) := by
            have h1 := heap_ltT (TK2.out.1.2)
            have h2 := HG.out
            have h3 := HW7.out
            show _ < _
            omega
          have v_f0 : w10.cell? ⟨w8.heap.size, 0, none⟩ = some (.int .i64 1) := T920.out.2.1
          have v_f1 : w10.cell? ⟨w8.heap.size, 1, none⟩ = some (.int .i64 (WW : Nat)) := T920.out.2.2.1
          have v_f2 : w10.cell? ⟨w8.heap.size, 2, none⟩ = some (.int .i64 (HH : Nat)) := T920.out.2.2.2.1
          have v_f3 : w10.cell? ⟨w8.heap.size, 3, none⟩ = some (.slice a8 n8 c8) := T920.out.2.2.2.2.1
          have v_f4 : w10.cell? ⟨w8.heap.size, 4, none⟩ = some (.slice none 0 0) := T920.out.2.2.2.2.2
          clear zf r0 r1 r2 r3 r4 hkA hsA hbA eA hzz hbx ho10 hb89
          go_wp2_with fail
          go_region
          all_goals
            go_wp2
            rw [HEA.out]
            have r0 := HRA.out.1
            have r1 := HRA.out.2.1
            have r2 := HRA.out.2.2.1
            have r3 := HRA.out.2.2.2.1
            have r4 := HRA.out.2.2.2.2
            refine bodyPost_ret (v := .tuple #[fndV 1 (WW : Nat) (HH : Nat) a8 n8 c8 none 0 0, .int .i64 (S8.tries : Nat), .nilIface]) (by simp [results, Tryd.results15, go_sem, r0, r1, r2, r3, r4]) rfl ?_
            exact ⟨_, _, rfl, Below.drew HBA.out, a8, n8, c8, by rw [HWH.out.1, HWH.out.2], rfl, by rw [HWH.out.2]; exact ⟨owns_base (owns_up (own_of_heap' HO10.out fun b hb => HKA.out b (by have h1 := (HO8.out.own.lt b hb).1; have := HLW.out; omega)) (Below.drew (bnil _))) (by have := HLW.out; omega)⟩⟩
        | false =>
          obtain ⟨a8, c8, hvf, rfl, ho8⟩ : ∃ a c, vf = fndV 2 0 0 none 0 0 a (4 + 3 * S8.order.length) c ∧ ev8 = .nilIface ∧ w8.ownsRow w7.heap.size 5 1 (.slice a (4 + 3 * S8.order.length) c) (4 + 3 * S8.order.length) ((encL (k.w : Int) (k.h : Int) S8.order).map (Value.int .u8)) := hf8
          obtain ⟨LN, hLN⟩ : ∃ LN, 4 + 3 * S8.order.length = LN := ⟨_, rfl⟩
          rw [hLN] at hvf ho8
          rw [HKK.out.2.1, HKK.out.2.2] at ho8
          subst hvf
          have HLN := Lib.hid hLN
          have HO8 := Lib.hid ho8
          clear ho8 hLN
          have HSN8 := Lib.hid (T917.out.1.1.1.1.1.1.1.2)
          obtain ⟨w9, hw9⟩ : ∃ w9, w8.alloc (.cells #[.int .i64 2, .int .i64 0, .int .i64 0, .slice none 0 0, .slice a8 LN c8] 28) = w9 := ⟨_, rfl⟩
          have hbw9 : Below w8.heap.size w8 w9 := by rw [← hw9]; exact balloc (bnil w8) _
          have T918 := T917.up hbw9
          clear T917
          have T919 := T918.add (fun wv => wv.cell? ⟨w8.heap.size, 0, none⟩ = some (.int .i64 2) ∧ wv.cell? ⟨w8.heap.size, 1, none⟩ = some (.int .i64 0) ∧ wv.cell? ⟨w8.heap.size, 2, none⟩ = some (.int .i64 0) ∧ wv.cell? ⟨w8.heap.size, 3, none⟩ = some (.slice none 0 0) ∧ wv.cell? ⟨w8.heap.size, 4, none⟩ = some (.slice a8 LN c8)) (by rw [← hw9]; exact ⟨cnw (by simp) rfl, cnw (by simp) rfl, cnw (by simp) rfl, cnw (by simp) rfl, cnw (by simp) rfl⟩)
          clear T918
          have Hw9 := Lib.hid hw9
          clear hw9 hbw9
          have hgl9 : w9.cell? ⟨0, 0, none⟩ = some (nbV R) := (T919.out.1.1.1.1.1.1.1.1.2).glob 4 (by omega)
          have hgl8 : w8.cell? ⟨0, 0, none⟩ = some (nbV R) := HSN8.out.glob 4 (by omega)
          have hgl8b : (w8.alloc (.cells #[.int .i64 2, .int .i64 0, .int .i64 0, .slice none 0 0, .slice a8 LN c8] 28)).cell? ⟨0, 0, none⟩ = some (nbV R) := by rw [Hw9.out]; exact hgl9
          go_wp2_with fail
          rw [Hw9.out]
          refine (is_nil (R 4) w9).mono ?_; rintro e w10 ⟨rfl, hb10⟩
          clear hgl9 hgl8 hgl8b
          have T920 := T919.up hb10
          clear T919
          have hzz := T920.out.1.1.1.2
          have hbx := T920.out.1.2
          have c6 : w10.cell? ⟨g, 6, none⟩ = some (.int .i64 (S8.tries : Nat)) := by simp [World.cell?, hbx]
          obtain ⟨⟨z0, z1, z2, z3, z4⟩, zf⟩ := f_cells hzz
          have zf0 := zf 0
          have zf1 := zf 1
          have zf2 := zf 2
          have zf3 := zf 3
          have zf4 := zf 4
          obtain ⟨wA, eA, ⟨r0, r1, r2, r3, r4⟩, hkA, hsA, hbA⟩ := set5f hzz (.int .i64 2) (.int .i64 0) (.int .i64 0) (.slice none 0 0) (.slice a8 LN c8)
          have HEA := Lib.hid eA
          have HRA := Lib.hid (And.intro r0 (And.intro r1 (And.intro r2 (And.intro r3 r4))))
          have HBA := Lib.hid (hbA W W.heap.size (by omega) (T920.out.1.1.1.1.1.1.1.1.1.2))
          have HKA := Lib.hid hkA
          have hb89 : Below w8.heap.size w8 w9 := by rw [← Hw9.out]; exact balloc (bnil w8) _
          have ho10 := owns_up (HO8.out) (bstep hb89 hb10)
          have HO10 := Lib.hid ho10
          have HLW : Hid (W.heap.size + 1 < w7.heap.size) := by
            have h1 := heap_ltT (TK2.out.1.2)
            have h2 := HG.out
            have h3 := HW7.out
            show _ < _
            omega
          have v_f0 : w10.cell? ⟨w8.heap.size, 0, none⟩ = some (.int .i64 2) := T920.out.2.1
          have v_f1 : w10.cell? ⟨w8.heap.size, 1, none⟩ = some (.int .i64 0) := T920.out.2.2.1
          have v_f2 : w10.cell? ⟨w8.heap.size, 2, none⟩ = some (.int .i64 0) := T920.out.2.2.2.1
          have v_f3 : w10.cell? ⟨w8.heap.size, 3, none⟩ = some (.slice none 0 0) := T920.out.2.2.2.2.1
          have v_f4 : w10.cell? ⟨w8.heap.size, 4, none⟩ = some (.slice a8 LN c8) := T920.out.2.2.2.2.2
          clear zf r0 r1 r2 r3 r4 hkA hsA hbA eA hzz hbx ho10 hb89
          go_wp2_with fail
          go_region
          all_goals
            go_wp2
            rw [HEA.out]
            have r0 := HRA.out.1
            have r1 := HRA.out.2.1
            have r2 := HRA.out.2.2.1
            have r3 := HRA.out.2.2.2.1
            have r4 := HRA.out.2.2.2.2
            refine bodyPost_ret (v := .tuple #[fndV 2 0 0 none 0 0 a8 LN c8, .int .i64 (S8.tries : Nat), .nilIface]) (by simp [results, Tryd.results15, go_sem, r0, r1, r2, r3, r4]) rfl ?_
            exact ⟨_, _, rfl, Below.drew HBA.out, a8, c8, by rw [HLN.out], rfl, by rw [HLN.out]; exact owns_base (owns_up (own_of_heap' HO10.out fun b hb => HKA.out b (by have h1 := (HO8.out.lt b hb).1; have := HLW.out; omega)) (Below.drew (bnil _))) (by have := HLW.out; omega)⟩
end Go.Proofs.YtoaooblodgejdaaDoor
