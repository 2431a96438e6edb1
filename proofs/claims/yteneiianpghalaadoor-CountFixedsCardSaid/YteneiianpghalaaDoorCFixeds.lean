/- edenlaw17.CountFixeds returns true. -/
import Derived.Test.YteneiianpghalaaDoorCntX
import Derived.Test.YteneiianpghalaaDoorCountR
import Derived.Test.YteneiianpghalaaDoorCountS
import Derived.Test.YteneiianpghalaaDoorRnQ
import Derived.Test.YteneiianpghalaaDoorLow
import Derived.Test.YteneiianpghalaaDoorLent
import Derived.Deep.OwnRows
import Derived.Deep.QuietTactic
import Derived.BigQuiet
namespace Go.Proofs.YteneiianpghalaaDoor
open Go.RowKit
set_option linter.unusedVariables false
set_option maxRecDepth 100000

theorem cmpN_sameX (x : Nat) : cmpN x x = 0 := by unfold cmpN; simp
def u64L (m : Nat) (f : Nat → Nat) : List Value := (List.range m).map fun j => .int .u64 ((f j : Nat) : Int)
theorem u64L_at {m j : Nat} (f : Nat → Nat) (h : j < m) : (u64L m f)[j]? = some (.int .u64 ((f j : Nat) : Int)) := by simp [u64L, h]
theorem u64L_set {m j x : Nat} (f g : Nat → Nat) (hg : ∀ i, i < m → g i = if i = j then x else f i) : (u64L m f).set j (.int .u64 (x : Nat)) = u64L m g := by
  apply List.ext_getElem
  · simp [u64L]
  · intro i h1 h2
    have hi : i < m := by simpa [u64L] using h2
    by_cases e : i = j
    · subst e; simp [u64L, hg i hi]
    · rw [List.getElem_set_ne fun q => e q.symm]
      simp [u64L, hg i hi, e]
theorem made_u64L (m : Nat) : (madeCells (Value.int .u64 0).cells (m * 1)).toList = u64L m fun _ => 0 := by
  rw [show (Value.int .u64 0).cells = #[.int .u64 0] from by rfl, toList_madeCells_one]
  simp [u64L, List.map_const']
structure WordAtX (w : World) (a : Option Addr) (n c : Nat) (l : List Int) : Prop where
  rk : RK .i64 w a n l
  le : n ≤ c
  nn : a = none → c = 0
theorem WordAtX.up {w w' : World} {a : Option Addr} {n c : Nat} {l : List Int} (h : WordAtX w a n c l) (hb : Below w.heap.size w w') : WordAtX w' a n c l := ⟨h.rk.up hb, h.le, h.nn⟩
theorem next_digsX (k n i : Nat) (a : Option Addr) (m c : Nat) (W : World) (R : Nat → Addr) (hG : Glob W R) (hw : WordAtX W a m c (digsF k n i)) (k1 : 1 ≤ k) (k4 : k ≤ 4) (hn : n ≤ 8) (hi : i < k ^ n) :
    Calls Tryd.prog 19 #[.int .i64 k, .slice a m c] W fun e w' => ∃ a' m' c', e = .returned (.tuple #[.slice a' m' c', .nilIface]) ∧ (i + 1 < k ^ n → OwI w' W.heap.size a' m' c' (digsF k n (i + 1))) ∧ Below W.heap.size W w' := by
  have hm := hw.rk.len
  rw [digsF_len] at hm
  have hck : chkErr (k : Int) (digsF k n i) = none := chk_none_of (by omega) (by omega) (by rw [digsF_len]; omega) (digsF_mem k1 n i hi)
  rcases lastUp_or (k : Int) (digsF k n i) with ⟨j, hj⟩ | hno
  · refine (next_up (k : Int) a m c _ W R hG hw.rk (by omega) hw.le hw.nn hck j hj).mono ?_
    rintro e w' ⟨a', c', rfl, ho, hb⟩
    refine ⟨a', m, c', rfl, fun hi1 => ?_, hb⟩
    rw [next_digsF k1 hi1 hj] at ho
    exact ⟨ho⟩
  · refine (next_all (k : Int) a m c _ W R hG hw.rk (by omega) hw.le hw.nn hck hno).mono ?_
    rintro e w' ⟨h1, _⟩
    obtain ⟨a', c', rfl, _, hb⟩ := h1 (by omega)
    exact ⟨a', m + 1, c', rfl, fun hi1 => absurd hno (noUp_digsF k1 hi1), hb⟩
theorem OwI.word {w : World} {b : Nat} {a : Option Addr} {n c : Nat} {l : List Int} (h : OwI w b a n c l) : WordAtX w a n c l := ⟨RK.of_own h.own, (own_cap h.own).1, (own_cap h.own).2.2⟩
theorem OwI.set {w : World} {g j : Nat} {a : Option Addr} {n c : Nat} {l : List Int} (h : OwI w (g + 1) a n c l) (v : Value) : OwI (w.setCell ⟨g, j, none⟩ v) (g + 1) a n c l := ⟨own_set_other h.own (fun e => by have := (h.own.lt g e).1; omega) v⟩
/-- how many of the first i rings have the image j -/
def cntI (k r n : Nat) (tb : List Int) (i j : Nat) : Nat := sumTo i fun x => if ringL k r tb (digsF k n x) = digsF k n j then 1 else 0
def ownI (k r n : Nat) (tb : List Int) (i : Nat) : Nat := sumTo i fun x => if ringL k r tb (digsF k n x) = digsF k n x then 1 else 0
theorem sumTo_bits {f : Nat → Nat} (h : ∀ i, f i ≤ 1) : ∀ n, sumTo n f ≤ n
  | 0 => Nat.le_refl _
  | n + 1 => by
    have := sumTo_bits h n
    have := h n
    show sumTo n f + f n ≤ n + 1
    omega
theorem cntI_le (k r n : Nat) (tb : List Int) (i j : Nat) : cntI k r n tb i j ≤ i := sumTo_bits (fun x => by split <;> omega) i
theorem ownI_le (k r n : Nat) (tb : List Int) (i : Nat) : ownI k r n tb i ≤ i := sumTo_bits (fun x => by split <;> omega) i
theorem ringL_len (k r : Nat) (tb l : List Int) : (ringL k r tb l).length = l.length := valsF_len _ _ _
theorem ringL_mem {k r : Nat} {tb l : List Int} (h : ∀ x ∈ tb, 0 ≤ x ∧ x < (k : Int)) (hk : 1 ≤ k) : ∀ x ∈ ringL k r tb l, 0 ≤ x ∧ x < (k : Int) :=
  valsF_mem (P := fun x => 0 ≤ x ∧ x < (k : Int)) fun i => getD_all (P := fun x => 0 ≤ x ∧ x < (k : Int)) h ⟨by omega, by omega⟩ _
/-- a row's number names it -/
theorem digs_horn {k n : Nat} (hk : 1 ≤ k) {l : List Int} (hl : l.length = n) (h : ∀ x ∈ l, 0 ≤ x ∧ x < (k : Int)) : horn k l < k ^ n ∧ digsF k n (horn k l) = l := by
  have h1 : horn k l < k ^ n := by rw [← hl]; exact horn_lt h
  exact ⟨h1, horn_inj (by rw [digsF_len, hl]) (digsF_mem hk n _ h1) h (horn_digsF hk n _ h1)⟩
theorem cntI_step {k n r : Nat} {tb : List Int} (hk : 1 ≤ k) (h : ∀ x ∈ tb, 0 ≤ x ∧ x < (k : Int)) (i j : Nat) (hj : j < k ^ n) : cntI k r n tb (i + 1) j = if j = horn k (ringL k r tb (digsF k n i)) then cntI k r n tb i (horn k (ringL k r tb (digsF k n i))) + 1 else cntI k r n tb i j := by
  obtain ⟨h1, h2⟩ := digs_horn (n := n) hk (by rw [ringL_len, digsF_len]) (ringL_mem (r := r) (l := digsF k n i) h hk)
  show cntI k r n tb i j + (if ringL k r tb (digsF k n i) = digsF k n j then 1 else 0) = _
  by_cases e : j = horn k (ringL k r tb (digsF k n i))
  · rw [if_pos e, ← e, if_pos (by rw [e, h2])]
  · rw [if_neg e, if_neg fun q => e (by rw [q, horn_digsF hk n j hj]), Nat.add_zero]

set_option maxHeartbeats 4000000 in
theorem Fixed_err (k r m : Int) (a : Option Addr) (n c : Nat) (l : List Int) (W : World) (R : Nat → Addr) (hG : Glob W R) (hR : RK .i64 W a n l) (hm : n ≤ maxLen) (h : ∀ kn rn : Nat, k = kn → r = rn → IsRule kn rn l → 256 < n) :
    Calls Tryd.prog 15 #[ruleV k r a n c, .int .i64 m] W (ErrTwo W) := by
  have HH := Lib.hid h; clear h
  have HG := Lib.hid hG; clear hG
  have HR := Lib.hid hR; clear hR
  obtain ⟨Wb, hWb⟩ : ∃ Wb, W.alloc (.cells #[.int .i64 k, .int .i64 r, .slice a n c] 24) = Wb := ⟨_, rfl⟩
  have HBX : Hid (Below W.heap.size W Wb) := by rw [← hWb]; exact balloc (bnil W) _
  have HWB := Lib.hid hWb; clear hWb
  go_enter Tryd.func15, Tryd.ntmps15
  go_wp2_with fail
  rw [HWB.out]
  refine (csmall_err k r a n c l _ R (HG.out.up HBX.out) (HR.out.up HBX.out) hm HH.out).mono ?_; rintro e w2 ⟨g2, rfl, hb2⟩
  go_wp2
  go_ret2
  exact ⟨_, rfl, HBX.out.trans (hb2.mono HBX.out.size)⟩

set_option maxHeartbeats 16000000 in
theorem fixeds_err (k r x : Int) (a : Option Addr) (n c : Nat) (l : List Int) (W : World) (R : Nat → Addr) (hG : Glob W R) (hR : RK .i64 W a n l) (hm : n ≤ maxLen) (h : ∀ kn rn : Nat, k = kn → r = rn → IsRule kn rn l → 256 < n) :
    Calls Tryd.prog 4 #[ruleV k r a n c, .int .i64 x] W (TrueBelow W) := by
  have HH := Lib.hid h; clear h
  have HG := Lib.hid hG; clear hG
  have HR := Lib.hid hR; clear hR
  obtain ⟨Wb, hWb⟩ : ∃ Wb, W.alloc (.cells #[.int .i64 k, .int .i64 r, .slice a n c] 24) = Wb := ⟨_, rfl⟩
  have HX : Hid (Wb.cell? ⟨W.heap.size, 0, none⟩ = some (.int .i64 k) ∧ Wb.cell? ⟨W.heap.size, 1, none⟩ = some (.int .i64 r) ∧ Wb.cell? ⟨W.heap.size, 2, none⟩ = some (.slice a n c)) := by rw [← hWb]; exact ⟨by simp, by simp, by simp⟩
  have HSZ : Hid (W.heap.size < Wb.heap.size) := by show _ < _; rw [← hWb]; simp
  have HBX : Hid (Below W.heap.size W Wb) := by rw [← hWb]; exact balloc (bnil W) _
  have HWB := Lib.hid hWb; clear hWb
  go_enter Tryd.func4, Tryd.ntmps4
  go_wp2_with fail
  rw [HWB.out]
  refine (awake17 _ R (HG.out.up HBX.out)).mono ?_; rintro e w1 ⟨rfl, hb1⟩
  have x0 := (hb1.cell (p := ⟨W.heap.size, 0, none⟩) HSZ.out).trans HX.out.1
  have x1 := (hb1.cell (p := ⟨W.heap.size, 1, none⟩) HSZ.out).trans HX.out.2.1
  have x2 := (hb1.cell (p := ⟨W.heap.size, 2, none⟩) HSZ.out).trans HX.out.2.2
  have hb1W := HBX.out.trans (hb1.mono HBX.out.size)
  go_wp2_with fail
  refine (Fixed_err k r _ a n c l _ R (HG.out.up hb1W) (HR.out.up hb1W) hm HH.out).mono ?_; rintro e w2 ⟨g2, rfl, hb2⟩
  go_wp2
  go_ret
  exact ⟨rfl, bstep hb1W hb2⟩

set_option maxHeartbeats 16000000 in
theorem fixeds_ok (k r : Nat) (x : Int) (a : Option Addr) (n c : Nat) (l : List Int) (W : World) (R : Nat → Addr) (hG : Glob W R) (hR : RK .i64 W a n l) (h : IsRule k r l) (hn : n ≤ 256) (hnc : n ≤ c) (hcm : c ≤ maxLen) :
    Calls Tryd.prog 4 #[ruleV k r a n c, .int .i64 x] W (TrueBelow W) := by
  have k1 := h.k1
  have k4 := h.k4
  have r3 := h.r3
  have hnod := h.nodes hR.len
  have hT := hnod.1
  have HND := Lib.hid hT; clear hnod hT
  have H := Lib.hid h; clear h
  have HG := Lib.hid hG; clear hG
  have HR := Lib.hid hR; clear hR
  have q1 := Int.lt_tmod_of_pos x (show (0 : Int) < 8 by omega)
  have q2 := Int.tmod_lt_of_pos x (show (0 : Int) < 8 by omega)
  obtain ⟨N0, hN, hN8⟩ : ∃ N0 : Nat, (x.tmod 8 + 8) % 8 = (N0 : Int) ∧ N0 < 8 := ⟨((x.tmod 8 + 8) % 8).toNat, by omega, by omega⟩
  obtain ⟨N, hNN⟩ : ∃ N, N0 + 1 = N := ⟨_, rfl⟩
  have hNI : (N0 : Int) + 1 = (N : Int) := by omega
  have hN1 : 1 ≤ N := by omega
  have hN8' : N ≤ 8 := by omega
  obtain ⟨Wb, hWb⟩ : ∃ Wb, W.alloc (.cells #[.int .i64 k, .int .i64 r, .slice a n c] 24) = Wb := ⟨_, rfl⟩
  have HX : Hid (Wb.cell? ⟨W.heap.size, 0, none⟩ = some (.int .i64 k) ∧ Wb.cell? ⟨W.heap.size, 1, none⟩ = some (.int .i64 r) ∧ Wb.cell? ⟨W.heap.size, 2, none⟩ = some (.slice a n c)) := by rw [← hWb]; exact ⟨by simp, by simp, by simp⟩
  have HSZ : Hid (W.heap.size < Wb.heap.size) := by show _ < _; rw [← hWb]; simp
  have HBX : Hid (Below W.heap.size W Wb) := by rw [← hWb]; exact balloc (bnil W) _
  have HWB := Lib.hid hWb; clear hWb
  clear hNN
  go_enter Tryd.func4, Tryd.ntmps4
  go_wp2_with fail
  rw [HWB.out]
  refine (awake17 _ R (HG.out.up HBX.out)).mono ?_; rintro e w1 ⟨rfl, hb1⟩
  have x0 := (hb1.cell (p := ⟨W.heap.size, 0, none⟩) HSZ.out).trans HX.out.1
  have x1 := (hb1.cell (p := ⟨W.heap.size, 1, none⟩) HSZ.out).trans HX.out.2.1
  have x2 := (hb1.cell (p := ⟨W.heap.size, 2, none⟩) HSZ.out).trans HX.out.2.2
  have HC1 := Lib.hid hb1
  have HB1 := Lib.hid (HBX.out.trans (hb1.mono HBX.out.size))
  clear hb1
  go_wp2_with fail
  refine (countFixed_ok k r a n c N l _ (HR.out.up HB1.out) H.out hn hnc hcm hN1 (by omega)).mono ?_; rintro e w2 ⟨a2, n2, c2, rfl, ho2, hb2⟩
  rw [HND.out, fixed_count k1 hN1] at ho2
  have HO2 : Hid (OwN w2 w1.heap.size (a2, n2, c2) (limbs (ownI k r N l (k ^ N)))) := ho2
  have HC2 := Lib.hid (bstep HC1.out hb2)
  have HB2 := Lib.hid (bstep HB1.out hb2)
  clear x0 x1 x2 ho2 hb2
  have x0 := (HC2.out.cell (p := ⟨W.heap.size, 0, none⟩) HSZ.out).trans HX.out.1
  have x1 := (HC2.out.cell (p := ⟨W.heap.size, 1, none⟩) HSZ.out).trans HX.out.2.1
  have x2 := (HC2.out.cell (p := ⟨W.heap.size, 2, none⟩) HSZ.out).trans HX.out.2.2
  obtain ⟨m, hm⟩ : ∃ m, k ^ N = m := ⟨_, rfl⟩
  have hmp : 0 < m := by rw [← hm]; exact Nat.pow_pos (by omega)
  by_cases h300 : 300 < m
  · go_wp2_with fail
    refine (all_big k N _ k1 k4 (by rw [hm]; exact h300) (by omega)).mono ?_; rintro e w3 ⟨rfl, rfl⟩
    go_wp2
    go_ret
    exact ⟨rfl, HB2.out⟩
  · have hm300 : m ≤ 300 := by omega
    rw [hm] at HO2
    have HM := Lib.hid hm
    clear hm
    have hmz : ((m : Int) == 0) = false := by rw [beq_eq_false_iff_ne]; omega
    have et_ul : ET Tryd.prog 41 37 (.int .u64 0) 1 8 := ⟨Tryd.underlying41, info_parts (by kernel_rfl), rfl, by decide⟩
    have HETU := Lib.hid et_ul
    clear et_ul
    go_wp2_with fail
    refine (all_small k N m _ k1 k4 HM.out.symm (by omega) (by omega)).mono ?_; rintro e w3 ⟨rfl, rfl⟩
    go_wp2_with fail
    refine (all_small k N m _ k1 k4 HM.out.symm (by omega) (by omega)).mono ?_; rintro e w3 ⟨rfl, rfl⟩
    go_wp2_with (first
      | (at_make; refine mk_full rfl _ _ _ rfl w2.heap.size HETU.out .i64 .i64 _ _ m rfl rfl rfl rfl (by omega) (by unfold maxLen; omega) (Nat.le_refl _) ?_; intro w3 hown3 hb3 hsz3; rw [made_u64L] at hown3)
      | (at_make; refine mk_full rfl _ _ _ rfl w3.heap.size et_int .i64 .i64 _ _ N rfl rfl rfl rfl (by omega) (by unfold maxLen; omega) (Nat.le_refl _) ?_; intro w4 hown4 hb4 hsz4; rw [made_i64'] at hown4))
    obtain ⟨gi, hgi⟩ : ∃ gi, w2.heap.size = gi := ⟨_, rfl⟩
    have HGI := Lib.hid hgi
    rw [hgi] at hown3 hb3 hsz3
    have hR0 : w4.ownsRow gi 37 1 (.slice (some ⟨gi, 0, none⟩) m m) m (u64L m (cntI k r N l 0)) := owns_up hown3 hb4
    have hW0 : OwI w4 (gi + 1) (some ⟨w3.heap.size, 0, none⟩) N N (digsF k N 0) := by
      rw [digsF_zero (by omega)]
      exact ⟨owns_base hown4 (by omega)⟩
    have hb0 : Below gi w2 w4 := hb3.trans (hb4.mono (by omega))
    have HR0 := Lib.hid hR0
    have HW0 := Lib.hid hW0
    have HB0 := Lib.hid hb0
    have HXG : Hid (W.heap.size < gi) := by have q1 := HSZ.out; have q2 := HC2.out.size; show _ < _; omega
    clear hown3 hb3 hsz3 hown4 hb4 hsz4 hR0 hW0 hb0
    simp only [hgi]
    clear hgi
    go_loopw [7, 9, 10] (fun ox vx ix wr => ∃ (i : Nat) (av : Option Addr) (nv cv : Nat), i ≤ m ∧ ix = .int .i64 i ∧ ox = .int .u64 ((ownI k r N l i : Nat) : Int) ∧ vx = .slice av nv cv ∧ wr.ownsRow gi 37 1 (.slice (some ⟨gi, 0, none⟩) m m) m (u64L m (cntI k r N l i)) ∧ (i < m → OwI wr (gi + 1) av nv cv (digsF k N i)) ∧ Below gi w2 wr) (fun _ _ ix _ => m - (intOf ix).toNat)
    case atStart => exact ⟨0, _, _, _, by omega, rfl, rfl, rfl, HR0.out, fun _ => HW0.out, HB0.out⟩
    case round =>
      clear HR0 HW0 HB0 x0 x1 x2
      obtain ⟨i, av, nv, cv, hi, rfl, rfl, rfl, ho, hw, hb⟩ := hrel
      have HO := Lib.hid ho
      have HB := Lib.hid hb
      have x0 := (hb.cell (p := ⟨W.heap.size, 0, none⟩) HXG.out).trans ((HC2.out.cell (p := ⟨W.heap.size, 0, none⟩) HSZ.out).trans HX.out.1)
      have x1 := (hb.cell (p := ⟨W.heap.size, 1, none⟩) HXG.out).trans ((HC2.out.cell (p := ⟨W.heap.size, 1, none⟩) HSZ.out).trans HX.out.2.1)
      have x2 := (hb.cell (p := ⟨W.heap.size, 2, none⟩) HXG.out).trans ((HC2.out.cell (p := ⟨W.heap.size, 2, none⟩) HSZ.out).trans HX.out.2.2)
      have HBW : Hid (Below W.heap.size W wr) := HB2.out.trans (hb.mono (Nat.le_of_lt HXG.out))
      have HGL : Hid (gi < wr.heap.size) := (ho.lt gi rfl).2
      by_cases him : i < m
      · have hiI : (i : Int) < (m : Int) := by omega
        have HW := Lib.hid (hw him)
        have HMEM := Lib.hid (digsF_mem (k := k) k1 N i (by rw [HM.out]; exact him))
        clear ho hw hb
        obtain ⟨S, hS⟩ : ∃ S, digsF k N i = S := ⟨_, rfl⟩
        have HSL : Hid (S.length = N) := by rw [← hS]; exact digsF_len k N i
        obtain rfl : N = nv := by have q := HW.out.word.rk.len; rw [digsF_len] at q; exact q.symm
        rw [hS] at HMEM
        have HSE := Lib.hid hS
        clear hS
        go_wp2_with fail
        refine (ringstep_ok k r a n c l av N cv S wr (HR.out.up HBW.out) (by rw [← HSE.out]; exact HW.out.word.rk) H.out ⟨by rw [HSL.out]; omega, by rw [HSL.out]; omega, HMEM.out⟩).mono ?_; rintro e w5 ⟨a5, c5, rfl, ho5, hb5⟩
        obtain ⟨I, hI⟩ : ∃ I, ringL k r l S = I := ⟨_, rfl⟩
        have hIl : I.length = N := by rw [← hI, ringL_len]; exact HSL.out
        have hIm : ∀ x ∈ I, 0 ≤ x ∧ x < (k : Int) := by rw [← hI]; exact ringL_mem H.out.sym k1
        rw [hI] at ho5
        have HI := Lib.hid hI
        have HO5 := Lib.hid ho5
        have hck : chkErr (k : Int) I = none := chk_none_of (by omega) (by omega) (by rw [hIl]; omega) hIm
        have hX := (digs_horn (n := N) k1 hIl hIm).1
        obtain ⟨X, hXe⟩ : ∃ X, horn k I = X := ⟨_, rfl⟩
        rw [hXe, HM.out] at hX
        have HXE := Lib.hid hXe
        have y0 := (hb5.cell (p := ⟨W.heap.size, 0, none⟩) (Nat.lt_trans HXG.out HGL.out)).trans x0
        have HBW5 := Lib.hid (bstep HBW.out hb5)
        have HB5 : Hid (Below wr.heap.size wr w5) := hb5
        clear hI hb5 ho5 hXe x0 x1 x2
        go_wp2_with fail
        refine (index_ok (k : Int) a5 N c5 I w5 R (HG.out.up HBW5.out) HO5.out.word.rk hck (by omega)).mono ?_; rintro e w6 ⟨a6, n6, c6, rfl, hv6, hb6⟩
        rw [Int.toNat_natCast, HXE.out] at hv6
        have z0 := (hb6.cell (p := ⟨W.heap.size, 0, none⟩) (Nat.lt_of_lt_of_le (Nat.lt_trans HXG.out HGL.out) HB5.out.size)).trans y0
        have HV6 := Lib.hid hv6
        have HB6 : Hid (Below wr.heap.size wr w6) := bstep HB5.out hb6
        have HBW6 := Lib.hid (bstep HBW5.out hb6)
        have HO6 := Lib.hid (HO5.out.up hb6)
        clear y0 hv6 hb6 HO5 HB5 HBW5
        go_wp2_with fail
        refine (next_digsX k N i av N cv w6 R (HG.out.up HBW6.out) (HW.out.up HB6.out).word k1 k4 hN8' (by rw [HM.out]; exact him)).mono ?_; rintro e w7 ⟨a7, n7, c7, rfl, hn7, hb7⟩
        have HV7 := Lib.hid (HV6.out.up hb7)
        have HO7 := Lib.hid (HO6.out.up hb7)
        have HB7 : Hid (Below wr.heap.size wr w7) := bstep HB6.out hb7
        have HN7 : Hid (i + 1 < m → OwI w7 (gi + 1) a7 n7 c7 (digsF k N (i + 1))) := fun h1 => (hn7 (by rw [HM.out]; exact h1)).base (by have q1 := HB6.out.size; have q2 := HGL.out; omega)
        clear z0 hn7 hb7 HV6 HO6 HB6 HBW6
        have HOW : Hid (w7.ownsRow gi 37 1 (.slice (some ⟨gi, 0, none⟩) m m) m (u64L m (cntI k r N l i))) := owns_up HO.out HB7.out
        have HW7 := Lib.hid (HW.out.up HB7.out)
        have cX := HOW.out.cellAt X (by omega)
        rw [u64L_at _ hX] at cX
        have fX := HOW.out.frozenAt X
        have hXI : ¬ (m : Int) ≤ (X : Int) := by omega
        have hXI2 : (X : Int) < (m : Int) := by omega
        have hXI0 : (0 : Int) ≤ (X : Int) := by omega
        have hmw : IntKind.u64.wrap (m : Int) = (m : Int) := by show ((m : Int) % 18446744073709551616) = _; omega
        have hlow : (((val (limbs X) % 18446744073709551616 : Nat)) : Int) = (X : Int) := by rw [val_limbs, Nat.mod_eq_of_lt (by omega)]
        obtain ⟨V, hV⟩ : ∃ V, cntI k r N l i X = V := ⟨_, rfl⟩
        have hVm : V ≤ 300 := by rw [← hV]; exact Nat.le_trans (cntI_le _ _ _ _ _ _) (by omega)
        rw [hV] at cX
        have hVw : IntKind.u64.wrap ((V : Int) + 1) = ((V + 1 : Nat) : Int) := by show (((V : Int) + 1) % 18446744073709551616) = _; omega
        have HVE := Lib.hid hV
        have LOW := Lib.hid (low_any a6 n6 c6 (limbs X) w7 HV7.out.nr HV7.out.le HV7.out.cm)
        rw [hlow] at LOW
        clear hV hlow
        go_wp2_with fail
        refine LOW.out.mono ?_; rintro e w8 ⟨rfl, rfl⟩
        go_wp2_with fail
        refine LOW.out.mono ?_; rintro e w8 ⟨rfl, rfl⟩
        go_wp2_with fail
        have hoR := own_set HOW.out X (.int .u64 ((V + 1 : Nat) : Int))
        rw [u64L_set _ (cntI k r N l (i + 1)) (fun j hj => by
          rw [cntI_step k1 H.out.sym i j (by rw [HM.out]; exact hj), HSE.out, HI.out, HXE.out, HVE.out])] at hoR
        have e9 : (.int .u64 ((V : Int) + 1) : Value) = .int .u64 ((V + 1 : Nat) : Int) := by congr 1
        rw [e9]
        obtain ⟨w9, hw9⟩ : ∃ w9, w8.setCell ⟨gi, X, none⟩ (.int .u64 ((V + 1 : Nat) : Int)) = w9 := ⟨_, rfl⟩
        have hO9 : OwI w9 wr.heap.size a5 N c5 I := by rw [← hw9]; exact ⟨own_set_other HO7.out.own (fun e => by have q1 := (HO7.out.own.lt gi e).1; have q2 := HGL.out; omega) _⟩
        have hW9 : OwI w9 (gi + 1) av N cv (digsF k N i) := by rw [← hw9]; exact HW7.out.set _
        have hN9 : i + 1 < m → OwI w9 (gi + 1) a7 n7 c7 (digsF k N (i + 1)) := fun h1 => by rw [← hw9]; exact (HN7.out h1).set _
        have hb9 : Below gi w2 w9 := by rw [← hw9]; exact (HB.out.trans (HB7.out.mono (Nat.le_of_lt HGL.out))).setCell (p := ⟨gi, X, none⟩) (Nat.le_refl _) _
        rw [hw9] at hoR ⊢
        have HO9 := Lib.hid hO9
        have HW9 := Lib.hid hW9
        have HN9 := Lib.hid hN9
        have HB9 := Lib.hid hb9
        have HR9 := Lib.hid hoR
        clear hO9 hW9 hN9 hb9 hoR hw9 cX fX e9 HN7 HB7 HOW HW7 LOW
        refine (ints_any a5 av N N c5 cv I S w9 HO9.out.word.rk (by rw [← HSE.out]; exact HW9.out.word.rk) (by unfold maxLen; omega) (by unfold maxLen; omega)).mono ?_; rintro e w10 ⟨rfl, q10, rfl⟩
        have HR10 : Hid ((w9.drewN q10).ownsRow gi 37 1 (.slice (some ⟨gi, 0, none⟩) m m) m (u64L m (cntI k r N l (i + 1)))) := owns_up HR9.out (bdrewN (bnil w9) q10)
        have HN10 : Hid (i + 1 < m → OwI (w9.drewN q10) (gi + 1) a7 n7 c7 (digsF k N (i + 1))) := fun h1 => (HN9.out h1).up (bdrewN (bnil w9) q10)
        have HB10 : Hid (Below gi w2 (w9.drewN q10)) := below_drewN HB9.out q10
        obtain ⟨OW, hOW⟩ : ∃ OW, ownI k r N l i = OW := ⟨_, rfl⟩
        have hOWm : OW ≤ 300 := by rw [← hOW]; exact Nat.le_trans (ownI_le _ _ _ _ _) (by omega)
        have hstep : Hid (ownI k r N l (i + 1) = OW + if I = S then 1 else 0) := by
          show ownI k r N l i + (if ringL k r l (digsF k N i) = digsF k N i then 1 else 0) = _
          rw [HSE.out, HI.out, hOW]
        have hOw : IntKind.u64.wrap ((OW : Int) + 1) = ((OW + 1 : Nat) : Int) := by show (((OW : Int) + 1) % 18446744073709551616) = _; omega
        rw [hOW]
        clear hOW
        by_cases hIS : I = S
        · have hd : decide (I = S) = true := decide_eq_true hIS
          have HSP : Hid (ownI k r N l (i + 1) = OW + 1) := by show _ = _; rw [hstep.out, if_pos hIS]
          rw [hd]
          clear hd hIS hstep
          go_wp2
          go_roundw
          case rel => exact ⟨i + 1, a7, n7, c7, him, by go_num, by rw [HSP.out]; rfl, rfl, HR10.out, HN10.out, HB10.out⟩
          case measure => simp [intOf]; omega
        · have hd : decide (I = S) = false := decide_eq_false hIS
          have HSP : Hid (ownI k r N l (i + 1) = OW) := by show _ = _; rw [hstep.out, if_neg hIS]; rfl
          rw [hd]
          clear hd hIS hstep
          go_wp2
          go_roundw
          case rel => exact ⟨i + 1, a7, n7, c7, him, by go_num, by rw [HSP.out], rfl, HR10.out, HN10.out, HB10.out⟩
          case measure => simp [intOf]; omega
      · obtain rfl : m = i := by omega
        have HRM := Lib.hid ho
        have HBM := Lib.hid hb
        clear ho hw hb him
        go_wp2_with (first
          | (at_make; refine mk_full rfl _ _ _ rfl wr.heap.size et_int .i64 .i64 _ _ N rfl rfl rfl rfl (by omega) (by unfold maxLen; omega) (Nat.le_refl _) ?_; intro w4 hown4 hb4 hsz4; rw [made_i64'] at hown4))
        have hW4 : WordAtX w4 (some ⟨wr.heap.size, 0, none⟩) N N (digsF k N 0) := by
          rw [digsF_zero (by omega)]
          exact ⟨RK.of_own hown4, Nat.le_refl _, fun e => by cases e⟩
        have HW4 := Lib.hid hW4
        have HB4 := Lib.hid hb4
        clear hown4 hb4 hsz4 hW4
        go_loopw [9, 17] (fun vx ix wz => ∃ (i : Nat) (av : Option Addr) (nv cv : Nat), i ≤ m ∧ ix = .int .i64 i ∧ vx = .slice av nv cv ∧ (i < m → WordAtX wz av nv cv (digsF k N i)) ∧ Below wr.heap.size wr wz) (fun _ ix _ => m - (intOf ix).toNat)
        case atStart => exact ⟨0, _, _, _, by omega, rfl, rfl, fun _ => HW4.out, HB4.out⟩
        case round =>
          clear HW4 HB4
          obtain ⟨i, av, nv, cv, hi, rfl, rfl, hw, hb⟩ := hrel
          have HB := Lib.hid hb
          have y0 := (hb.cell (p := ⟨W.heap.size, 0, none⟩) (Nat.lt_trans HXG.out HGL.out)).trans x0
          have y1 := (hb.cell (p := ⟨W.heap.size, 1, none⟩) (Nat.lt_trans HXG.out HGL.out)).trans x1
          have y2 := (hb.cell (p := ⟨W.heap.size, 2, none⟩) (Nat.lt_trans HXG.out HGL.out)).trans x2
          have HBZ := Lib.hid (bstep HBW.out hb)
          have HRZ := Lib.hid (owns_up HRM.out hb)
          by_cases him : i < m
          · have hiI : (i : Int) < (m : Int) := by omega
            have hiI0 : (0 : Int) ≤ (i : Int) := by omega
            have HW := Lib.hid (hw him)
            have HMEM := Lib.hid (digsF_mem (k := k) k1 N i (by rw [HM.out]; exact him))
            obtain rfl : N = nv := by have q := HW.out.rk.len; rw [digsF_len] at q; exact q.symm
            clear hw hb x0 x1 x2
            go_wp2_with fail
            refine (countRings_ok k r a av n c N cv l (digsF k N i) _ R (HG.out.up HBZ.out) (HR.out.up HBZ.out) HW.out.rk H.out hn hnc hcm (by omega) (by omega) HMEM.out).mono ?_; rintro e w5 ⟨a5, n5, c5, rfl, ho5, hb5⟩
            rw [HND.out, rings_count k1 hN1 (digsF_len k N i)] at ho5
            have ho5' : OwN w5 _ (a5, n5, c5) (limbs (cntI k r N l (k ^ N) i)) := ho5
            rw [HM.out] at ho5'
            obtain ⟨V, hV⟩ : ∃ V, cntI k r N l m i = V := ⟨_, rfl⟩
            have hVm : V ≤ 300 := by rw [← hV]; exact Nat.le_trans (cntI_le _ _ _ _ _ _) (by omega)
            have cX := HRZ.out.cellAt i (by omega)
            rw [u64L_at _ him] at cX
            rw [hV] at ho5' cX
            have HO5 := Lib.hid ho5'
            have z0 := (hb5.cell (p := ⟨W.heap.size, 0, none⟩) (Nat.lt_of_lt_of_le (Nat.lt_trans HXG.out HGL.out) HB.out.size)).trans y0
            have c5' := (hb5.cell (p := ⟨gi, i, none⟩) (Nat.lt_of_lt_of_le HGL.out HB.out.size)).trans (by simpa using cX)
            have HBZ5 := Lib.hid (bstep HBZ.out hb5)
            have HB5 := Lib.hid (bstep HB.out hb5)
            have HW5 := Lib.hid (HW.out.up hb5)
            clear ho5 ho5' hb5 hV cX y0 y1 y2 HW HBZ
            go_wp2_with fail
            refine (next_digsX k N i av N cv w5 R (HG.out.up HBZ5.out) HW5.out k1 k4 hN8' (by rw [HM.out]; exact him)).mono ?_; rintro e w7 ⟨a7, n7, c7, rfl, hn7, hb7⟩
            have HN7 : Hid (i + 1 < m → WordAtX w7 a7 n7 c7 (digsF k N (i + 1))) := fun h1 => (hn7 (by rw [HM.out]; exact h1)).word
            have c7' := (hb7.cell (p := ⟨gi, i, none⟩) (Nat.lt_of_lt_of_le HGL.out HB5.out.size)).trans c5'
            have HO7 := Lib.hid (HO5.out.up hb7)
            have HB7 := Lib.hid (bstep HB5.out hb7)
            clear hn7 hb7 c5' z0 HO5 HW5 HBZ5
            go_wp2_with fail
            refine (from_any V w7 (by omega)).mono ?_; rintro e w8 ⟨n8, rfl, _, hv8, hb8⟩
            have HV8 := Lib.hid hv8
            have HO8 := Lib.hid (HO7.out.up hb8)
            have HB8 := Lib.hid (bstep HB7.out hb8)
            have HN8 : Hid (i + 1 < m → WordAtX w8 a7 n7 c7 (digsF k N (i + 1))) := fun h1 => (HN7.out h1).up hb8
            clear hv8 hb8 c7' HO7 HB7 HN7
            go_wp2_with fail
            refine (natCmp_any a5 _ n5 n8 c5 2 _ _ w8 HO8.out.ns.nr HV8.out.nr HO8.out.ns.le HV8.out.le HO8.out.ns.cm HV8.out.cm).mono ?_; rintro e w9 ⟨rfl, q9, rfl⟩
            rw [cmpN_sameX]
            have HN9 : Hid (i + 1 < m → WordAtX (w8.drewN q9) a7 n7 c7 (digsF k N (i + 1))) := fun h1 => (HN8.out h1).up (bdrewN (bnil w8) q9)
            have HB9 := Lib.hid (bdrewN HB8.out q9)
            go_wp2
            go_roundw
            case rel => exact ⟨i + 1, a7, n7, c7, him, by go_num, rfl, HN9.out, HB9.out⟩
            case measure => simp [intOf]; omega
          · obtain rfl : m = i := by omega
            obtain ⟨OW, hOW⟩ : ∃ OW, ownI k r N l m = OW := ⟨_, rfl⟩
            have hOWm : OW ≤ 300 := by rw [← hOW]; exact Nat.le_trans (ownI_le _ _ _ _ _) (by omega)
            have HOZ : Hid (OwN wr w1.heap.size (a2, n2, c2) (limbs OW)) := by
              rw [← hOW]
              exact (HO2.out.up (by rw [HGI.out]; exact HBM.out)).up hb
            rw [hOW]
            clear hOW hw hb x0 x1 x2 y0 y1 y2
            go_wp2_with fail
            refine (from_any OW wr (by omega)).mono ?_; rintro e w8 ⟨n8, rfl, _, hv8, hb8⟩
            have HV8 := Lib.hid hv8
            have HO8 := Lib.hid (HOZ.out.up hb8)
            have HB8 := Lib.hid (bstep HBZ.out hb8)
            clear hv8 hb8
            go_wp2_with fail
            refine (natCmp_any a2 _ n2 n8 c2 2 _ _ w8 HO8.out.ns.nr HV8.out.nr HO8.out.ns.le HV8.out.le HO8.out.ns.cm HV8.out.cm).mono ?_; rintro e w9 ⟨rfl, q9, rfl⟩
            rw [cmpN_sameX]
            go_wp2
            go_ret
            exact ⟨rfl, bdrewN HB8.out q9⟩
theorem count_fixeds_row (k r : Int) (a : Option Addr) (n c : Nat) (l : List Int) (m : Int) (W : World) (R : Nat → Addr) (hE : Sent W R) (hM : SlI W a n c l) :
    Calls Tryd.prog 4 #[ruleV k r a n c, .int .i64 m] W (TrueBelow W) := by
  by_cases h : ∃ kn rn : Nat, k = kn ∧ r = rn ∧ IsRule kn rn l ∧ n ≤ 256
  · obtain ⟨kn, rn, rfl, rfl, hI, hn⟩ := h
    exact fixeds_ok kn rn m a n c l W R hE.glob hM.rk hI hn hM.le hM.mx
  · exact fixeds_err k r m a n c l W R hE.glob hM.rk hM.nm fun kn rn h1 h2 h3 => Nat.lt_of_not_le fun h4 => h ⟨kn, rn, h1, h2, h3, h4⟩
end Go.Proofs.YteneiianpghalaaDoor
