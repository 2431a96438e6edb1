/- ring.walk where nothing is refused, ring.After. -/
import Derived.Test.YtnmegpplfbkpcaaDoorRngP
import Derived.Test.YtnmegpplfbkpcaaDoorRingA
import Derived.Test.YtnmegpplfbkpcaaDoorClone
import Derived.Test.YtnmegpplfbkpcaaDoorTrk
namespace Go.Proofs.YtnmegpplfbkpcaaDoor
open Go.RowKit
set_option linter.unusedVariables false
set_option maxRecDepth 100000

theorem cpa {w w' : World} {a : Addr} {v : Value} (hb : Below w.heap.size w w') (h : w.cell? a = some v) : w'.cell? a = some v := (hb.cell (World.block_lt_of_cell? _ _ h)).trans h
theorem al000 {w : World} {a : Addr} {v : Value} {o : Obj} (h : w.cell? a = some v) : (w.alloc o).cell? a = some v := cpa (balloc (bnil w) o) h
theorem cnw {w : World} {cs : Array Value} {t : TypeId} {g j : Nat} {v : Value} (hg : g = w.heap.size) (h : cs[j]? = some v) : (w.alloc (.cells cs t)).cell? ⟨g, j, none⟩ = some v := cell_at_new rfl hg h
instance monoRK {k : IntKind} {a : Option Addr} {n : Nat} {l : List Int} : Mono (fun w => RK k w a n l) := ⟨⟨fun hb h => h.up hb⟩⟩
instance monoSlI {a : Option Addr} {n c : Nat} {l : List Int} : Mono (fun w => SlI w a n c l) := ⟨⟨fun hb h => h.up hb⟩⟩
instance monoOwI {b : Nat} {a : Option Addr} {n c : Nat} {l : List Int} : Mono (fun w => OwI w b a n c l) := ⟨⟨fun hb h => h.up hb⟩⟩
set_option maxHeartbeats 8000000 in
theorem rwalkA_ok (k r t : Nat) (a : Option Addr) (n c : Nat) (l : List Int) (aw : Option Addr) (nw cw : Nat) (wl : List Int) (F : Nat) (cap : Array Value) (W : World) (hR : RK .i64 W a n l) (hW : SlI W aw nw cw wl) (h : IsRule k r l) (hw : IsRing k wl) (ht : t * nw ≤ 262144)
    (hE : ∀ args w, (callFunc F args).run Tryd.prog w = .ok (.enter F args) w) (hF : ∀ (W' : World) a' c', Calls Tryd.prog F (#[.slice a' nw c'] ++ cap) W' fun e w' => e = .returned (.tuple #[]) ∧ W' = w') :
    Calls Tryd.prog 26 #[ruleV k r a n c, .slice aw nw cw, .int .i64 t, .func (.func F) #[] cap] W fun e w' => ∃ a' c', e = .returned (.tuple #[.slice a' nw c', .nilIface]) ∧ OwI w' W.heap.size a' nw c' (itR k r l t wl) ∧ Below W.heap.size W w' := by
  have hnl := hW.rk.len
  have hl1 := hw.l1
  have hl2 := hw.l2
  have HRU := Lib.hid h
  have HRG := Lib.hid hw
  have HF := Lib.hid hF
  have hq : (262144 : Int).tdiv (nw : Int) = ((262144 / nw : Nat) : Int) := by rw [Int.tdiv_eq_ediv_of_nonneg (by omega)]; rfl
  obtain ⟨Q, hQ⟩ : ∃ Q, 262144 / nw = Q := ⟨_, rfl⟩
  have htQ : t ≤ Q := by rw [← hQ]; exact (Nat.le_div_iff_mul_le (by omega)).2 ht
  have hQ6 : Q ≤ 262144 := by rw [← hQ]; exact Nat.div_le_self _ _
  rw [hQ] at hq
  have hq2 : (262144 : Int) / (nw : Int) = (Q : Int) := by rw [← hQ]; rfl
  have hqw : IntKind.i64.wrap (Q : Int) = (Q : Int) := IntWalk.i64_in _ (by omega)
  have nz : ¬ (nw : Int) = 0 := by omega
  have nzb : ((nw : Int) == 0) = false := by rw [beq_eq_false_iff_ne]; exact nz
  have nzn : ¬ nw = 0 := by omega
  have t0 : ¬ (t : Int) < 0 := by omega
  have t1 : ¬ (Q : Int) < (t : Int) := by omega
  have HNL := Lib.hid hnl
  clear hQ hnl hF
  have T0 := Tk.nil W
  have T1 := T0.add (fun wv => Below W.heap.size W wv) (bnil W)
  clear T0
  have T2 := T1.add (fun wv => RK .i64 wv a n l) (hR)
  clear T1
  have T3 := T2.add (fun wv => SlI wv aw nw cw wl) (hW)
  clear T2
  clear hR hW h hw
  obtain ⟨Wb, hWb⟩ : ∃ Wb, W.alloc (.cells #[.int .i64 k, .int .i64 r, .slice a n c] 24) = Wb := ⟨_, rfl⟩
  have hbWb : Below W.heap.size W Wb := by rw [← hWb]; exact balloc (bnil W) _
  have T4 := T3.up hbWb
  clear T3
  have T5 := T4.add (fun wv => wv.cell? ⟨W.heap.size, 0, none⟩ = some (.int .i64 k) ∧ wv.cell? ⟨W.heap.size, 1, none⟩ = some (.int .i64 r) ∧ wv.cell? ⟨W.heap.size, 2, none⟩ = some (.slice a n c)) (by rw [← hWb]; exact ⟨cnw (by simp) rfl, cnw (by simp) rfl, cnw (by simp) rfl⟩)
  clear T4
  have HWb := Lib.hid hWb
  clear hWb hbWb
  go_enter Tryd.func26, Tryd.ntmps26
  have v_p0 : (W.alloc (.cells #[.int .i64 k, .int .i64 r, .slice a n c] 24)).cell? ⟨W.heap.size, 0, none⟩ = some (.int .i64 k) := by rw [HWb.out]; exact T5.out.2.1
  have v_p1 : (W.alloc (.cells #[.int .i64 k, .int .i64 r, .slice a n c] 24)).cell? ⟨W.heap.size, 1, none⟩ = some (.int .i64 r) := by rw [HWb.out]; exact T5.out.2.2.1
  have v_p2 : (W.alloc (.cells #[.int .i64 k, .int .i64 r, .slice a n c] 24)).cell? ⟨W.heap.size, 2, none⟩ = some (.slice a n c) := by rw [HWb.out]; exact T5.out.2.2.2
  go_wp2_with fail
  rw [HWb.out]
  refine (ringcheck_ok k r a n c l aw nw cw wl Wb T5.out.1.1.2 (T5.out.1.2).rk HRU.out HRG.out).mono ?_; rintro e w1 ⟨rfl, hbw1⟩
  clear v_p0 v_p1 v_p2
  have T6 := T5.up hbw1
  clear T5
  have HS1 : Hid (W.heap.size ≤ w1.heap.size) := (T6.out.1.1.1.2).size
  go_wp2_with fail
  refine (clone_any aw nw cw wl w1 (T6.out.1.2).rk (T6.out.1.2).n8 (T6.out.1.2).le (T6.out.1.2).nn).mono ?_; rintro e w2 ⟨a2, c2, rfl, ho2, hbw2⟩
  have T7 := T6.up hbw2
  clear T6
  have HO2 : Hid (OwI w2 w1.heap.size a2 nw c2 wl) := ⟨ho2⟩
  clear ho2
  have T8 := T7.add (fun wv => Below w2.heap.size w2 wv) (bnil w2)
  clear T7
  go_wp2_with fail
  go_loopw [1, 31] (fun s1 ix wr => ∃ (i : Nat) (a' : Option Addr) (c' : Nat), i ≤ t ∧ ix = .int .i64 (i : Nat) ∧ s1 = .slice a' nw c' ∧ OwI wr W.heap.size a' nw c' (itR k r l i wl) ∧ Below w2.heap.size w2 wr) (fun _ ix _ => t - (intOf ix).toNat)
  case atStart => exact ⟨0, a2, c2, by omega, rfl, rfl, HO2.out.base HS1.out, bnil _⟩
  case round =>
    obtain ⟨i, a', c', hi, rfl, rfl, ho, hb⟩ := hrel
    have T9 := T8.up hb
    clear T8
    have T10 := T9.add (fun wv => OwI wv W.heap.size a' nw c' (itR k r l i wl)) (ho)
    clear T9
    clear ho hb
    generalize wr = wo at *
    by_cases hit : i < t
    · skip
      have i1 : (i : Int) < (t : Int) := by omega
      have hwo : W.heap.size ≤ wo.heap.size := (T10.out.1.1.1.1.1.2).size
      have hef := hE
      go_wp2_with fail
      refine (HF.out wo a' c').mono ?_; rintro e w5 ⟨rfl, rfl⟩
      clear hef
      have v_p0 : wo.cell? ⟨W.heap.size, 0, none⟩ = some (.int .i64 k) := T10.out.1.1.2.1
      have v_p1 : wo.cell? ⟨W.heap.size, 1, none⟩ = some (.int .i64 r) := T10.out.1.1.2.2.1
      have v_p2 : wo.cell? ⟨W.heap.size, 2, none⟩ = some (.slice a n c) := T10.out.1.1.2.2.2
      go_wp2_with fail
      refine (rimage_ok k r a n c l a' nw c' (itR k r l i wl) wo T10.out.1.1.1.1.2 (T10.out.2).rk HRU.out (itR_ring HRU.out HRG.out i)).mono ?_; rintro e w6 ⟨a3, c3, rfl, ho3, hbw6⟩
      clear v_p0 v_p1 v_p2
      have T11 := T10.up hbw6
      clear T10
      go_wp2
      go_roundw
      case rel => exact ⟨i + 1, a3, c3, by omega, by go_num, rfl, ho3.base hwo, T11.out.1.2⟩
      case measure => simp [intOf]; omega
    · skip
      obtain rfl : t = i := by omega
      have i2 : ¬ (t : Int) < (t : Int) := by omega
      go_wp2
      go_ret2
      exact ⟨_, _, rfl, T10.out.2, T10.out.1.1.1.1.1.2⟩
theorem after1_any (W' : World) (a' : Option Addr) (n' c' : Nat) : Calls Tryd.prog 27 (#[.slice a' n' c'] ++ #[]) W' fun e w' => e = .returned (.tuple #[]) ∧ W' = w' := by
  show Calls Tryd.prog _ #[.slice a' n' c'] W' _
  go_enter Tryd.func27, Tryd.ntmps27
  go_wp2
  go_end0
  exact ⟨rfl, rfl⟩
set_option maxHeartbeats 8000000 in
theorem rafter_ok (k r t : Nat) (a : Option Addr) (n c : Nat) (l : List Int) (aw : Option Addr) (nw cw : Nat) (wl : List Int) (W : World) (hR : RK .i64 W a n l) (hW : SlI W aw nw cw wl) (h : IsRule k r l) (hw : IsRing k wl) (ht : t * nw ≤ 262144) :
    Calls Tryd.prog 7 #[ruleV k r a n c, .slice aw nw cw, .int .i64 t] W fun e w' => ∃ a' c', e = .returned (.tuple #[.slice a' nw c', .nilIface]) ∧ OwI w' W.heap.size a' nw c' (itR k r l t wl) ∧ Below W.heap.size W w' := by
  obtain ⟨Wb, hWb⟩ : ∃ Wb, W.alloc (.cells #[.int .i64 k, .int .i64 r, .slice a n c] 24) = Wb := ⟨_, rfl⟩
  have HBX : Hid (Below W.heap.size W Wb) := by rw [← hWb]; exact balloc (bnil W) _
  have HWB := Lib.hid hWb; clear hWb
  go_enter Tryd.func7, Tryd.ntmps7
  go_wp2_with fail
  rw [HWB.out]
  refine (rwalkA_ok k r t a n c l aw nw cw wl 27 #[] _ (hR.up HBX.out) (hW.up HBX.out) h hw ht (enters_of Tryd.func27 (by kernel_rfl) rfl) (fun W' a' c' => after1_any W' a' nw c')).mono ?_; rintro e w1 ⟨a2, c2, rfl, ho2, hb2⟩
  go_wp2
  go_ret2
  exact ⟨_, _, rfl, ho2.base HBX.out.size, bstep HBX.out hb2⟩
end Go.Proofs.YtnmegpplfbkpcaaDoor
