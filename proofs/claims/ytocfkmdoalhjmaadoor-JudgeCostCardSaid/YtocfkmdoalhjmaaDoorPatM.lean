/- The contract of patch.Columns, for any patch. -/
import Derived.Test.YtocfkmdoalhjmaaDoorTrkP
import Derived.Test.YtocfkmdoalhjmaaDoorPatC
import Derived.Test.YtocfkmdoalhjmaaDoorColP
import Derived.Test.YtocfkmdoalhjmaaDoorBitI
namespace Go.Proofs.YtocfkmdoalhjmaaDoor
open Go.RowKit
set_option linter.unusedVariables false
set_option maxRecDepth 100000

def colD (w h : Int) (l : List Int) : ErrD :=
  match patchErr w h l with
  | some e => some ([(opPatch, e.1)], e.2)
  | none => if 16 < h then some ([(opPatch, 2)], 4) else none
def colO (w h : Int) (l : List Int) : List Int := if colD w h l = none then colL w.toNat h.toNat l else []
/-- a list and an error -/
def IntsErr (R : Nat → Addr) (W : World) (o : List Int) (x : ErrD) (e : Ending) (w' : World) : Prop := ∃ a n c ev, e = .returned (.tuple #[.slice a n c, ev]) ∧ OwI w' W.heap.size a n c o ∧ EC R w' ev x ∧ Below W.heap.size W w'
theorem map_set_i {l : List Int} {j : Nat} {v : Int} : (l.map (Value.int .i64)).set j (.int .i64 v) = (l.set j v).map (Value.int .i64) := (List.map_set).symm

set_option maxHeartbeats 8000000 in
theorem columns_any (w h : Int) (a : Option Addr) (n c : Nat) (l : List Int) (W : World) (R : Nat → Addr) (hS : Sent W R) (hR : RK .i64 W a n l) (hm : n ≤ maxLen) (hx : I64 l) :
    Calls Tryd.prog 51 #[patV w h a n c] W (IntsErr R W (colO w h l) (colD w h l)) := by
  have T0 := Tk.nil W
  have T1 := T0.add (fun wv => Below W.heap.size W wv) (bnil W)
  clear T0
  have T2 := T1.add (fun wv => Sent wv R) (hS)
  clear T1
  have T3 := T2.add (fun wv => RK .i64 wv a n l) (hR)
  clear T2
  have HI6 := Lib.hid hx
  have hmx : n ≤ 9223372036854775807 := hm
  clear hS hR hx
  obtain ⟨Wb, hWb⟩ : ∃ Wb, W.alloc (.cells #[.int .i64 w, .int .i64 h, .slice a n c] 24) = Wb := ⟨_, rfl⟩
  have hbWb : Below W.heap.size W Wb := by rw [← hWb]; exact balloc (bnil W) _
  have T4 := T3.up hbWb
  clear T3
  have T5 := T4.add (fun wv => wv.cell? ⟨W.heap.size, 0, none⟩ = some (.int .i64 w) ∧ wv.cell? ⟨W.heap.size, 1, none⟩ = some (.int .i64 h) ∧ wv.cell? ⟨W.heap.size, 2, none⟩ = some (.slice a n c)) (by rw [← hWb]; exact ⟨cnw (by simp) rfl, cnw (by simp) rfl, cnw (by simp) rfl⟩)
  clear T4
  have HWb := Lib.hid hWb
  clear hWb hbWb
  cases he : patchErr w h l with
  | some y0 =>
    have hd : colD w h l = some ([(opPatch, y0.1)], y0.2) := by unfold colD; rw [he]
    have ho : colO w h l = [] := by unfold colO; rw [hd]; rfl
    rw [hd, ho]
    have HE := Lib.hid he
    clear he hd ho
    go_enter Tryd.func51, Tryd.ntmps51
    have v_p0 : (W.alloc (.cells #[.int .i64 w, .int .i64 h, .slice a n c] 24)).cell? ⟨W.heap.size, 0, none⟩ = some (.int .i64 w) := by rw [HWb.out]; exact T5.out.2.1
    have v_p1 : (W.alloc (.cells #[.int .i64 w, .int .i64 h, .slice a n c] 24)).cell? ⟨W.heap.size, 1, none⟩ = some (.int .i64 h) := by rw [HWb.out]; exact T5.out.2.2.1
    have v_p2 : (W.alloc (.cells #[.int .i64 w, .int .i64 h, .slice a n c] 24)).cell? ⟨W.heap.size, 2, none⟩ = some (.slice a n c) := by rw [HWb.out]; exact T5.out.2.2.2
    go_wp2_with fail
    rw [HWb.out]
    refine (pcheck_er w h a n c l Wb R T5.out.1.1.2 T5.out.1.2 hm HI6.out y0 HE.out).mono ?_; rintro e w1 ⟨g, rfl, he1, hbw1⟩
    clear v_p0 v_p1 v_p2
    have T6 := T5.up hbw1
    clear T5
    have HEC := Lib.hid he1
    clear he1
    go_wp2
    go_ret2
    exact ⟨none, 0, 0, _, rfl, OwI.nil _ _, HEC.out, T6.out.1.1.1.2⟩
  | none =>
    obtain ⟨w, h, rfl, rfl, hp⟩ := patchErr_none he
    have hw1 := hp.w1
    have hw2 := hp.w2
    have hh1 := hp.h1
    have hh2 := hp.h2
    have HPP := Lib.hid hp
    by_cases h16 : 16 < h
    · skip
      have hd : colD (w : Int) (h : Int) l = some ([(opPatch, 2)], 4) := by unfold colD; rw [he]; exact if_pos (by omega)
      have ho : colO (w : Int) (h : Int) l = [] := by unfold colO; rw [hd]; rfl
      rw [hd, ho]
      have hI : (16 : Int) < (h : Int) := by omega
      clear he hd ho hp
      go_enter Tryd.func51, Tryd.ntmps51
      have v_p0 : (W.alloc (.cells #[.int .i64 w, .int .i64 h, .slice a n c] 24)).cell? ⟨W.heap.size, 0, none⟩ = some (.int .i64 w) := by rw [HWb.out]; exact T5.out.2.1
      have v_p1 : (W.alloc (.cells #[.int .i64 w, .int .i64 h, .slice a n c] 24)).cell? ⟨W.heap.size, 1, none⟩ = some (.int .i64 h) := by rw [HWb.out]; exact T5.out.2.2.1
      have v_p2 : (W.alloc (.cells #[.int .i64 w, .int .i64 h, .slice a n c] 24)).cell? ⟨W.heap.size, 2, none⟩ = some (.slice a n c) := by rw [HWb.out]; exact T5.out.2.2.2
      go_wp2_with fail
      rw [HWb.out]
      refine (pcheck_ok w h a n c l Wb R T5.out.1.1.2 T5.out.1.2 hm HI6.out HPP.out).mono ?_; rintro e w1 ⟨rfl, hbw1⟩
      clear v_p0 v_p1 v_p2
      have T6 := T5.up hbw1
      clear T5
      have v_p1 : w1.cell? ⟨W.heap.size, 1, none⟩ = some (.int .i64 h) := T6.out.2.2.1
      go_wp2_with fail
      refine (patch_wrong _ _ _ R (T6.out.1.1.2).glob rfl).mono ?_; rintro e w2 ⟨rfl, rfl⟩
      clear v_p1
      have HEC := Lib.hid (ec_err ((T6.out.1.1.2).up (balloc (bnil w1) (faultObj opPatch 2 (.iface 199 (.pointer (some (R (rix 4)))))))) (isErr_new (Nat.le_refl _)))
      go_wp2
      go_ret2
      exact ⟨none, 0, 0, _, rfl, OwI.nil _ _, HEC.out, balloc (T6.out.1.1.1.2) _⟩
    · skip
      have hd : colD (w : Int) (h : Int) l = none := by unfold colD; rw [he]; exact if_neg (by omega)
      have ho : colO (w : Int) (h : Int) l = colL w h l := by unfold colO; rw [hd]; rfl
      rw [hd, ho]
      have hI : (h : Int) ≤ 16 := by omega
      have hnl := (T5.out.1.2).len
      rw [hp.len] at hnl
      have HNL := Lib.hid hnl
      have hn4 : n ≤ 4096 := by rw [hnl]; exact Nat.mul_le_mul hw2 hh2
      have hall : parL w l n = colL w h l := by rw [hnl]; exact parL_all (by omega)
      have HALL := Lib.hid hall
      clear he hd ho hp hnl hall
      go_enter Tryd.func51, Tryd.ntmps51
      have v_p0 : (W.alloc (.cells #[.int .i64 w, .int .i64 h, .slice a n c] 24)).cell? ⟨W.heap.size, 0, none⟩ = some (.int .i64 w) := by rw [HWb.out]; exact T5.out.2.1
      have v_p1 : (W.alloc (.cells #[.int .i64 w, .int .i64 h, .slice a n c] 24)).cell? ⟨W.heap.size, 1, none⟩ = some (.int .i64 h) := by rw [HWb.out]; exact T5.out.2.2.1
      have v_p2 : (W.alloc (.cells #[.int .i64 w, .int .i64 h, .slice a n c] 24)).cell? ⟨W.heap.size, 2, none⟩ = some (.slice a n c) := by rw [HWb.out]; exact T5.out.2.2.2
      go_wp2_with fail
      rw [HWb.out]
      refine (pcheck_ok w h a n c l Wb R T5.out.1.1.2 T5.out.1.2 hm HI6.out HPP.out).mono ?_; rintro e w1 ⟨rfl, hbw1⟩
      clear v_p0 v_p1 v_p2
      have T6 := T5.up hbw1
      clear T5
      have HLE : Hid (W.heap.size ≤ w1.heap.size) := (T6.out.1.1.1.2).size
      have v_p0 : w1.cell? ⟨W.heap.size, 0, none⟩ = some (.int .i64 w) := T6.out.2.1
      have v_p1 : w1.cell? ⟨W.heap.size, 1, none⟩ = some (.int .i64 h) := T6.out.2.2.1
      have v_p2 : w1.cell? ⟨W.heap.size, 2, none⟩ = some (.slice a n c) := T6.out.2.2.2
      go_wp2_with (first
        | (at_make; refine mk_full rfl _ _ _ rfl w1.heap.size et_int .i64 .i64 _ _ w rfl rfl rfl rfl (by omega) (by unfold maxLen; omega) (Nat.le_refl _) ?_; intro w2 hown hb2 hsz2; rw [made_i64p] at hown; have q2 := cpa hb2 v_p2))
      obtain ⟨g, hg⟩ : ∃ g, w1.heap.size = g := ⟨_, rfl⟩
      rw [hg] at hown
      rw [hg]
      rw [← parL_zero w l] at hown
      have HO2 := Lib.hid hown
      have HG := Lib.hid hg
      have HB2 := Lib.hid hb2
      clear hown hg hb2 q2
      clear v_p0 v_p1 v_p2
      go_loopw [23] (fun ix wr => ∃ i : Nat, i ≤ n ∧ ix = .int .i64 i ∧ wr.ownsRow g 3 1 (.slice (some ⟨g, 0, none⟩) w w) w ((parL w l i).map (Value.int .i64)) ∧ Below w1.heap.size w1 wr) (fun ix _ => n - (intOf ix).toNat)
      case atStart => exact ⟨0, by omega, rfl, HO2.out, HB2.out⟩
      case round =>
        obtain ⟨i, hi, rfl, ho, hbr⟩ := hrel
        have HO := Lib.hid ho
        have HBR := Lib.hid hbr
        clear ho
        have T7 := T6.up hbr
        clear T6
        clear hbr
        by_cases hin : i < n
        · skip
          obtain ⟨ab, ao, hab0, hab, hcell⟩ := (T7.out.1.2).addr (by omega)
          subst hab0
          obtain ⟨X, hX⟩ : ∃ X, i % w = X := ⟨_, rfl⟩
          obtain ⟨Y, hY⟩ : ∃ Y, i / w = Y := ⟨_, rfl⟩
          have hXw : X < w := by rw [← hX]; exact Nat.mod_lt _ (by omega)
          have hYh : Y < h := by rw [← hY]; exact div_lt_of (by omega) (by rw [← HNL.out]; exact hin)
          have z0 := hcell i hin
          have hat : l.getD i 0 = (cellN w l X Y : Int) := by rw [(cellN_le HPP.out hXw hYh).2, atL, ← hX, ← hY, Nat.mul_comm, Nat.div_add_mod]
          rw [hat] at z0
          have hu1 := (cellN_le HPP.out hXw hYh).1
          have hcv := colV_lt HPP.out hXw Y (by omega)
          have hset := parL_set (w := w) (l := l) (i := i) (by omega)
          have hget := parL_getD (w := w) (l := l) (i := i) (by omega)
          rw [hX, hY] at hset hget
          have hget1 : wr.cell? ⟨g, X, none⟩ = some (.int .i64 (colV w l X Y : Int)) := by
            rw [HO.out.cellAt X (by omega), List.getElem?_map, hget]
            rfl
          have f0 := HO.out.frozenAt X
          generalize hU : cellN w l X Y = U at z0 hu1 hset hat
          generalize hV : colV w l X Y = V at hcv hset hget1
          have hpow : 2 ^ Y ≤ 65536 := by
            have := Nat.pow_le_pow_right (n := 2) (by omega) (show Y ≤ 16 by omega)
            omega
          obtain ⟨Sh, hSh⟩ : ∃ Sh, U * 2 ^ Y = Sh := ⟨_, rfl⟩
          have hSh2 : Sh ≤ 65536 := by
            rw [← hSh]
            have := Nat.mul_le_mul_right (2 ^ Y) hu1
            omega
          have hor : bits .or .i64 (V : Int) (Sh : Int) = ((V + Sh : Nat) : Int) := by
            rw [or_i64 (by omega) (by omega), ← hSh, or_at hcv]
          have hShI : (U : Int) * 2 ^ Y = (Sh : Int) := by rw [← hSh, Int.natCast_mul, Int.natCast_pow]; rfl
          have hShw : IntKind.i64.wrap (Sh : Int) = (Sh : Int) := IntWalk.i64_in _ (by omega)
          rw [hSh] at hset
          generalize V + Sh = Z at hset hor
          have HST := Lib.hid hset
          have i0 : (0 : Int) ≤ (i : Int) := by omega
          have i1 : (i : Int) < (n : Int) := by omega
          have tm : (i : Int).tmod (w : Int) = (X : Int) := by rw [Int.tmod_eq_emod_of_nonneg i0, ← Int.natCast_emod, hX]
          have te : (i : Int) % (w : Int) = (X : Int) := by rw [← Int.natCast_emod, hX]
          have qd : (i : Int).tdiv (w : Int) = (Y : Int) := by rw [Int.tdiv_eq_ediv_of_nonneg i0, ← Int.natCast_ediv, hY]
          have qw : IntKind.i64.wrap ((i : Int).tdiv (w : Int)) = (Y : Int) := by rw [qd]; exact IntWalk.i64_in _ (by omega)
          have qe : (i : Int) / (w : Int) = (Y : Int) := by rw [← Int.natCast_ediv, hY]
          have yw : IntKind.i64.wrap (Y : Int) = (Y : Int) := IntWalk.i64_in _ (by omega)
          have xw : IntKind.i64.wrap (X : Int) = (X : Int) := IntWalk.i64_in _ (by omega)
          have y0 : (0 : Int) ≤ (Y : Int) := by omega
          have y64 : (Y : Int) ≤ 64 := by omega
          have x1 : (X : Int) < (w : Int) := by omega
          have x0 : (0 : Int) ≤ (X : Int) := by omega
          have wz : ((w : Int) == 0) = false := by rw [beq_eq_false_iff_ne]; omega
          have wn : ¬ w = 0 := by omega
          clear hcell hat hset hget hX hY hU hV hSh hcv
          have v_p0 : wr.cell? ⟨W.heap.size, 0, none⟩ = some (.int .i64 w) := T7.out.2.1
          have v_p2 : wr.cell? ⟨W.heap.size, 2, none⟩ = some (.slice (some ⟨ab, ao, none⟩) n c) := T7.out.2.2.2
          have ho6 := own_set HO.out X (.int .i64 (Z : Int))
          rw [map_set_i, HST.out] at ho6
          have hb6 := HBR.out.setCell (p := ⟨g, X, none⟩) (by rw [HG.out]; exact Nat.le_refl _) (.int .i64 (Z : Int))
          have HO6 := Lib.hid (owns_up ho6 (Below.drew (bnil _)))
          have HB6 := Lib.hid (Below.drew hb6)
          clear ho6 hb6
          go_wp2_with fail
          go_region
          clear v_p0 v_p2
          go_wp2
          go_roundw
          case rel => exact ⟨i + 1, by omega, by go_num, HO6.out, HB6.out⟩
          case measure => simp [intOf]; omega
        · skip
          obtain rfl : n = i := by omega
          have ho := HO.out
          rw [HALL.out] at ho
          have HO3 := Lib.hid ho
          clear ho HO
          have v_p2 : wr.cell? ⟨W.heap.size, 2, none⟩ = some (.slice a n c) := T7.out.2.2.2
          go_wp2
          go_ret2
          exact ⟨_, _, _, _, rfl, OwI.base ⟨HO3.out⟩ (by have := HLE.out; have := HG.out; omega), rfl, T7.out.1.1.1.2⟩
end Go.Proofs.YtocfkmdoalhjmaaDoor
