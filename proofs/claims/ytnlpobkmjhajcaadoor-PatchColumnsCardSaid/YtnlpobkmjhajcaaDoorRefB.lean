/- The contract of edenref21.Text, for any patch. The contract of edenref21.Columns, for any patch. The contract of edenref21.Turn, for any patch. Contracts of patch.Text, Turn, Cut for all arguments: the value and the error as functions of the arguments. -/
import Derived.Test.YtnlpobkmjhajcaaDoorRefA
import Derived.Test.YtnlpobkmjhajcaaDoorPatF
import Derived.Test.YtnlpobkmjhajcaaDoorPatM
import Derived.Test.YtnlpobkmjhajcaaDoorPatO
import Derived.BigRegion
import Derived.Test.YtnlpobkmjhajcaaDoorRefPG
import Derived.Test.YtnlpobkmjhajcaaDoorPatI
namespace Go.Proofs.YtnlpobkmjhajcaaDoor
open Go.RowKit
set_option linter.unusedVariables false
set_option maxRecDepth 100000

/-- the result's error is set -/
theorem er_set {W w8 : World} {B : Nat} {N : Int} {a1 a2 : Option Addr} {n1 c1 n2 c2 : Nat} {x : ErrD} {x0 x1 x2 : Value} (hB : W.heap.size ≤ B) (hz : w8.heap[B]? = some (.cells #[x0, x1, x2] 47)) (hb : Below W.heap.size W w8) (f1 : Fr (B + 1) a1) (f2 : Fr (B + 1) a2)
    (hw : WC w8 (.agg #[.int .i64 N, .slice a1 n1 c1, .slice a2 n2 c2]) x) :
    ∃ w9, (((w8.setCell ⟨B, 0, none⟩ (.int .i64 N)).setCell ⟨B, 1, none⟩ (.slice a1 n1 c1)).setCell ⟨B, 2, none⟩ (.slice a2 n2 c2)) = w9 ∧
      (w9.cell? ⟨B, 0, none⟩ = some (.int .i64 N) ∧ w9.cell? ⟨B, 1, none⟩ = some (.slice a1 n1 c1) ∧ w9.cell? ⟨B, 2, none⟩ = some (.slice a2 n2 c2)) ∧
      (∀ k, k ≠ B → w9.heap[k]? = w8.heap[k]?) ∧ w9.heap.size = w8.heap.size ∧ WC w9 (.agg #[.int .i64 N, .slice a1 n1 c1, .slice a2 n2 c2]) x ∧ Below W.heap.size W w9 := by
  obtain ⟨w9, e9, hc, hk, hs, hbl⟩ := set3p hz (.int .i64 N) (.slice a1 n1 c1) (.slice a2 n2 c2)
  exact ⟨w9, e9, hc, hk, hs, hw.other hk hs f1 f2, hbl W W.heap.size hB hb⟩
/-- a text and an error as the document has them -/
def StrRef (W : World) (s : List UInt8) (x : ErrD) (e : Ending) (w' : World) : Prop := ∃ N b1 m1 d1 b2 m2 d2, e = .returned (.tuple #[.string ⟨s.toArray⟩, .agg #[.int .i64 N, .slice b1 m1 d1, .slice b2 m2 d2]]) ∧ WC w' (.agg #[.int .i64 N, .slice b1 m1 d1, .slice b2 m2 d2]) x ∧ (N != 0) = x.isSome ∧ Below W.heap.size W w'
def textO (w h : Int) (l : List Int) : List UInt8 := if patchD w h l = none then textP w.toNat h.toNat l else []
/-- bytes of the call's own -/
structure OwB (w : World) (base : Nat) (a : Option Addr) (n c : Nat) (l : List UInt8) : Prop where
  own : w.ownsRow base 5 1 (.slice a n c) n (Lib.byteCells l)
theorem OwB.up {w w' : World} {base : Nat} {a : Option Addr} {n c : Nat} {l : List UInt8} (h : OwB w base a n c l) (hb : Below w.heap.size w w') : OwB w' base a n c l := ⟨owns_up h.own hb⟩
theorem OwB.rd {w : World} {base : Nat} {a : Option Addr} {n c : Nat} {l : List UInt8} (h : OwB w base a n c l) : Rd w a n 1 (Lib.byteCells l) := (owns_rd h.own).2
theorem OwB.len {w : World} {base : Nat} {a : Option Addr} {n c : Nat} {l : List UInt8} (h : OwB w base a n c l) : n = l.length := by
  have := h.own.1
  simpa [Lib.byteCells] using this.symm
theorem OwB.nil (w : World) (base : Nat) : OwB w base none 0 0 [] := ⟨World.ownsRow_nil _ _ _ _⟩
theorem OwB.app {w : World} {base : Nat} {a : Option Addr} {n c : Nat} {L : List UInt8} {v : Int} (b : UInt8) (hv : v = (b.toNat : Int)) (h : w.ownsRow base 5 1 (.slice a (n + 1) c) (n + 1) (Lib.byteCells L ++ (#[Value.int .u8 v] : Array Value).toList)) : OwB w base a (n + 1) c (L ++ [b]) := by
  refine ⟨?_⟩
  rw [show Lib.byteCells (L ++ [b]) = Lib.byteCells L ++ (#[Value.int .u8 v] : Array Value).toList by simp [Lib.byteCells, hv]]
  exact h
theorem conv_bytes {P : Program} {w : World} {src dst e : TypeId} (hs : P.underlying src = some (.slice e)) (he : P.underlying e = some (.int .u8)) (hd : P.underlying dst = some .string)
    {a : Option Addr} {n c : Nat} {l : List UInt8} (hR : Rd w a n 1 (Lib.byteCells l)) : (convert src dst (.slice a n c)).run P w = .ok (.string ⟨l.toArray⟩) w := by
  have h1 : Lib.byteCells l = (l.map fun b => (b.toNat : Int)).map (Value.int .u8) := by simp [Lib.byteCells]
  rw [h1] at hR
  rw [conv_str (c := c) hs he hd hR]
  unfold strOfNums
  congr 4
  rw [List.map_map]
  exact (List.map_congr_left (fun b _ => by simp)).trans (List.map_id' _)
/-- the text ahead of a cell, as the document writes it -/
def refT (w : Nat) (l : List Int) (y x : Nat) : List UInt8 := if x = 0 then (if y = 0 then [] else textS w l (y * w) ++ [47]) else textS w l (y * w + x)
theorem refT_next {w y x : Nat} {l : List Int} (hx : x < w) : refT w l y x ++ [txB l (y * w + x)] = refT w l y (x + 1) := by
  unfold refT
  rw [if_neg (show ¬ x + 1 = 0 by omega), ← Nat.add_assoc]
  have e : textS w l (y * w + x + 1) = textS w l (y * w + x) ++ (if 0 < y * w + x ∧ (y * w + x) % w = 0 then [47] else []) ++ [txB l (y * w + x)] := rfl
  rw [e]
  by_cases h0 : x = 0
  · subst h0
    rw [if_pos rfl]
    by_cases h1 : y = 0
    · subst h1
      simp [textS]
    · have : 0 < y * w := Nat.mul_pos (by omega) (by omega)
      rw [if_neg h1, if_pos ⟨by omega, by simp⟩, Nat.add_zero]
  · rw [if_neg h0, if_neg (fun h => by
      have h2 := h.2
      rw [Nat.mul_comm, Nat.mul_add_mod, Nat.mod_eq_of_lt hx] at h2
      exact h0 h2), List.append_nil]
theorem refT_end {w y : Nat} {l : List Int} (hw : 1 ≤ w) : refT w l y w = textS w l ((y + 1) * w) := by
  unfold refT
  rw [if_neg (by omega), Nat.add_mul, Nat.one_mul]
theorem refT_len {w y x : Nat} {l : List Int} : (refT w l y x).length ≤ 2 * (y * w + x) + 1 := by
  unfold refT
  have h1 := textS_len w l (y * w)
  have h2 := textS_len w l (y * w + x)
  split
  · split <;> simp <;> omega
  · omega
theorem refT_zero {w : Nat} {l : List Int} : textS w l (0 * w) = refT w l 0 0 := by simp [refT, textS]
theorem refT_sep {w y : Nat} {l : List Int} (hy : 0 < y) : textS w l (y * w) ++ [47] = refT w l y 0 := by
  unfold refT
  rw [if_pos rfl, if_neg (by omega)]

set_option maxHeartbeats 16000000 in
theorem reftext_any (w h : Int) (a : Option Addr) (n c : Nat) (l : List Int) (W : World) (hR : RK .i64 W a n l) (hm : n ≤ maxLen) :
    Calls Tryd.prog 23 #[patV w h a n c] W (StrRef W (textO w h l) (patchD w h l)) := by
  have T0 := Tk.nil W
  have T1 := T0.add (fun wv => Below W.heap.size W wv) (bnil W)
  clear T0
  have T2 := T1.add (fun wv => RK .i64 wv a n l) (hR)
  clear T1
  obtain ⟨Wb, hWb⟩ : ∃ Wb, (W.alloc (.cells #[.int .i64 w, .int .i64 h, .slice a n c] 24)).alloc (.cells #[.int .i64 0, .slice none 0 0, .slice none 0 0] 47) = Wb := ⟨_, rfl⟩
  have hbWb : Below W.heap.size W Wb := by rw [← hWb]; exact balloc (balloc (bnil W) _) _
  have T3 := T2.up hbWb
  clear T2
  have T4 := T3.add (fun wv => wv.cell? ⟨W.heap.size, 0, none⟩ = some (.int .i64 w) ∧ wv.cell? ⟨W.heap.size, 1, none⟩ = some (.int .i64 h) ∧ wv.cell? ⟨W.heap.size, 2, none⟩ = some (.slice a n c)) (by rw [← hWb]; exact ⟨al000 (cnw (by simp) rfl), al000 (cnw (by simp) rfl), al000 (cnw (by simp) rfl)⟩)
  clear T3
  have HWb := Lib.hid hWb
  clear hWb hbWb
  have hz2 : Wb.heap[W.heap.size + 1]? = some (.cells #[.int .i64 0, .slice none 0 0, .slice none 0 0] 47) := by
    rw [← HWb.out]
    have := heap_alloc_new (W.alloc (.cells #[.int .i64 w, .int .i64 h, .slice a n c] 24)) (.cells #[.int .i64 0, .slice none 0 0, .slice none 0 0] 47)
    simpa using this
  have hsz : W.heap.size + 1 + 1 = Wb.heap.size := by rw [← HWb.out]; simp
  have T5 := T4.add (fun wv => wv.heap[W.heap.size + 1]? = some (.cells #[.int .i64 0, .slice none 0 0, .slice none 0 0] 47)) (hz2)
  clear T4
  have HSZ := Lib.hid hsz
  clear hz2 hsz
  clear hR
  have hmx : n ≤ 9223372036854775807 := hm
  by_cases hpe : patchErr w h l ≠ none
  · skip
    have hd : patchD w h l = patchD w h l := rfl
    have ho : textO w h l = [] := by
      unfold textO patchD
      cases he : patchErr w h l with
      | none => exact absurd he hpe
      | some e => rfl
    have hpd : patchD w h l ≠ none := by
      unfold patchD
      cases he : patchErr w h l with
      | none => exact absurd he hpe
      | some e => exact nofun
    have HOD := Lib.hid ho
    have HPD := Lib.hid hpd
    have HPE := Lib.hid hpe
    clear hd ho hpd hpe
    go_enter Tryd.func23, Tryd.ntmps23
    have v_p0 : ((W.alloc (.cells #[.int .i64 w, .int .i64 h, .slice a n c] 24)).alloc (.cells #[.int .i64 0, .slice none 0 0, .slice none 0 0] 47)).cell? ⟨W.heap.size, 0, none⟩ = some (.int .i64 w) := by rw [HWb.out]; exact T5.out.1.2.1
    have v_p1 : ((W.alloc (.cells #[.int .i64 w, .int .i64 h, .slice a n c] 24)).alloc (.cells #[.int .i64 0, .slice none 0 0, .slice none 0 0] 47)).cell? ⟨W.heap.size, 1, none⟩ = some (.int .i64 h) := by rw [HWb.out]; exact T5.out.1.2.2.1
    have v_p2 : ((W.alloc (.cells #[.int .i64 w, .int .i64 h, .slice a n c] 24)).alloc (.cells #[.int .i64 0, .slice none 0 0, .slice none 0 0] 47)).cell? ⟨W.heap.size, 2, none⟩ = some (.slice a n c) := by rw [HWb.out]; exact T5.out.1.2.2.2
    go_wp2_with fail
    rw [HWb.out]
    refine (refpcheck_er w h a n c l Wb T5.out.1.1.2 hm HPE.out).mono ?_; rintro e w1 ⟨N, a1, n1, c1, a2, n2, c2, rfl, hw, f1, f2, hN, hbw1⟩
    clear v_p0 v_p1 v_p2
    have T6 := T5.up hbw1
    clear T5
    have T7 := T6.add (fun wv => WC wv (.agg #[.int .i64 N, .slice a1 n1 c1, .slice a2 n2 c2]) (patchD w h l)) (hw)
    clear T6
    have HN := Lib.hid hN
    have HF := Lib.hid (And.intro f1 f2)
    clear hw f1 f2 hN
    obtain ⟨we, hwe⟩ : ∃ we, w1.alloc (.cells #[.int .i64 N, .slice a1 n1 c1, .slice a2 n2 c2] 47) = we := ⟨_, rfl⟩
    have hbwe : Below w1.heap.size w1 we := by rw [← hwe]; exact balloc (bnil w1) _
    have T8 := T7.up hbwe
    clear T7
    have T9 := T8.add (fun wv => wv.cell? ⟨w1.heap.size, 0, none⟩ = some (.int .i64 N) ∧ wv.cell? ⟨w1.heap.size, 1, none⟩ = some (.slice a1 n1 c1) ∧ wv.cell? ⟨w1.heap.size, 2, none⟩ = some (.slice a2 n2 c2)) (by rw [← hwe]; exact ⟨cnw (by simp) rfl, cnw (by simp) rfl, cnw (by simp) rfl⟩)
    clear T8
    have Hwe := Lib.hid hwe
    clear hwe hbwe
    have v_e0 : (w1.alloc (.cells #[.int .i64 N, .slice a1 n1 c1, .slice a2 n2 c2] 47)).cell? ⟨w1.heap.size, 0, none⟩ = some (.int .i64 N) := by rw [Hwe.out]; exact T9.out.2.1
    have v_e1 : (w1.alloc (.cells #[.int .i64 N, .slice a1 n1 c1, .slice a2 n2 c2] 47)).cell? ⟨w1.heap.size, 1, none⟩ = some (.slice a1 n1 c1) := by rw [Hwe.out]; exact T9.out.2.2.1
    have v_e2 : (w1.alloc (.cells #[.int .i64 N, .slice a1 n1 c1, .slice a2 n2 c2] 47)).cell? ⟨w1.heap.size, 2, none⟩ = some (.slice a2 n2 c2) := by rw [Hwe.out]; exact T9.out.2.2.2
    go_wp2_with fail
    rw [Hwe.out]
    refine (refBadE _ _ _ we true HN.out).mono ?_; rintro e w2 ⟨rfl, hbw2⟩
    clear v_e0 v_e1 v_e2
    have T10 := T9.up hbw2
    clear T9
    have hNs : (N != 0) = (patchD w h l).isSome := by rw [HN.out]; cases hq : patchD w h l with | none => exact absurd hq HPD.out | some z => rfl
    have HNS := Lib.hid hNs
    clear hNs
    have v_e0 : w2.cell? ⟨w1.heap.size, 0, none⟩ = some (.int .i64 N) := T10.out.2.1
    have v_e1 : w2.cell? ⟨w1.heap.size, 1, none⟩ = some (.slice a1 n1 c1) := T10.out.2.2.1
    have v_e2 : w2.cell? ⟨w1.heap.size, 2, none⟩ = some (.slice a2 n2 c2) := T10.out.2.2.2
    obtain ⟨⟨q3, q4, q5⟩, f3, f4, f5⟩ := p_cells (T10.out.1.1.2)
    obtain ⟨w9, e9, ⟨r0, r1, r2⟩, hk9, hs9, hw9, hb9⟩ := er_set (show W.heap.size ≤ W.heap.size + 1 by omega) (T10.out.1.1.2) (T10.out.1.1.1.1.1.2) (HF.out.1.base (by have := HSZ.out; omega)) (HF.out.2.base (by have := HSZ.out; omega)) (T10.out.1.2)
    have HRET := Lib.hid (And.intro hw9 hb9)
    clear hk9 hs9 hw9 hb9
    have HE9 := Lib.hid e9
    have HR9 := Lib.hid (And.intro r0 (And.intro r1 r2))
    clear e9 r0 r1 r2
    have sz1 := hbw1.size
    have sz0 := HSZ.out
    have ne1 : ¬ w1.heap.size = W.heap.size + 1 := by omega
    have ne2 : ¬ W.heap.size + 1 = w1.heap.size := by omega
    clear sz0 sz1
    go_wp2_with fail
    go_region
    all_goals
      go_wp2
      rw [HE9.out]
      have r0 := HR9.out.1
      have r1 := HR9.out.2.1
      have r2 := HR9.out.2.2
      refine bodyPost_ret (v := .tuple #[.string ⟨#[]⟩, .agg #[.int .i64 N, .slice a1 n1 c1, .slice a2 n2 c2]]) (by simp [results, Tryd.results23, go_sem, r0, r1, r2]) rfl ?_
      rw [HOD.out]
      exact ⟨N, a1, n1, c1, a2, n2, c2, rfl, HRET.out.1.up (Below.drew (bnil _)), HNS.out, Below.drew HRET.out.2⟩
  have he : patchErr w h l = none := Decidable.byContradiction hpe
  have hd : patchD w h l = none := by unfold patchD; rw [he]; rfl
  obtain ⟨w, h, rfl, rfl, hp⟩ := patchErr_none he
  have ho : textO (w : Int) (h : Int) l = textP w h l := by unfold textO; rw [if_pos hd]; simp only [Int.toNat_natCast]
  have HOD := Lib.hid (And.intro ho hd)
  have HPP := Lib.hid hp
  have hw1 := hp.w1
  have hw2 := hp.w2
  have hh1 := hp.h1
  have hh2 := hp.h2
  have hwh : h * w ≤ 4096 := Nat.mul_le_mul hh2 hw2
  have HWH := Lib.hid hwh
  clear hpe he hd ho hp hwh
  go_enter Tryd.func23, Tryd.ntmps23
  have v_p0 : ((W.alloc (.cells #[.int .i64 w, .int .i64 h, .slice a n c] 24)).alloc (.cells #[.int .i64 0, .slice none 0 0, .slice none 0 0] 47)).cell? ⟨W.heap.size, 0, none⟩ = some (.int .i64 w) := by rw [HWb.out]; exact T5.out.1.2.1
  have v_p1 : ((W.alloc (.cells #[.int .i64 w, .int .i64 h, .slice a n c] 24)).alloc (.cells #[.int .i64 0, .slice none 0 0, .slice none 0 0] 47)).cell? ⟨W.heap.size, 1, none⟩ = some (.int .i64 h) := by rw [HWb.out]; exact T5.out.1.2.2.1
  have v_p2 : ((W.alloc (.cells #[.int .i64 w, .int .i64 h, .slice a n c] 24)).alloc (.cells #[.int .i64 0, .slice none 0 0, .slice none 0 0] 47)).cell? ⟨W.heap.size, 2, none⟩ = some (.slice a n c) := by rw [HWb.out]; exact T5.out.1.2.2.2
  go_wp2_with fail
  rw [HWb.out]
  refine (refpcheck_ok w h a n c l Wb T5.out.1.1.2 hm HPP.out).mono ?_; rintro e w1 ⟨rfl, hbw1⟩
  clear v_p0 v_p1 v_p2
  have T6 := T5.up hbw1
  clear T5
  obtain ⟨we, hwe⟩ : ∃ we, w1.alloc (.cells #[.int .i64 0, .slice none 0 0, .slice none 0 0] 47) = we := ⟨_, rfl⟩
  have hbwe : Below w1.heap.size w1 we := by rw [← hwe]; exact balloc (bnil w1) _
  have T7 := T6.up hbwe
  clear T6
  have T8 := T7.add (fun wv => wv.cell? ⟨w1.heap.size, 0, none⟩ = some (.int .i64 0) ∧ wv.cell? ⟨w1.heap.size, 1, none⟩ = some (.slice none 0 0) ∧ wv.cell? ⟨w1.heap.size, 2, none⟩ = some (.slice none 0 0)) (by rw [← hwe]; exact ⟨cnw (by simp) rfl, cnw (by simp) rfl, cnw (by simp) rfl⟩)
  clear T7
  have Hwe := Lib.hid hwe
  clear hwe hbwe
  have v_e0 : (w1.alloc (.cells #[.int .i64 0, .slice none 0 0, .slice none 0 0] 47)).cell? ⟨w1.heap.size, 0, none⟩ = some (.int .i64 0) := by rw [Hwe.out]; exact T8.out.2.1
  have v_e1 : (w1.alloc (.cells #[.int .i64 0, .slice none 0 0, .slice none 0 0] 47)).cell? ⟨w1.heap.size, 1, none⟩ = some (.slice none 0 0) := by rw [Hwe.out]; exact T8.out.2.2.1
  have v_e2 : (w1.alloc (.cells #[.int .i64 0, .slice none 0 0, .slice none 0 0] 47)).cell? ⟨w1.heap.size, 2, none⟩ = some (.slice none 0 0) := by rw [Hwe.out]; exact T8.out.2.2.2
  go_wp2_with fail
  rw [Hwe.out]
  refine (refBadE _ _ _ we false rfl).mono ?_; rintro e w2 ⟨rfl, hbw2⟩
  clear v_e0 v_e1 v_e2
  have T9 := T8.up hbw2
  clear T8
  have v_p0 : w2.cell? ⟨W.heap.size, 0, none⟩ = some (.int .i64 w) := T9.out.1.1.2.1
  have v_p1 : w2.cell? ⟨W.heap.size, 1, none⟩ = some (.int .i64 h) := T9.out.1.1.2.2.1
  have v_p2 : w2.cell? ⟨W.heap.size, 2, none⟩ = some (.slice a n c) := T9.out.1.1.2.2.2
  go_wp2_with fail
  clear v_p0 v_p1 v_p2
  go_loopw [5, 6] (fun bv jx wr => ∃ (r s : Nat) (aa : Option Addr) (nn cc : Nat), r ≤ h ∧ s = 0 ∧ jx = .int .i64 (r : Nat) ∧ bv = .slice aa nn cc ∧ OwB wr w2.heap.size aa nn cc (textS w l (r * w)) ∧ Below w2.heap.size w2 wr) (fun _ jx _ => h - (intOf jx).toNat)
  case atStart => exact ⟨0, 0, none, 0, 0, by omega, by omega, rfl, rfl, by simpa [textS] using OwB.nil _ _, bnil w2⟩
  case round =>
    obtain ⟨r, s0, aa, nn, cc, hr, rfl, rfl, rfl, ho, hb⟩ := hrel
    have hln : nn ≤ 2 * (r * w) := by rw [ho.len]; exact textS_len _ _ _
    have HO := Lib.hid ho
    have HB := Lib.hid hb
    have HLN := Lib.hid hln
    clear ho hb hln
    generalize wr = wo at *
    by_cases hrq : r < h
    · skip
      have j1 : (r : Int) < (h : Int) := by omega
      have hrw : r * w ≤ 4096 := by have h1 := HWH.out; have h2 : r * w ≤ h * w := Nat.mul_le_mul_right _ (Nat.le_of_lt hrq); omega
      have hnn : nn ≤ 8192 := by have := HLN.out; omega
      have hbs : w2.heap.size ≤ wo.heap.size := HB.out.size
      have TT := T9.up HB.out
      have v_p1 : wo.cell? ⟨W.heap.size, 1, none⟩ = some (.int .i64 h) := TT.out.1.1.2.2.1
      clear TT
      by_cases hr0 : r = 0
      · skip
        have r00 : ¬ (0 : Int) < (r : Int) := by omega
        have HO1 : Hid (OwB wo w2.heap.size aa nn cc (refT w l r 0)) := by
          have h := HO.out
          rw [hr0, refT_zero] at h
          rw [hr0]
          exact h
        clear hr0
        go_wp2_with fail
        clear v_p1
        go_loopw [5, 7] (fun bv ix wr => ∃ (r1 s : Nat) (aa : Option Addr) (nn cc : Nat), r1 = r ∧ s ≤ w ∧ ix = .int .i64 (s : Nat) ∧ bv = .slice aa nn cc ∧ OwB wr w2.heap.size aa nn cc (refT w l r1 s) ∧ Below w2.heap.size w2 wr) (fun _ ix _ => w - (intOf ix).toNat)
        case atStart => exact ⟨r, 0, _, _, _, rfl, by omega, rfl, rfl, HO1.out, HB.out⟩
        case round =>
          obtain ⟨r1, s, a3, n3, c3, rfl, hs, rfl, rfl, ho3, hb3⟩ := hrel
          have hln3 : n3 ≤ 2 * (r1 * w + s) + 1 := by rw [ho3.len]; exact refT_len
          have HO3 := Lib.hid ho3
          have HB3 := Lib.hid hb3
          have hbw := hb3
          clear ho3 hb3
          by_cases hsp : s < w
          · skip
            have T10 := T9.up hbw
            clear T9
            have v_p0 : wr.cell? ⟨W.heap.size, 0, none⟩ = some (.int .i64 w) := T10.out.1.1.2.1
            obtain ⟨k, hk⟩ : ∃ k, r1 * w + s = k := ⟨_, rfl⟩
            have hkn : k < n := by have h1 := (T10.out.1.1.1.2).len; have h2 := HPP.out.len; have h3 := place_lt hsp hrq; rw [hk] at h3; omega
            obtain ⟨ab, ao, hab0, hab, hcell⟩ := (T10.out.1.1.1.2).addr (by omega)
            subst hab0
            have z0 := hcell k hkn
            have hsy : l.getD k 0 = 0 ∨ l.getD k 0 = 1 := by rw [← hk]; exact atL_sym HPP.out hsp hrq
            have hnx := refT_next (y := r1) (l := l) hsp
            rw [hk] at hnx
            obtain ⟨Q, hQ⟩ : ∃ Q, r1 * w = Q := ⟨_, rfl⟩
            have hQI : (r1 : Int) * (w : Int) = (Q : Int) := by rw [← hQ, Int.natCast_mul]
            have hQw : IntKind.i64.wrap (Q : Int) = (Q : Int) := IntWalk.i64_in _ (by omega)
            have hkI : (Q : Int) + (s : Int) = (k : Int) := by omega
            have k0 : (0 : Int) ≤ (k : Int) := by omega
            have k1 : (k : Int) < (n : Int) := by omega
            have i1 : (s : Int) < (w : Int) := by omega
            have hkb : k ≤ 4096 := by have h1 := (T10.out.1.1.1.2).len; have h2 := HPP.out.len; have h3 := HWH.out; rw [Nat.mul_comm] at h3; omega
            have hn3 : n3 ≤ 8200 := by omega
            have hbs3 : w2.heap.size ≤ wr.heap.size := hbw.size
            have HNX := Lib.hid hnx
            clear hcell hnx hk hQ hln3 hbw hbs
            have v_p2 : wr.cell? ⟨W.heap.size, 2, none⟩ = some (.slice (some ⟨ab, ao, none⟩) n c) := T10.out.1.1.2.2.2
            obtain ⟨u, hu⟩ : ∃ u, l.getD k 0 = u := ⟨_, rfl⟩
            have HU := Lib.hid hu
            rw [hu] at hsy z0
            clear hu
            rcases hsy with rfl | rfl
            · skip
              have HTX : Hid (txB l k = 46) := by show _ = _; unfold txB; rw [HU.out]; rfl
              go_wp2_with (first
                | (at_builtin; refine app_lit rfl _ _ _ rfl w2.heap.size et_u8 _ n3 _ HO3.out.own rfl 1 _ _ rfl (by simp) rfl rfl (by unfold maxLen; omega) (by omega) hbs3 ?_; intro a4 c4 w4 hown4 hgr4 hb4 hsz4))
              have ho4 := OwB.app 46 rfl hown4
              rw [← HTX.out, HNX.out] at ho4
              have HO4 := Lib.hid ho4
              have HB4 := Lib.hid (HB3.out.trans hb4)
              clear hown4 hgr4 hb4 hsz4 ho4 hQI hQw hkI k0 k1 z0
              go_roundw
              case rel => exact ⟨r1, s + 1, a4, _, c4, rfl, by omega, by go_num, rfl, HO4.out, HB4.out⟩
              case measure => simp [intOf]; omega
            · skip
              have HTX : Hid (txB l k = 35) := by show _ = _; unfold txB; rw [HU.out]; rfl
              go_wp2_with (first
                | (at_builtin; refine app_lit rfl _ _ _ rfl w2.heap.size et_u8 _ n3 _ HO3.out.own rfl 1 _ _ rfl (by simp) rfl rfl (by unfold maxLen; omega) (by omega) hbs3 ?_; intro a4 c4 w4 hown4 hgr4 hb4 hsz4))
              have ho4 := OwB.app 35 rfl hown4
              rw [← HTX.out, HNX.out] at ho4
              have HO4 := Lib.hid ho4
              have HB4 := Lib.hid (HB3.out.trans hb4)
              clear hown4 hgr4 hb4 hsz4 ho4 hQI hQw hkI k0 k1 z0
              go_roundw
              case rel => exact ⟨r1, s + 1, a4, _, c4, rfl, by omega, by go_num, rfl, HO4.out, HB4.out⟩
              case measure => simp [intOf]; omega
          · skip
            have T10 := T9.up hbw
            clear T9
            have v_p0 : wr.cell? ⟨W.heap.size, 0, none⟩ = some (.int .i64 w) := T10.out.1.1.2.1
            obtain rfl : w = s := by omega
            have i2 : ¬ (w : Int) < (w : Int) := by omega
            have ho9 := HO3.out
            rw [refT_end hw1] at ho9
            have HO9 := Lib.hid ho9
            clear ho9 hbw hln3
            go_wp2
            go_roundw
            case rel => exact ⟨r1 + 1, 0, a3, n3, c3, by omega, rfl, by go_num, rfl, HO9.out, HB3.out⟩
            case measure => simp [intOf]; omega
      · skip
        have r00 : (0 : Int) < (r : Int) := by omega
        go_wp2_with (first
          | (at_builtin; refine app_lit rfl _ _ _ rfl w2.heap.size et_u8 _ nn _ HO.out.own rfl 1 _ _ rfl (by simp) rfl rfl (by unfold maxLen; omega) (by omega) hbs ?_; intro a1 c1 w1 hown1 hgr1 hb1 hsz1))
        have ho1 := OwB.app 47 rfl hown1
        rw [refT_sep (by omega)] at ho1
        have HO1 := Lib.hid ho1
        have HB1 := Lib.hid (HB.out.trans hb1)
        clear hown1 hgr1 hb1 hsz1 ho1 v_p1
        go_loopw [5, 7] (fun bv ix wr => ∃ (r1 s : Nat) (aa : Option Addr) (nn cc : Nat), r1 = r ∧ s ≤ w ∧ ix = .int .i64 (s : Nat) ∧ bv = .slice aa nn cc ∧ OwB wr w2.heap.size aa nn cc (refT w l r1 s) ∧ Below w2.heap.size w2 wr) (fun _ ix _ => w - (intOf ix).toNat)
        case atStart => exact ⟨r, 0, _, _, _, rfl, by omega, rfl, rfl, HO1.out, HB1.out⟩
        case round =>
          obtain ⟨r1, s, a3, n3, c3, rfl, hs, rfl, rfl, ho3, hb3⟩ := hrel
          have hln3 : n3 ≤ 2 * (r1 * w + s) + 1 := by rw [ho3.len]; exact refT_len
          have HO3 := Lib.hid ho3
          have HB3 := Lib.hid hb3
          have hbw := hb3
          clear ho3 hb3
          by_cases hsp : s < w
          · skip
            have T10 := T9.up hbw
            clear T9
            have v_p0 : wr.cell? ⟨W.heap.size, 0, none⟩ = some (.int .i64 w) := T10.out.1.1.2.1
            obtain ⟨k, hk⟩ : ∃ k, r1 * w + s = k := ⟨_, rfl⟩
            have hkn : k < n := by have h1 := (T10.out.1.1.1.2).len; have h2 := HPP.out.len; have h3 := place_lt hsp hrq; rw [hk] at h3; omega
            obtain ⟨ab, ao, hab0, hab, hcell⟩ := (T10.out.1.1.1.2).addr (by omega)
            subst hab0
            have z0 := hcell k hkn
            have hsy : l.getD k 0 = 0 ∨ l.getD k 0 = 1 := by rw [← hk]; exact atL_sym HPP.out hsp hrq
            have hnx := refT_next (y := r1) (l := l) hsp
            rw [hk] at hnx
            obtain ⟨Q, hQ⟩ : ∃ Q, r1 * w = Q := ⟨_, rfl⟩
            have hQI : (r1 : Int) * (w : Int) = (Q : Int) := by rw [← hQ, Int.natCast_mul]
            have hQw : IntKind.i64.wrap (Q : Int) = (Q : Int) := IntWalk.i64_in _ (by omega)
            have hkI : (Q : Int) + (s : Int) = (k : Int) := by omega
            have k0 : (0 : Int) ≤ (k : Int) := by omega
            have k1 : (k : Int) < (n : Int) := by omega
            have i1 : (s : Int) < (w : Int) := by omega
            have hkb : k ≤ 4096 := by have h1 := (T10.out.1.1.1.2).len; have h2 := HPP.out.len; have h3 := HWH.out; rw [Nat.mul_comm] at h3; omega
            have hn3 : n3 ≤ 8200 := by omega
            have hbs3 : w2.heap.size ≤ wr.heap.size := hbw.size
            have HNX := Lib.hid hnx
            clear hcell hnx hk hQ hln3 hbw hbs
            have v_p2 : wr.cell? ⟨W.heap.size, 2, none⟩ = some (.slice (some ⟨ab, ao, none⟩) n c) := T10.out.1.1.2.2.2
            obtain ⟨u, hu⟩ : ∃ u, l.getD k 0 = u := ⟨_, rfl⟩
            have HU := Lib.hid hu
            rw [hu] at hsy z0
            clear hu
            rcases hsy with rfl | rfl
            · skip
              have HTX : Hid (txB l k = 46) := by show _ = _; unfold txB; rw [HU.out]; rfl
              go_wp2_with (first
                | (at_builtin; refine app_lit rfl _ _ _ rfl w2.heap.size et_u8 _ n3 _ HO3.out.own rfl 1 _ _ rfl (by simp) rfl rfl (by unfold maxLen; omega) (by omega) hbs3 ?_; intro a4 c4 w4 hown4 hgr4 hb4 hsz4))
              have ho4 := OwB.app 46 rfl hown4
              rw [← HTX.out, HNX.out] at ho4
              have HO4 := Lib.hid ho4
              have HB4 := Lib.hid (HB3.out.trans hb4)
              clear hown4 hgr4 hb4 hsz4 ho4 hQI hQw hkI k0 k1 z0
              go_roundw
              case rel => exact ⟨r1, s + 1, a4, _, c4, rfl, by omega, by go_num, rfl, HO4.out, HB4.out⟩
              case measure => simp [intOf]; omega
            · skip
              have HTX : Hid (txB l k = 35) := by show _ = _; unfold txB; rw [HU.out]; rfl
              go_wp2_with (first
                | (at_builtin; refine app_lit rfl _ _ _ rfl w2.heap.size et_u8 _ n3 _ HO3.out.own rfl 1 _ _ rfl (by simp) rfl rfl (by unfold maxLen; omega) (by omega) hbs3 ?_; intro a4 c4 w4 hown4 hgr4 hb4 hsz4))
              have ho4 := OwB.app 35 rfl hown4
              rw [← HTX.out, HNX.out] at ho4
              have HO4 := Lib.hid ho4
              have HB4 := Lib.hid (HB3.out.trans hb4)
              clear hown4 hgr4 hb4 hsz4 ho4 hQI hQw hkI k0 k1 z0
              go_roundw
              case rel => exact ⟨r1, s + 1, a4, _, c4, rfl, by omega, by go_num, rfl, HO4.out, HB4.out⟩
              case measure => simp [intOf]; omega
          · skip
            have T10 := T9.up hbw
            clear T9
            have v_p0 : wr.cell? ⟨W.heap.size, 0, none⟩ = some (.int .i64 w) := T10.out.1.1.2.1
            obtain rfl : w = s := by omega
            have i2 : ¬ (w : Int) < (w : Int) := by omega
            have ho9 := HO3.out
            rw [refT_end hw1] at ho9
            have HO9 := Lib.hid ho9
            clear ho9 hbw hln3
            go_wp2
            go_roundw
            case rel => exact ⟨r1 + 1, 0, a3, n3, c3, by omega, rfl, by go_num, rfl, HO9.out, HB3.out⟩
            case measure => simp [intOf]; omega
    · skip
      obtain rfl : h = r := by omega
      have j2 : ¬ (h : Int) < (h : Int) := by omega
      have ho := HO.out
      rw [show textS w l (h * w) = textP w h l by unfold textP; rw [Nat.mul_comm]] at ho
      have HO9 := Lib.hid ho
      have cv := conv_bytes (c := cc) Tryd.underlying84 Tryd.underlying5 Tryd.underlying9 ho.rd
      have hbw := HB.out
      clear HO ho
      have T10 := T9.up hbw
      clear T9
      have v_p1 : wo.cell? ⟨W.heap.size, 1, none⟩ = some (.int .i64 h) := T10.out.1.1.2.2.1
      obtain ⟨⟨q3, q4, q5⟩, f3, f4, f5⟩ := p_cells (T10.out.1.2)
      obtain ⟨w9, e9, ⟨r0, r1, r2⟩, hk9, hs9, hw9, hb9⟩ := er_set (show W.heap.size ≤ W.heap.size + 1 by omega) (T10.out.1.2) (T10.out.1.1.1.1.2) fr_none fr_none (wc_none wo)
      have HRET := Lib.hid (And.intro hw9 hb9)
      clear hk9 hs9 hw9 hb9 hbw
      have HE9 := Lib.hid e9
      have HR9 := Lib.hid (And.intro r0 (And.intro r1 r2))
      clear e9 r0 r1 r2
      go_wp2_with fail
      rw [HE9.out]
      have r0 := HR9.out.1
      have r1 := HR9.out.2.1
      have r2 := HR9.out.2.2
      refine bodyPost_ret (v := .tuple #[.string ⟨(textP w h l).toArray⟩, .agg #[.int .i64 0, .slice none 0 0, .slice none 0 0]]) (by simp [results, Tryd.results23, go_sem, r0, r1, r2]) rfl ?_
      rw [HOD.out.1, HOD.out.2]
      exact ⟨0, none, 0, 0, none, 0, 0, rfl, HRET.out.1, rfl, HRET.out.2⟩
end Go.Proofs.YtnlpobkmjhajcaaDoor
namespace Go.Proofs.YtnlpobkmjhajcaaDoor
open Go.RowKit
set_option linter.unusedVariables false
set_option maxRecDepth 100000

def horN (w h : Nat) (l : List Int) (x : Nat) : Nat → Nat
  | 0 => 0
  | j + 1 => 2 * horN w h l x j + cellN w l x (h - 1 - j)
theorem horN_eq {w h : Nat} {l : List Int} {x : Nat} : ∀ j, j ≤ h → colV w l x h = colV w l x (h - j) + 2 ^ (h - j) * horN w h l x j
  | 0, _ => by simp [horN]
  | j + 1, hj => by
    have ih := horN_eq (w := w) (h := h) (l := l) (x := x) j (by omega)
    obtain ⟨k, hk⟩ : ∃ k, h - j = k + 1 := ⟨h - j - 1, by omega⟩
    rw [hk] at ih
    rw [ih, show h - (j + 1) = k by omega]
    have e1 : colV w l x (k + 1) = colV w l x k + cellN w l x k * 2 ^ k := rfl
    have e2 : horN w h l x (j + 1) = 2 * horN w h l x j + cellN w l x (h - 1 - j) := rfl
    rw [e1, e2, show h - 1 - j = k by omega, Nat.pow_succ, Nat.mul_add, Nat.mul_comm (cellN w l x k), Nat.mul_assoc]
    omega
theorem horN_all {w h : Nat} {l : List Int} {x : Nat} : horN w h l x h = colV w l x h := by
  have := horN_eq (w := w) (l := l) (x := x) h (Nat.le_refl h)
  rw [Nat.sub_self] at this
  rw [this]
  simp [colV]
theorem horN_lt {w h : Nat} {l : List Int} (hp : IsPatch w h l) {x : Nat} (hx : x < w) : ∀ j, j ≤ h → horN w h l x j < 2 ^ j
  | 0, _ => by simp [horN]
  | j + 1, hj => by
    have ih := horN_lt hp hx j (by omega)
    have hc := (cellN_le hp hx (show h - 1 - j < h by omega)).1
    have e2 : horN w h l x (j + 1) = 2 * horN w h l x j + cellN w l x (h - 1 - j) := rfl
    rw [e2, Nat.pow_succ]
    omega
def stL (cs : List Int) (w x : Nat) (v : Int) : List Int := cs.take x ++ v :: List.replicate (w - 1 - x) 0
theorem stL_start {cs : List Int} {w x : Nat} (hx : x < w) : cs.take x ++ List.replicate (w - x) 0 = stL cs w x 0 := by
  unfold stL
  rw [show w - x = (w - 1 - x) + 1 by omega, List.replicate_succ]
theorem stL_len {cs : List Int} {w x : Nat} {v : Int} (hc : cs.length = w) (hx : x < w) : (stL cs w x v).length = w := by simp [stL]; omega
theorem stL_get {cs : List Int} {w x : Nat} {v : Int} (hc : cs.length = w) (hx : x < w) : (stL cs w x v)[x]? = some v := by
  unfold stL
  have h1 : (cs.take x).length = x := by simp; omega
  rw [List.getElem?_append_right (by omega), h1, Nat.sub_self]
  rfl
theorem stL_set {cs : List Int} {w x : Nat} {v u : Int} (hc : cs.length = w) (hx : x < w) : (stL cs w x v).set x u = stL cs w x u := by
  unfold stL
  have h1 : (cs.take x).length = x := by simp; omega
  rw [List.set_append_right _ _ (by omega), h1, Nat.sub_self]
  rfl
theorem stL_end {cs : List Int} {w x : Nat} (hc : cs.length = w) (hx : x < w) : stL cs w x (cs.getD x 0) = cs.take (x + 1) ++ List.replicate (w - (x + 1)) 0 := by
  unfold stL
  rw [List.take_succ_eq_append_getElem (by omega), show cs.getD x 0 = cs[x]'(by omega) by simp [hc, hx], List.append_assoc, show w - (x + 1) = w - 1 - x by omega]
  rfl

set_option maxHeartbeats 16000000 in
theorem refcol_any (w h : Int) (a : Option Addr) (n c : Nat) (l : List Int) (W : World) (hR : RK .i64 W a n l) (hm : n ≤ maxLen) :
    Calls Tryd.prog 26 #[patV w h a n c] W (IntsRef W (colO w h l) (colD w h l)) := by
  have T0 := Tk.nil W
  have T1 := T0.add (fun wv => Below W.heap.size W wv) (bnil W)
  clear T0
  have T2 := T1.add (fun wv => RK .i64 wv a n l) (hR)
  clear T1
  obtain ⟨Wb, hWb⟩ : ∃ Wb, (W.alloc (.cells #[.int .i64 w, .int .i64 h, .slice a n c] 24)).alloc (.cells #[.int .i64 0, .slice none 0 0, .slice none 0 0] 47) = Wb := ⟨_, rfl⟩
  have hbWb : Below W.heap.size W Wb := by rw [← hWb]; exact balloc (balloc (bnil W) _) _
  have T3 := T2.up hbWb
  clear T2
  have T4 := T3.add (fun wv => wv.cell? ⟨W.heap.size, 0, none⟩ = some (.int .i64 w) ∧ wv.cell? ⟨W.heap.size, 1, none⟩ = some (.int .i64 h) ∧ wv.cell? ⟨W.heap.size, 2, none⟩ = some (.slice a n c)) (by rw [← hWb]; exact ⟨al000 (cnw (by simp) rfl), al000 (cnw (by simp) rfl), al000 (cnw (by simp) rfl)⟩)
  clear T3
  have HWb := Lib.hid hWb
  clear hWb hbWb
  have hz2 : Wb.heap[W.heap.size + 1]? = some (.cells #[.int .i64 0, .slice none 0 0, .slice none 0 0] 47) := by
    rw [← HWb.out]
    have := heap_alloc_new (W.alloc (.cells #[.int .i64 w, .int .i64 h, .slice a n c] 24)) (.cells #[.int .i64 0, .slice none 0 0, .slice none 0 0] 47)
    simpa using this
  have hsz : W.heap.size + 1 + 1 = Wb.heap.size := by rw [← HWb.out]; simp
  have T5 := T4.add (fun wv => wv.heap[W.heap.size + 1]? = some (.cells #[.int .i64 0, .slice none 0 0, .slice none 0 0] 47)) (hz2)
  clear T4
  have HSZ := Lib.hid hsz
  clear hz2 hsz
  clear hR
  have hmx : n ≤ 9223372036854775807 := hm
  by_cases hpe : patchErr w h l ≠ none
  · skip
    have hd : colD w h l = patchD w h l := by
      unfold colD patchD
      cases he : patchErr w h l with
      | none => exact absurd he hpe
      | some e => rfl
    have ho : colO w h l = [] := by
      unfold colO colD
      cases he : patchErr w h l with
      | none => exact absurd he hpe
      | some e => rfl
    have hpd : patchD w h l ≠ none := by
      unfold patchD
      cases he : patchErr w h l with
      | none => exact absurd he hpe
      | some e => exact nofun
    have HOD := Lib.hid (And.intro ho hd)
    have HPD := Lib.hid hpd
    have HPE := Lib.hid hpe
    clear hd ho hpd hpe
    go_enter Tryd.func26, Tryd.ntmps26
    have v_p0 : ((W.alloc (.cells #[.int .i64 w, .int .i64 h, .slice a n c] 24)).alloc (.cells #[.int .i64 0, .slice none 0 0, .slice none 0 0] 47)).cell? ⟨W.heap.size, 0, none⟩ = some (.int .i64 w) := by rw [HWb.out]; exact T5.out.1.2.1
    have v_p1 : ((W.alloc (.cells #[.int .i64 w, .int .i64 h, .slice a n c] 24)).alloc (.cells #[.int .i64 0, .slice none 0 0, .slice none 0 0] 47)).cell? ⟨W.heap.size, 1, none⟩ = some (.int .i64 h) := by rw [HWb.out]; exact T5.out.1.2.2.1
    have v_p2 : ((W.alloc (.cells #[.int .i64 w, .int .i64 h, .slice a n c] 24)).alloc (.cells #[.int .i64 0, .slice none 0 0, .slice none 0 0] 47)).cell? ⟨W.heap.size, 2, none⟩ = some (.slice a n c) := by rw [HWb.out]; exact T5.out.1.2.2.2
    go_wp2_with fail
    rw [HWb.out]
    refine (refpcheck_er w h a n c l Wb T5.out.1.1.2 hm HPE.out).mono ?_; rintro e w1 ⟨N, a1, n1, c1, a2, n2, c2, rfl, hw, f1, f2, hN, hbw1⟩
    clear v_p0 v_p1 v_p2
    have T6 := T5.up hbw1
    clear T5
    have T7 := T6.add (fun wv => WC wv (.agg #[.int .i64 N, .slice a1 n1 c1, .slice a2 n2 c2]) (patchD w h l)) (hw)
    clear T6
    have HN := Lib.hid hN
    have HF := Lib.hid (And.intro f1 f2)
    clear hw f1 f2 hN
    obtain ⟨we, hwe⟩ : ∃ we, w1.alloc (.cells #[.int .i64 N, .slice a1 n1 c1, .slice a2 n2 c2] 47) = we := ⟨_, rfl⟩
    have hbwe : Below w1.heap.size w1 we := by rw [← hwe]; exact balloc (bnil w1) _
    have T8 := T7.up hbwe
    clear T7
    have T9 := T8.add (fun wv => wv.cell? ⟨w1.heap.size, 0, none⟩ = some (.int .i64 N) ∧ wv.cell? ⟨w1.heap.size, 1, none⟩ = some (.slice a1 n1 c1) ∧ wv.cell? ⟨w1.heap.size, 2, none⟩ = some (.slice a2 n2 c2)) (by rw [← hwe]; exact ⟨cnw (by simp) rfl, cnw (by simp) rfl, cnw (by simp) rfl⟩)
    clear T8
    have Hwe := Lib.hid hwe
    clear hwe hbwe
    have v_e0 : (w1.alloc (.cells #[.int .i64 N, .slice a1 n1 c1, .slice a2 n2 c2] 47)).cell? ⟨w1.heap.size, 0, none⟩ = some (.int .i64 N) := by rw [Hwe.out]; exact T9.out.2.1
    have v_e1 : (w1.alloc (.cells #[.int .i64 N, .slice a1 n1 c1, .slice a2 n2 c2] 47)).cell? ⟨w1.heap.size, 1, none⟩ = some (.slice a1 n1 c1) := by rw [Hwe.out]; exact T9.out.2.2.1
    have v_e2 : (w1.alloc (.cells #[.int .i64 N, .slice a1 n1 c1, .slice a2 n2 c2] 47)).cell? ⟨w1.heap.size, 2, none⟩ = some (.slice a2 n2 c2) := by rw [Hwe.out]; exact T9.out.2.2.2
    go_wp2_with fail
    rw [Hwe.out]
    refine (refBadE _ _ _ we true HN.out).mono ?_; rintro e w2 ⟨rfl, hbw2⟩
    clear v_e0 v_e1 v_e2
    have T10 := T9.up hbw2
    clear T9
    have hNs : (N != 0) = (patchD w h l).isSome := by rw [HN.out]; cases hq : patchD w h l with | none => exact absurd hq HPD.out | some z => rfl
    have HNS := Lib.hid hNs
    clear hNs
    have v_e0 : w2.cell? ⟨w1.heap.size, 0, none⟩ = some (.int .i64 N) := T10.out.2.1
    have v_e1 : w2.cell? ⟨w1.heap.size, 1, none⟩ = some (.slice a1 n1 c1) := T10.out.2.2.1
    have v_e2 : w2.cell? ⟨w1.heap.size, 2, none⟩ = some (.slice a2 n2 c2) := T10.out.2.2.2
    obtain ⟨⟨q3, q4, q5⟩, f3, f4, f5⟩ := p_cells (T10.out.1.1.2)
    obtain ⟨w9, e9, ⟨r0, r1, r2⟩, hk9, hs9, hw9, hb9⟩ := er_set (show W.heap.size ≤ W.heap.size + 1 by omega) (T10.out.1.1.2) (T10.out.1.1.1.1.1.2) (HF.out.1.base (by have := HSZ.out; omega)) (HF.out.2.base (by have := HSZ.out; omega)) (T10.out.1.2)
    have HRET := Lib.hid (And.intro hw9 hb9)
    clear hk9 hs9 hw9 hb9
    have HE9 := Lib.hid e9
    have HR9 := Lib.hid (And.intro r0 (And.intro r1 r2))
    clear e9 r0 r1 r2
    have sz1 := hbw1.size
    have sz0 := HSZ.out
    have ne1 : ¬ w1.heap.size = W.heap.size + 1 := by omega
    have ne2 : ¬ W.heap.size + 1 = w1.heap.size := by omega
    clear sz0 sz1
    go_wp2_with fail
    go_region
    all_goals
      go_wp2
      rw [HE9.out]
      have r0 := HR9.out.1
      have r1 := HR9.out.2.1
      have r2 := HR9.out.2.2
      refine bodyPost_ret (v := .tuple #[.slice none 0 0, .agg #[.int .i64 N, .slice a1 n1 c1, .slice a2 n2 c2]]) (by simp [results, Tryd.results26, go_sem, r0, r1, r2]) rfl ?_
      rw [HOD.out.1, HOD.out.2]
      exact ⟨none, 0, 0, N, a1, n1, c1, a2, n2, c2, rfl, RK.nil, HRET.out.1.up (Below.drew (bnil _)), HNS.out, Below.drew HRET.out.2⟩
  have he : patchErr w h l = none := Decidable.byContradiction hpe
  obtain ⟨w, h, rfl, rfl, hp⟩ := patchErr_none he
  have HPP := Lib.hid hp
  have hw1 := hp.w1
  have hw2 := hp.w2
  have hh1 := hp.h1
  have hh2 := hp.h2
  clear hpe hp
  by_cases h16 : 16 < (h : Int)
  · skip
    have hd : colD (w : Int) (h : Int) l = some ([(opPatch, 2)], 4) := by unfold colD; rw [he]; exact if_pos h16
    have ho : colO (w : Int) (h : Int) l = [] := by unfold colO; rw [hd]; rfl
    have HOD := Lib.hid (And.intro ho hd)
    clear he hd ho
    go_enter Tryd.func26, Tryd.ntmps26
    have v_p0 : ((W.alloc (.cells #[.int .i64 w, .int .i64 h, .slice a n c] 24)).alloc (.cells #[.int .i64 0, .slice none 0 0, .slice none 0 0] 47)).cell? ⟨W.heap.size, 0, none⟩ = some (.int .i64 w) := by rw [HWb.out]; exact T5.out.1.2.1
    have v_p1 : ((W.alloc (.cells #[.int .i64 w, .int .i64 h, .slice a n c] 24)).alloc (.cells #[.int .i64 0, .slice none 0 0, .slice none 0 0] 47)).cell? ⟨W.heap.size, 1, none⟩ = some (.int .i64 h) := by rw [HWb.out]; exact T5.out.1.2.2.1
    have v_p2 : ((W.alloc (.cells #[.int .i64 w, .int .i64 h, .slice a n c] 24)).alloc (.cells #[.int .i64 0, .slice none 0 0, .slice none 0 0] 47)).cell? ⟨W.heap.size, 2, none⟩ = some (.slice a n c) := by rw [HWb.out]; exact T5.out.1.2.2.2
    go_wp2_with fail
    rw [HWb.out]
    refine (refpcheck_ok w h a n c l Wb T5.out.1.1.2 hm HPP.out).mono ?_; rintro e w1 ⟨rfl, hbw1⟩
    clear v_p0 v_p1 v_p2
    have T6 := T5.up hbw1
    clear T5
    obtain ⟨we, hwe⟩ : ∃ we, w1.alloc (.cells #[.int .i64 0, .slice none 0 0, .slice none 0 0] 47) = we := ⟨_, rfl⟩
    have hbwe : Below w1.heap.size w1 we := by rw [← hwe]; exact balloc (bnil w1) _
    have T7 := T6.up hbwe
    clear T6
    have T8 := T7.add (fun wv => wv.cell? ⟨w1.heap.size, 0, none⟩ = some (.int .i64 0) ∧ wv.cell? ⟨w1.heap.size, 1, none⟩ = some (.slice none 0 0) ∧ wv.cell? ⟨w1.heap.size, 2, none⟩ = some (.slice none 0 0)) (by rw [← hwe]; exact ⟨cnw (by simp) rfl, cnw (by simp) rfl, cnw (by simp) rfl⟩)
    clear T7
    have Hwe := Lib.hid hwe
    clear hwe hbwe
    have v_e0 : (w1.alloc (.cells #[.int .i64 0, .slice none 0 0, .slice none 0 0] 47)).cell? ⟨w1.heap.size, 0, none⟩ = some (.int .i64 0) := by rw [Hwe.out]; exact T8.out.2.1
    have v_e1 : (w1.alloc (.cells #[.int .i64 0, .slice none 0 0, .slice none 0 0] 47)).cell? ⟨w1.heap.size, 1, none⟩ = some (.slice none 0 0) := by rw [Hwe.out]; exact T8.out.2.2.1
    have v_e2 : (w1.alloc (.cells #[.int .i64 0, .slice none 0 0, .slice none 0 0] 47)).cell? ⟨w1.heap.size, 2, none⟩ = some (.slice none 0 0) := by rw [Hwe.out]; exact T8.out.2.2.2
    go_wp2_with fail
    rw [Hwe.out]
    refine (refBadE _ _ _ we false rfl).mono ?_; rintro e w2 ⟨rfl, hbw2⟩
    clear v_e0 v_e1 v_e2
    have T9 := T8.up hbw2
    clear T8
    have sb0 : W.heap.size + 1 < w2.heap.size := heap_ltT (T9.out.1.2)
    have v_p0 : w2.cell? ⟨W.heap.size, 0, none⟩ = some (.int .i64 w) := T9.out.1.1.2.1
    have v_p1 : w2.cell? ⟨W.heap.size, 1, none⟩ = some (.int .i64 h) := T9.out.1.1.2.2.1
    have v_p2 : w2.cell? ⟨W.heap.size, 2, none⟩ = some (.slice a n c) := T9.out.1.1.2.2.2
    go_wp2_with fail
    refine (rawNew_fresh _ _ _ _ rfl).mono ?_; rintro e w8 ⟨b1, b2, rfl, lb1, lb2, hw8, hbw8⟩
    clear v_p0 v_p1 v_p2
    have T10 := T9.up hbw8
    clear T9
    obtain ⟨⟨q3, q4, q5⟩, f3, f4, f5⟩ := p_cells (T10.out.1.2)
    obtain ⟨w9, e9, ⟨r0, r1, r2⟩, hk9, hs9, hw9, hb9⟩ := er_set (show W.heap.size ≤ W.heap.size + 1 by omega) (T10.out.1.2) (T10.out.1.1.1.1.2) (fr_some (by omega)) (fr_some (by omega)) (wc_want hw8)
    have HRET := Lib.hid (And.intro hw9 hb9)
    clear hk9 hs9 hw9 hb9 hw8 lb1 lb2 sb0
    have HE9 := Lib.hid e9
    have HR9 := Lib.hid (And.intro r0 (And.intro r1 r2))
    clear e9 r0 r1 r2
    go_wp2
    rw [HE9.out]
    have r0 := HR9.out.1
    have r1 := HR9.out.2.1
    have r2 := HR9.out.2.2
    refine bodyPost_ret (v := .tuple #[.slice none 0 0, .agg #[.int .i64 4, .slice (some ⟨b1, 0, none⟩) 1 1, .slice (some ⟨b2, 0, none⟩) 1 1]]) (by simp [results, Tryd.results26, go_sem, r0, r1, r2]) rfl ?_
    rw [HOD.out.1, HOD.out.2]
    exact ⟨none, 0, 0, 4, _, 1, 1, _, 1, 1, rfl, RK.nil, HRET.out.1, rfl, HRET.out.2⟩
  · skip
    have hd : colD (w : Int) (h : Int) l = none := by unfold colD; rw [he]; exact if_neg h16
    have ho : colO (w : Int) (h : Int) l = colL w h l := by unfold colO; rw [if_pos hd]; simp only [Int.toNat_natCast]
    have HOD := Lib.hid (And.intro ho hd)
    have h16n : h ≤ 16 := by omega
    obtain ⟨CS, hCS⟩ : ∃ CS, colL w h l = CS := ⟨_, rfl⟩
    have hcl : CS.length = w := by rw [← hCS]; exact colL_len w h l
    have HCS := Lib.hid hCS
    have HCL := Lib.hid hcl
    clear he hd ho hCS hcl
    go_enter Tryd.func26, Tryd.ntmps26
    have v_p0 : ((W.alloc (.cells #[.int .i64 w, .int .i64 h, .slice a n c] 24)).alloc (.cells #[.int .i64 0, .slice none 0 0, .slice none 0 0] 47)).cell? ⟨W.heap.size, 0, none⟩ = some (.int .i64 w) := by rw [HWb.out]; exact T5.out.1.2.1
    have v_p1 : ((W.alloc (.cells #[.int .i64 w, .int .i64 h, .slice a n c] 24)).alloc (.cells #[.int .i64 0, .slice none 0 0, .slice none 0 0] 47)).cell? ⟨W.heap.size, 1, none⟩ = some (.int .i64 h) := by rw [HWb.out]; exact T5.out.1.2.2.1
    have v_p2 : ((W.alloc (.cells #[.int .i64 w, .int .i64 h, .slice a n c] 24)).alloc (.cells #[.int .i64 0, .slice none 0 0, .slice none 0 0] 47)).cell? ⟨W.heap.size, 2, none⟩ = some (.slice a n c) := by rw [HWb.out]; exact T5.out.1.2.2.2
    go_wp2_with fail
    rw [HWb.out]
    refine (refpcheck_ok w h a n c l Wb T5.out.1.1.2 hm HPP.out).mono ?_; rintro e w1 ⟨rfl, hbw1⟩
    clear v_p0 v_p1 v_p2
    have T6 := T5.up hbw1
    clear T5
    obtain ⟨we, hwe⟩ : ∃ we, w1.alloc (.cells #[.int .i64 0, .slice none 0 0, .slice none 0 0] 47) = we := ⟨_, rfl⟩
    have hbwe : Below w1.heap.size w1 we := by rw [← hwe]; exact balloc (bnil w1) _
    have T7 := T6.up hbwe
    clear T6
    have T8 := T7.add (fun wv => wv.cell? ⟨w1.heap.size, 0, none⟩ = some (.int .i64 0) ∧ wv.cell? ⟨w1.heap.size, 1, none⟩ = some (.slice none 0 0) ∧ wv.cell? ⟨w1.heap.size, 2, none⟩ = some (.slice none 0 0)) (by rw [← hwe]; exact ⟨cnw (by simp) rfl, cnw (by simp) rfl, cnw (by simp) rfl⟩)
    clear T7
    have Hwe := Lib.hid hwe
    clear hwe hbwe
    have v_e0 : (w1.alloc (.cells #[.int .i64 0, .slice none 0 0, .slice none 0 0] 47)).cell? ⟨w1.heap.size, 0, none⟩ = some (.int .i64 0) := by rw [Hwe.out]; exact T8.out.2.1
    have v_e1 : (w1.alloc (.cells #[.int .i64 0, .slice none 0 0, .slice none 0 0] 47)).cell? ⟨w1.heap.size, 1, none⟩ = some (.slice none 0 0) := by rw [Hwe.out]; exact T8.out.2.2.1
    have v_e2 : (w1.alloc (.cells #[.int .i64 0, .slice none 0 0, .slice none 0 0] 47)).cell? ⟨w1.heap.size, 2, none⟩ = some (.slice none 0 0) := by rw [Hwe.out]; exact T8.out.2.2.2
    go_wp2_with fail
    rw [Hwe.out]
    refine (refBadE _ _ _ we false rfl).mono ?_; rintro e w2 ⟨rfl, hbw2⟩
    clear v_e0 v_e1 v_e2
    have T9 := T8.up hbw2
    clear T8
    have HLE : Hid (W.heap.size + 1 < w2.heap.size) := heap_ltT (T9.out.1.2)
    have v_p0 : w2.cell? ⟨W.heap.size, 0, none⟩ = some (.int .i64 w) := T9.out.1.1.2.1
    have v_p1 : w2.cell? ⟨W.heap.size, 1, none⟩ = some (.int .i64 h) := T9.out.1.1.2.2.1
    have v_p2 : w2.cell? ⟨W.heap.size, 2, none⟩ = some (.slice a n c) := T9.out.1.1.2.2.2
    go_wp2_with (first
      | (at_make; refine mk_full rfl _ _ _ rfl w2.heap.size et_int .i64 .i64 _ _ w rfl rfl rfl rfl (by omega) (by unfold maxLen; omega) (Nat.le_refl _) ?_; intro w3 hown hb3 hsz3; rw [made_i64p] at hown; have q2 := cpa hb3 v_p2; have q0 := cpa hb3 v_p0))
    obtain ⟨g, hg⟩ : ∃ g, w2.heap.size = g := ⟨_, rfl⟩
    rw [hg] at hown
    rw [hg]
    have HO2 : Hid (w3.ownsRow g 3 1 (.slice (some ⟨g, 0, none⟩) w w) w ((CS.take 0 ++ List.replicate (w - 0) 0).map (Value.int .i64))) := by show World.ownsRow _ _ _ _ _ _ _; simpa using hown
    have HG := Lib.hid hg
    have HB3 := Lib.hid hb3
    clear hown hg hb3 q2 q0 hsz3
    clear v_p0 v_p1 v_p2
    go_loopw [6] (fun ix wr => ∃ x : Nat, x ≤ w ∧ ix = .int .i64 x ∧ wr.ownsRow g 3 1 (.slice (some ⟨g, 0, none⟩) w w) w ((CS.take x ++ List.replicate (w - x) 0).map (Value.int .i64)) ∧ Below w2.heap.size w2 wr) (fun ix _ => w - (intOf ix).toNat)
    case atStart => exact ⟨0, by omega, rfl, HO2.out, HB3.out⟩
    case round =>
      obtain ⟨x, hx, rfl, ho, hbr⟩ := hrel
      have HO := Lib.hid ho
      have HBR := Lib.hid hbr
      clear ho
      generalize wr = wo at *
      by_cases hxw : x < w
      · skip
        have TT := T9.up hbr
        have v_p0 : wo.cell? ⟨W.heap.size, 0, none⟩ = some (.int .i64 w) := TT.out.1.1.2.1
        have v_p1 : wo.cell? ⟨W.heap.size, 1, none⟩ = some (.int .i64 h) := TT.out.1.1.2.2.1
        have HO1 : Hid (wo.ownsRow g 3 1 (.slice (some ⟨g, 0, none⟩) w w) w ((stL CS w x (horN w h l x 0 : Nat)).map (Value.int .i64))) := by
          have h := HO.out
          rw [stL_start hxw] at h
          exact h
        clear TT hbr
        go_wp2_with fail
        clear v_p0 v_p1
        go_loopw [7] (fun iy wr => ∃ x1 j : Nat, x1 = x ∧ j ≤ h ∧ iy = .int .i64 ((h : Int) - 1 - (j : Int)) ∧ wr.ownsRow g 3 1 (.slice (some ⟨g, 0, none⟩) w w) w ((stL CS w x1 (horN w h l x1 j : Nat)).map (Value.int .i64)) ∧ Below w2.heap.size w2 wr) (fun iy _ => (intOf iy + 1).toNat)
        case atStart => exact ⟨x, 0, rfl, by omega, by simp, HO1.out, HBR.out⟩
        case round =>
          obtain ⟨x1, j, rfl, hj, rfl, ho, hbr⟩ := hrel
          have HO3 := Lib.hid ho
          have HB4 := Lib.hid hbr
          clear ho
          by_cases hjh : j < h
          · skip
            have T10 := T9.up hbr
            clear T9
            clear hbr
            obtain ⟨Y, hY⟩ : ∃ Y, h - 1 - j = Y := ⟨_, rfl⟩
            have hYI : (h : Int) - 1 - (j : Int) = (Y : Int) := by omega
            rw [hYI]
            have hYh : Y < h := by omega
            have hnx : horN w h l x1 (j + 1) = 2 * horN w h l x1 j + cellN w l x1 Y := by rw [← hY]; rfl
            have hVb := horN_lt HPP.out hxw j (by omega)
            have hpow : 2 ^ j ≤ 65536 := by
              have := Nat.pow_le_pow_right (n := 2) (by omega) (show j ≤ 16 by omega)
              omega
            have hC := cellN_le HPP.out hxw hYh
            obtain ⟨k, hk⟩ : ∃ k, Y * w + x1 = k := ⟨_, rfl⟩
            have hkn : k < n := by have h1 := (T10.out.1.1.1.2).len; have h2 := HPP.out.len; have h3 := place_lt hxw hYh; rw [hk] at h3; omega
            obtain ⟨ab, ao, hab0, hab, hcell⟩ := (T10.out.1.1.1.2).addr (by omega)
            subst hab0
            have z0 := hcell k hkn
            have hat : l.getD k 0 = (cellN w l x1 Y : Int) := by rw [hC.2, atL, hk]
            rw [hat] at z0
            have hget1 : wr.cell? ⟨g, x1, none⟩ = some (.int .i64 (horN w h l x1 j : Nat)) := by
              rw [HO3.out.cellAt x1 (by omega), List.getElem?_map, stL_get HCL.out hxw]
              rfl
            have f0 := HO3.out.frozenAt x1
            generalize cellN w l x1 Y = U at z0 hC hnx hat
            generalize hV : horN w h l x1 j = V at hVb hnx hget1
            obtain ⟨Z, hZ⟩ : ∃ Z, 2 * V + U = Z := ⟨_, rfl⟩
            have hZI : 2 * (V : Int) + (U : Int) = (Z : Int) := by omega
            have hV2 : IntKind.i64.wrap (2 * (V : Int)) = 2 * (V : Int) := IntWalk.i64_in _ (by omega)
            have hU1 := hC.1
            have hZw : IntKind.i64.wrap (Z : Int) = (Z : Int) := IntWalk.i64_in _ (by omega)
            rw [hZ] at hnx
            have HNX := Lib.hid hnx
            obtain ⟨Q, hQ⟩ : ∃ Q, Y * w = Q := ⟨_, rfl⟩
            have hQ4 : Q ≤ 4096 := by rw [← hQ]; exact Nat.mul_le_mul (show Y ≤ 64 by omega) hw2
            have hQI : (Y : Int) * (w : Int) = (Q : Int) := by rw [← hQ, Int.natCast_mul]
            have hQw : IntKind.i64.wrap (Q : Int) = (Q : Int) := IntWalk.i64_in _ (by omega)
            have hkI : (Q : Int) + (x1 : Int) = (k : Int) := by omega
            have hkw : IntKind.i64.wrap (k : Int) = (k : Int) := IntWalk.i64_in _ (by omega)
            have k0 : (0 : Int) ≤ (k : Int) := by omega
            have k1 : (k : Int) < (n : Int) := by omega
            have x0 : (0 : Int) ≤ (x1 : Int) := by omega
            have xw : (x1 : Int) < (w : Int) := by omega
            have y0 : (0 : Int) ≤ (Y : Int) := by omega
            have ho6 := own_set HO3.out x1 (.int .i64 (Z : Int))
            rw [map_set_i, stL_set HCL.out hxw] at ho6
            have hb6 := HB4.out.setCell (p := ⟨g, x1, none⟩) (by rw [HG.out]; exact Nat.le_refl _) (.int .i64 (Z : Int))
            have HO6 : Hid ((wr.setCell ⟨g, x1, none⟩ (.int .i64 (Z : Int))).drew.ownsRow g 3 1 (.slice (some ⟨g, 0, none⟩) w w) w ((stL CS w x1 (horN w h l x1 (j + 1) : Nat)).map (Value.int .i64))) := by rw [HNX.out]; exact owns_up ho6 (Below.drew (bnil _))
            have HB6 := Lib.hid (Below.drew hb6)
            have HY := Lib.hid hY
            clear hcell hat hC hnx hV hZ hQ hk ho6 hb6 hVb hpow hYI hY
            have v_p0 : wr.cell? ⟨W.heap.size, 0, none⟩ = some (.int .i64 w) := T10.out.1.1.2.1
            have v_p2 : wr.cell? ⟨W.heap.size, 2, none⟩ = some (.slice (some ⟨ab, ao, none⟩) n c) := T10.out.1.1.2.2.2
            go_wp2_with fail
            go_region
            clear v_p0 v_p2
            clear hQI hQw hkI hkw hV2 hZI hZw z0 hget1 f0
            go_wp2
            go_roundw
            case rel => exact ⟨x1, j + 1, rfl, by omega, congrArg (Value.int .i64) (by have := HY.out; omega), HO6.out, HB6.out⟩
            case measure => simp [intOf] <;> omega
          · skip
            obtain rfl : h = j := by omega
            rw [show (h : Int) - 1 - (h : Int) = -1 by omega]
            have HO7 : Hid (wr.ownsRow g 3 1 (.slice (some ⟨g, 0, none⟩) w w) w ((CS.take (x1 + 1) ++ List.replicate (w - (x1 + 1)) 0).map (Value.int .i64))) := by
              have h1 := HO3.out
              rw [horN_all, ← colL_getD hxw, HCS.out, stL_end HCL.out hxw] at h1
              exact h1
            clear hbr
            go_wp2
            go_roundw
            case rel => exact ⟨x1 + 1, by omega, by go_num, HO7.out, HB4.out⟩
            case measure => simp [intOf]; omega
      · skip
        have T10 := T9.up hbr
        clear T9
        obtain rfl : w = x := by omega
        have ho := HO.out
        rw [Nat.sub_self, List.replicate_zero, List.append_nil, List.take_of_length_le (by have := HCL.out; omega), ← HCS.out] at ho
        have ho9 : OwI wo g (some ⟨g, 0, none⟩) w w (colL w h l) := ⟨ho⟩
        have v_p0 : wo.cell? ⟨W.heap.size, 0, none⟩ = some (.int .i64 w) := T10.out.1.1.2.1
        obtain ⟨⟨q3, q4, q5⟩, f3, f4, f5⟩ := p_cells (T10.out.1.2)
        obtain ⟨w9, e9, ⟨r0, r1, r2⟩, hk9, hs9, hw9, hb9⟩ := er_set (show W.heap.size ≤ W.heap.size + 1 by omega) (T10.out.1.2) (T10.out.1.1.1.1.2) fr_none fr_none (wc_none wo)
        have HRK : Hid (RK .i64 w9 (some ⟨g, 0, none⟩) w (colL w h l)) := OwI.rk (base := g) ⟨own_of_heap' ho9.own fun b hb => hk9 b (by have h1 := (ho9.own.lt b hb).1; have h2 := HLE.out; have h3 := HG.out; omega)⟩
        have HRET := Lib.hid (And.intro hw9 hb9)
        clear hk9 hs9 hw9 hb9 hbr ho9 ho HO
        have HE9 := Lib.hid e9
        have HR9 := Lib.hid (And.intro r0 (And.intro r1 r2))
        clear e9 r0 r1 r2
        go_wp2_with fail
        first | rw [HE9.out] | (go_region; all_goals go_wp2; rw [HE9.out])
        have r0 := HR9.out.1
        have r1 := HR9.out.2.1
        have r2 := HR9.out.2.2
        refine bodyPost_ret (v := .tuple #[.slice (some ⟨g, 0, none⟩) w w, .agg #[.int .i64 0, .slice none 0 0, .slice none 0 0]]) (by simp [results, Tryd.results26, go_sem, r0, r1, r2]) rfl ?_
        rw [HOD.out.1, HOD.out.2]
        exact ⟨_, _, _, 0, none, 0, 0, none, 0, 0, rfl, HRK.out, HRET.out.1, rfl, HRET.out.2⟩
end Go.Proofs.YtnlpobkmjhajcaaDoor
namespace Go.Proofs.YtnlpobkmjhajcaaDoor
open Go.RowKit
set_option linter.unusedVariables false
set_option maxRecDepth 100000

theorem tmod8 (t : Int) : ((t.tmod 8 < 0 ∧ t.tmod 8 + 8 = t % 8) ∨ (0 ≤ t.tmod 8 ∧ t.tmod 8 = t % 8)) ∧ -8 < t.tmod 8 ∧ t.tmod 8 < 8 := by
  by_cases h : 0 ≤ t
  · rw [Int.tmod_eq_emod_of_nonneg h]
    omega
  · obtain ⟨s, rfl⟩ : ∃ s, t = -s := ⟨-t, by omega⟩
    rw [Int.neg_tmod, Int.tmod_eq_emod_of_nonneg (by omega)]
    omega
def turnO (w h : Int) (l : List Int) (t : Int) : Int × Int × List Int := if patchD w h l = none then ((turnW w.toNat h.toNat (t % 8).toNat : Nat), (turnW h.toNat w.toNat (t % 8).toNat : Nat), turnL w.toNat h.toNat l (t % 8).toNat) else (0, 0, [])
set_option maxHeartbeats 16000000 in
theorem refturn_any (w h t : Int) (a : Option Addr) (n c : Nat) (l : List Int) (W : World) (hR : SlI W a n c l) :
    Calls Tryd.prog 24 #[patV w h a n c, .int .i64 t] W (PatRef W (turnO w h l t) (patchD w h l)) := by
  have hm : n ≤ maxLen := hR.nm
  have T0 := Tk.nil W
  have T1 := T0.add (fun wv => Below W.heap.size W wv) (bnil W)
  clear T0
  have T2 := T1.add (fun wv => SlI wv a n c l) (hR)
  clear T1
  obtain ⟨Wb, hWb⟩ : ∃ Wb, ((W.alloc (.cells #[.int .i64 w, .int .i64 h, .slice a n c] 24)).alloc (.cells #[.int .i64 0, .int .i64 0, .slice none 0 0] 24)).alloc (.cells #[.int .i64 0, .slice none 0 0, .slice none 0 0] 47) = Wb := ⟨_, rfl⟩
  have hbWb : Below W.heap.size W Wb := by rw [← hWb]; exact balloc (balloc (balloc (bnil W) _) _) _
  have T3 := T2.up hbWb
  clear T2
  have T4 := T3.add (fun wv => wv.cell? ⟨W.heap.size, 0, none⟩ = some (.int .i64 w) ∧ wv.cell? ⟨W.heap.size, 1, none⟩ = some (.int .i64 h) ∧ wv.cell? ⟨W.heap.size, 2, none⟩ = some (.slice a n c)) (by rw [← hWb]; exact ⟨al000 (al000 (cnw (by simp) rfl)), al000 (al000 (cnw (by simp) rfl)), al000 (al000 (cnw (by simp) rfl))⟩)
  clear T3
  have HWb := Lib.hid hWb
  clear hWb hbWb
  have hz1 : Wb.heap[W.heap.size + 1]? = some (.cells #[.int .i64 0, .int .i64 0, .slice none 0 0] 24) := by
    rw [← HWb.out, (balloc (bnil _) (.cells #[.int .i64 0, .slice none 0 0, .slice none 0 0] 47)).block _ (by simp)]
    have := heap_alloc_new (W.alloc (.cells #[.int .i64 w, .int .i64 h, .slice a n c] 24)) (.cells #[.int .i64 0, .int .i64 0, .slice none 0 0] 24)
    simpa using this
  have hz2 : Wb.heap[W.heap.size + 1 + 1]? = some (.cells #[.int .i64 0, .slice none 0 0, .slice none 0 0] 47) := by
    rw [← HWb.out]
    have := heap_alloc_new ((W.alloc (.cells #[.int .i64 w, .int .i64 h, .slice a n c] 24)).alloc (.cells #[.int .i64 0, .int .i64 0, .slice none 0 0] 24)) (.cells #[.int .i64 0, .slice none 0 0, .slice none 0 0] 47)
    simpa using this
  have hsz : W.heap.size + 1 + 1 + 1 = Wb.heap.size := by rw [← HWb.out]; simp
  have T5 := T4.add (fun wv => wv.heap[W.heap.size + 1]? = some (.cells #[.int .i64 0, .int .i64 0, .slice none 0 0] 24)) (hz1)
  clear T4
  have T6 := T5.add (fun wv => wv.heap[W.heap.size + 1 + 1]? = some (.cells #[.int .i64 0, .slice none 0 0, .slice none 0 0] 47)) (hz2)
  clear T5
  have HSZ := Lib.hid hsz
  clear hz1 hz2 hsz
  clear hR
  by_cases hpe : patchErr w h l ≠ none
  · skip
    have hd : patchD w h l = patchD w h l := rfl
    have ho : turnO w h l t = (0, 0, []) := by
      unfold turnO patchD
      cases he : patchErr w h l with
      | none => exact absurd he hpe
      | some e => rfl
    have hpd : patchD w h l ≠ none := by
      unfold patchD
      cases he : patchErr w h l with
      | none => exact absurd he hpe
      | some e => exact nofun
    have HOD := Lib.hid ho
    have HPD := Lib.hid hpd
    have HPE := Lib.hid hpe
    clear hd ho hpd hpe
    go_enter Tryd.func24, Tryd.ntmps24
    have v_p0 : (((W.alloc (.cells #[.int .i64 w, .int .i64 h, .slice a n c] 24)).alloc (.cells #[.int .i64 0, .int .i64 0, .slice none 0 0] 24)).alloc (.cells #[.int .i64 0, .slice none 0 0, .slice none 0 0] 47)).cell? ⟨W.heap.size, 0, none⟩ = some (.int .i64 w) := by rw [HWb.out]; exact T6.out.1.1.2.1
    have v_p1 : (((W.alloc (.cells #[.int .i64 w, .int .i64 h, .slice a n c] 24)).alloc (.cells #[.int .i64 0, .int .i64 0, .slice none 0 0] 24)).alloc (.cells #[.int .i64 0, .slice none 0 0, .slice none 0 0] 47)).cell? ⟨W.heap.size, 1, none⟩ = some (.int .i64 h) := by rw [HWb.out]; exact T6.out.1.1.2.2.1
    have v_p2 : (((W.alloc (.cells #[.int .i64 w, .int .i64 h, .slice a n c] 24)).alloc (.cells #[.int .i64 0, .int .i64 0, .slice none 0 0] 24)).alloc (.cells #[.int .i64 0, .slice none 0 0, .slice none 0 0] 47)).cell? ⟨W.heap.size, 2, none⟩ = some (.slice a n c) := by rw [HWb.out]; exact T6.out.1.1.2.2.2
    go_wp2_with fail
    rw [HWb.out]
    refine (refpcheck_er w h a n c l Wb T6.out.1.1.1.2.rk hm HPE.out).mono ?_; rintro e w1 ⟨N, a1, n1, c1, a2, n2, c2, rfl, hw, f1, f2, hN, hbw1⟩
    clear v_p0 v_p1 v_p2
    have T7 := T6.up hbw1
    clear T6
    have T8 := T7.add (fun wv => WC wv (.agg #[.int .i64 N, .slice a1 n1 c1, .slice a2 n2 c2]) (patchD w h l)) (hw)
    clear T7
    have HN := Lib.hid hN
    have HF := Lib.hid (And.intro f1 f2)
    clear hw f1 f2 hN
    obtain ⟨we, hwe⟩ : ∃ we, w1.alloc (.cells #[.int .i64 N, .slice a1 n1 c1, .slice a2 n2 c2] 47) = we := ⟨_, rfl⟩
    have hbwe : Below w1.heap.size w1 we := by rw [← hwe]; exact balloc (bnil w1) _
    have T9 := T8.up hbwe
    clear T8
    have T10 := T9.add (fun wv => wv.cell? ⟨w1.heap.size, 0, none⟩ = some (.int .i64 N) ∧ wv.cell? ⟨w1.heap.size, 1, none⟩ = some (.slice a1 n1 c1) ∧ wv.cell? ⟨w1.heap.size, 2, none⟩ = some (.slice a2 n2 c2)) (by rw [← hwe]; exact ⟨cnw (by simp) rfl, cnw (by simp) rfl, cnw (by simp) rfl⟩)
    clear T9
    have Hwe := Lib.hid hwe
    clear hwe hbwe
    have v_e0 : (w1.alloc (.cells #[.int .i64 N, .slice a1 n1 c1, .slice a2 n2 c2] 47)).cell? ⟨w1.heap.size, 0, none⟩ = some (.int .i64 N) := by rw [Hwe.out]; exact T10.out.2.1
    have v_e1 : (w1.alloc (.cells #[.int .i64 N, .slice a1 n1 c1, .slice a2 n2 c2] 47)).cell? ⟨w1.heap.size, 1, none⟩ = some (.slice a1 n1 c1) := by rw [Hwe.out]; exact T10.out.2.2.1
    have v_e2 : (w1.alloc (.cells #[.int .i64 N, .slice a1 n1 c1, .slice a2 n2 c2] 47)).cell? ⟨w1.heap.size, 2, none⟩ = some (.slice a2 n2 c2) := by rw [Hwe.out]; exact T10.out.2.2.2
    go_wp2_with fail
    rw [Hwe.out]
    refine (refBadE _ _ _ we true HN.out).mono ?_; rintro e w2 ⟨rfl, hbw2⟩
    clear v_e0 v_e1 v_e2
    have T11 := T10.up hbw2
    clear T10
    have hNs : (N != 0) = (patchD w h l).isSome := by rw [HN.out]; cases hq : patchD w h l with | none => exact absurd hq HPD.out | some z => rfl
    have v_e0 : w2.cell? ⟨w1.heap.size, 0, none⟩ = some (.int .i64 N) := T11.out.2.1
    have v_e1 : w2.cell? ⟨w1.heap.size, 1, none⟩ = some (.slice a1 n1 c1) := T11.out.2.2.1
    have v_e2 : w2.cell? ⟨w1.heap.size, 2, none⟩ = some (.slice a2 n2 c2) := T11.out.2.2.2
    obtain ⟨⟨q0, q1, q2⟩, f0, f1, f2⟩ := p_cells (T11.out.1.1.1.2)
    obtain ⟨⟨q3, q4, q5⟩, f3, f4, f5⟩ := p_cells (T11.out.1.1.2)
    obtain ⟨w9, e9, e9b, ⟨⟨r0, r1, r2⟩, r3, r4, r5⟩, hret⟩ := pr_err (show W.heap.size + 1 ≠ W.heap.size + 1 + 1 by omega) (T11.out.1.1.1.2) (T11.out.1.1.2) (show W.heap.size ≤ W.heap.size + 1 by omega) (show W.heap.size ≤ W.heap.size + 1 + 1 by omega) (T11.out.1.1.1.1.1.1.2) (B := Wb.heap.size) (by rw [← HSZ.out]; omega) (by rw [← HSZ.out]; omega) HF.out.1 HF.out.2 (T11.out.1.2) hNs
    have HRET := Lib.hid hret
    have HE9 := Lib.hid (And.intro e9 e9b)
    have HR9 := Lib.hid (And.intro r0 (And.intro r1 (And.intro r2 (And.intro r3 (And.intro r4 r5)))))
    clear hret e9 e9b r0 r1 r2 r3 r4 r5
    have sz1 := hbw1.size
    have sz0 := HSZ.out
    have ne1 : ¬ w1.heap.size = W.heap.size + 1 := by omega
    have ne2 : ¬ W.heap.size + 1 = w1.heap.size := by omega
    have ne3 : ¬ w1.heap.size = W.heap.size + 1 + 1 := by omega
    have ne4 : ¬ W.heap.size + 1 + 1 = w1.heap.size := by omega
    clear sz0 sz1
    go_wp2_with fail
    go_region
    all_goals
      go_wp2
      first | rw [HE9.out.1] | rw [HE9.out.2]
      have r0 := HR9.out.1
      have r1 := HR9.out.2.1
      have r2 := HR9.out.2.2.1
      have r3 := HR9.out.2.2.2.1
      have r4 := HR9.out.2.2.2.2.1
      have r5 := HR9.out.2.2.2.2.2
      refine bodyPost_ret (v := .tuple #[patV 0 0 none 0 0, .agg #[.int .i64 N, .slice a1 n1 c1, .slice a2 n2 c2]]) (by simp [results, Tryd.results24, go_sem, r0, r1, r2, r3, r4, r5]) rfl ?_
      rw [HOD.out]
      exact HRET.out.drew
  have he : patchErr w h l = none := Decidable.byContradiction hpe
  have hd : patchD w h l = none := by unfold patchD; rw [he]; rfl
  obtain ⟨w, h, rfl, rfl, hp⟩ := patchErr_none he
  obtain ⟨T, hT⟩ : ∃ T : Nat, t % 8 = (T : Int) := ⟨(t % 8).toNat, by omega⟩
  have hT8 : T < 8 := by omega
  have ho : turnO (w : Int) (h : Int) l t = (((turnW w h T : Nat) : Int), ((turnW h w T : Nat) : Int), turnL w h l T) := by unfold turnO; rw [if_pos hd, hT]; simp only [Int.toNat_natCast]
  have HOD := Lib.hid (And.intro ho hd)
  have HPP := Lib.hid hp
  obtain ⟨m, htm⟩ : ∃ m, t.tmod 8 = m := ⟨_, rfl⟩
  have ht8 := tmod8 t
  rw [htm, hT] at ht8
  have hm1 := ht8.2.1
  have hm2 := ht8.2.2
  have hmw : IntKind.i64.wrap m = m := IntWalk.i64_in _ (by omega)
  have hmw8 : IntKind.i64.wrap (m + 8) = m + 8 := IntWalk.i64_in _ (by omega)
  have hmT := ht8.1
  clear hpe he hd ho hp hT ht8
  rcases hmT with ⟨hn, hmT⟩ | ⟨hn, hmT⟩
  · skip
    have HMT := Lib.hid hmT
    clear hmT
    go_enter Tryd.func24, Tryd.ntmps24
    have v_p0 : (((W.alloc (.cells #[.int .i64 w, .int .i64 h, .slice a n c] 24)).alloc (.cells #[.int .i64 0, .int .i64 0, .slice none 0 0] 24)).alloc (.cells #[.int .i64 0, .slice none 0 0, .slice none 0 0] 47)).cell? ⟨W.heap.size, 0, none⟩ = some (.int .i64 w) := by rw [HWb.out]; exact T6.out.1.1.2.1
    have v_p1 : (((W.alloc (.cells #[.int .i64 w, .int .i64 h, .slice a n c] 24)).alloc (.cells #[.int .i64 0, .int .i64 0, .slice none 0 0] 24)).alloc (.cells #[.int .i64 0, .slice none 0 0, .slice none 0 0] 47)).cell? ⟨W.heap.size, 1, none⟩ = some (.int .i64 h) := by rw [HWb.out]; exact T6.out.1.1.2.2.1
    have v_p2 : (((W.alloc (.cells #[.int .i64 w, .int .i64 h, .slice a n c] 24)).alloc (.cells #[.int .i64 0, .int .i64 0, .slice none 0 0] 24)).alloc (.cells #[.int .i64 0, .slice none 0 0, .slice none 0 0] 47)).cell? ⟨W.heap.size, 2, none⟩ = some (.slice a n c) := by rw [HWb.out]; exact T6.out.1.1.2.2.2
    go_wp2_with fail
    rw [HWb.out]
    refine (refpcheck_ok w h a n c l Wb T6.out.1.1.1.2.rk hm HPP.out).mono ?_; rintro e w1 ⟨rfl, hbw1⟩
    clear v_p0 v_p1 v_p2
    have T7 := T6.up hbw1
    clear T6
    obtain ⟨we, hwe⟩ : ∃ we, w1.alloc (.cells #[.int .i64 0, .slice none 0 0, .slice none 0 0] 47) = we := ⟨_, rfl⟩
    have hbwe : Below w1.heap.size w1 we := by rw [← hwe]; exact balloc (bnil w1) _
    have T8 := T7.up hbwe
    clear T7
    have T9 := T8.add (fun wv => wv.cell? ⟨w1.heap.size, 0, none⟩ = some (.int .i64 0) ∧ wv.cell? ⟨w1.heap.size, 1, none⟩ = some (.slice none 0 0) ∧ wv.cell? ⟨w1.heap.size, 2, none⟩ = some (.slice none 0 0)) (by rw [← hwe]; exact ⟨cnw (by simp) rfl, cnw (by simp) rfl, cnw (by simp) rfl⟩)
    clear T8
    have Hwe := Lib.hid hwe
    clear hwe hbwe
    have v_e0 : (w1.alloc (.cells #[.int .i64 0, .slice none 0 0, .slice none 0 0] 47)).cell? ⟨w1.heap.size, 0, none⟩ = some (.int .i64 0) := by rw [Hwe.out]; exact T9.out.2.1
    have v_e1 : (w1.alloc (.cells #[.int .i64 0, .slice none 0 0, .slice none 0 0] 47)).cell? ⟨w1.heap.size, 1, none⟩ = some (.slice none 0 0) := by rw [Hwe.out]; exact T9.out.2.2.1
    have v_e2 : (w1.alloc (.cells #[.int .i64 0, .slice none 0 0, .slice none 0 0] 47)).cell? ⟨w1.heap.size, 2, none⟩ = some (.slice none 0 0) := by rw [Hwe.out]; exact T9.out.2.2.2
    go_wp2_with fail
    rw [Hwe.out]
    refine (refBadE _ _ _ we false rfl).mono ?_; rintro e w2 ⟨rfl, hbw2⟩
    clear v_e0 v_e1 v_e2
    have T10 := T9.up hbw2
    clear T9
    have HVL : Hid (W.heap.size + 1 + 1 < w2.heap.size) := heap_ltT (T10.out.1.2)
    have v_p0 : w2.cell? ⟨W.heap.size, 0, none⟩ = some (.int .i64 w) := T10.out.1.1.1.2.1
    have v_p1 : w2.cell? ⟨W.heap.size, 1, none⟩ = some (.int .i64 h) := T10.out.1.1.1.2.2.1
    have v_p2 : w2.cell? ⟨W.heap.size, 2, none⟩ = some (.slice a n c) := T10.out.1.1.1.2.2.2
    go_wp2_with fail
    rw [HMT.out]
    refine (refturned w h T a n c l w2 (T10.out.1.1.1.1.2) HPP.out hT8).mono ?_; rintro e w3 ⟨a3, n3, c3, rfl, ho3, hbw3⟩
    clear v_p0 v_p1 v_p2
    have T11 := T10.up hbw3
    clear T10
    have HO3 := Lib.hid ho3
    clear ho3
    obtain ⟨⟨q0, q1, q2⟩, f0, f1, f2⟩ := p_cells (T11.out.1.1.2)
    obtain ⟨⟨q3, q4, q5⟩, f3, f4, f5⟩ := p_cells (T11.out.1.2)
    obtain ⟨w9, e9, e9b, ⟨⟨r0, r1, r2⟩, r3, r4, r5⟩, hret⟩ := pr_ok (H := (turnW w h T : Nat)) (K := (turnW h w T : Nat)) (show W.heap.size + 1 ≠ W.heap.size + 1 + 1 by omega) (T11.out.1.1.2) (T11.out.1.2) (show W.heap.size ≤ W.heap.size + 1 by omega) (show W.heap.size ≤ W.heap.size + 1 + 1 by omega) (T11.out.1.1.1.1.1.2) (show W.heap.size + 1 < w2.heap.size by have := HVL.out; omega) (show W.heap.size + 1 + 1 < w2.heap.size from HVL.out) HO3.out
    have HRET := Lib.hid hret
    have HE9 := Lib.hid (And.intro e9 e9b)
    have HR9 := Lib.hid (And.intro r0 (And.intro r1 (And.intro r2 (And.intro r3 (And.intro r4 r5)))))
    clear hret e9 e9b r0 r1 r2 r3 r4 r5
    go_wp2_with fail
    first | rw [HE9.out.1] | rw [HE9.out.2]
    have r0 := HR9.out.1
    have r1 := HR9.out.2.1
    have r2 := HR9.out.2.2.1
    have r3 := HR9.out.2.2.2.1
    have r4 := HR9.out.2.2.2.2.1
    have r5 := HR9.out.2.2.2.2.2
    refine bodyPost_ret (v := .tuple #[patV (turnW w h T : Nat) (turnW h w T : Nat) a3 n3 c3, .agg #[.int .i64 0, .slice none 0 0, .slice none 0 0]]) (by simp [results, Tryd.results24, go_sem, r0, r1, r2, r3, r4, r5]) rfl ?_
    rw [HOD.out.1, HOD.out.2]
    exact HRET.out
  · skip
    subst hmT
    have hn0 : ¬ (T : Int) < 0 := by omega
    go_enter Tryd.func24, Tryd.ntmps24
    have v_p0 : (((W.alloc (.cells #[.int .i64 w, .int .i64 h, .slice a n c] 24)).alloc (.cells #[.int .i64 0, .int .i64 0, .slice none 0 0] 24)).alloc (.cells #[.int .i64 0, .slice none 0 0, .slice none 0 0] 47)).cell? ⟨W.heap.size, 0, none⟩ = some (.int .i64 w) := by rw [HWb.out]; exact T6.out.1.1.2.1
    have v_p1 : (((W.alloc (.cells #[.int .i64 w, .int .i64 h, .slice a n c] 24)).alloc (.cells #[.int .i64 0, .int .i64 0, .slice none 0 0] 24)).alloc (.cells #[.int .i64 0, .slice none 0 0, .slice none 0 0] 47)).cell? ⟨W.heap.size, 1, none⟩ = some (.int .i64 h) := by rw [HWb.out]; exact T6.out.1.1.2.2.1
    have v_p2 : (((W.alloc (.cells #[.int .i64 w, .int .i64 h, .slice a n c] 24)).alloc (.cells #[.int .i64 0, .int .i64 0, .slice none 0 0] 24)).alloc (.cells #[.int .i64 0, .slice none 0 0, .slice none 0 0] 47)).cell? ⟨W.heap.size, 2, none⟩ = some (.slice a n c) := by rw [HWb.out]; exact T6.out.1.1.2.2.2
    go_wp2_with fail
    rw [HWb.out]
    refine (refpcheck_ok w h a n c l Wb T6.out.1.1.1.2.rk hm HPP.out).mono ?_; rintro e w1 ⟨rfl, hbw1⟩
    clear v_p0 v_p1 v_p2
    have T7 := T6.up hbw1
    clear T6
    obtain ⟨we, hwe⟩ : ∃ we, w1.alloc (.cells #[.int .i64 0, .slice none 0 0, .slice none 0 0] 47) = we := ⟨_, rfl⟩
    have hbwe : Below w1.heap.size w1 we := by rw [← hwe]; exact balloc (bnil w1) _
    have T8 := T7.up hbwe
    clear T7
    have T9 := T8.add (fun wv => wv.cell? ⟨w1.heap.size, 0, none⟩ = some (.int .i64 0) ∧ wv.cell? ⟨w1.heap.size, 1, none⟩ = some (.slice none 0 0) ∧ wv.cell? ⟨w1.heap.size, 2, none⟩ = some (.slice none 0 0)) (by rw [← hwe]; exact ⟨cnw (by simp) rfl, cnw (by simp) rfl, cnw (by simp) rfl⟩)
    clear T8
    have Hwe := Lib.hid hwe
    clear hwe hbwe
    have v_e0 : (w1.alloc (.cells #[.int .i64 0, .slice none 0 0, .slice none 0 0] 47)).cell? ⟨w1.heap.size, 0, none⟩ = some (.int .i64 0) := by rw [Hwe.out]; exact T9.out.2.1
    have v_e1 : (w1.alloc (.cells #[.int .i64 0, .slice none 0 0, .slice none 0 0] 47)).cell? ⟨w1.heap.size, 1, none⟩ = some (.slice none 0 0) := by rw [Hwe.out]; exact T9.out.2.2.1
    have v_e2 : (w1.alloc (.cells #[.int .i64 0, .slice none 0 0, .slice none 0 0] 47)).cell? ⟨w1.heap.size, 2, none⟩ = some (.slice none 0 0) := by rw [Hwe.out]; exact T9.out.2.2.2
    go_wp2_with fail
    rw [Hwe.out]
    refine (refBadE _ _ _ we false rfl).mono ?_; rintro e w2 ⟨rfl, hbw2⟩
    clear v_e0 v_e1 v_e2
    have T10 := T9.up hbw2
    clear T9
    have HVL : Hid (W.heap.size + 1 + 1 < w2.heap.size) := heap_ltT (T10.out.1.2)
    have v_p0 : w2.cell? ⟨W.heap.size, 0, none⟩ = some (.int .i64 w) := T10.out.1.1.1.2.1
    have v_p1 : w2.cell? ⟨W.heap.size, 1, none⟩ = some (.int .i64 h) := T10.out.1.1.1.2.2.1
    have v_p2 : w2.cell? ⟨W.heap.size, 2, none⟩ = some (.slice a n c) := T10.out.1.1.1.2.2.2
    go_wp2_with fail
    refine (refturned w h T a n c l w2 (T10.out.1.1.1.1.2) HPP.out hT8).mono ?_; rintro e w3 ⟨a3, n3, c3, rfl, ho3, hbw3⟩
    clear v_p0 v_p1 v_p2
    have T11 := T10.up hbw3
    clear T10
    have HO3 := Lib.hid ho3
    clear ho3
    obtain ⟨⟨q0, q1, q2⟩, f0, f1, f2⟩ := p_cells (T11.out.1.1.2)
    obtain ⟨⟨q3, q4, q5⟩, f3, f4, f5⟩ := p_cells (T11.out.1.2)
    obtain ⟨w9, e9, e9b, ⟨⟨r0, r1, r2⟩, r3, r4, r5⟩, hret⟩ := pr_ok (H := (turnW w h T : Nat)) (K := (turnW h w T : Nat)) (show W.heap.size + 1 ≠ W.heap.size + 1 + 1 by omega) (T11.out.1.1.2) (T11.out.1.2) (show W.heap.size ≤ W.heap.size + 1 by omega) (show W.heap.size ≤ W.heap.size + 1 + 1 by omega) (T11.out.1.1.1.1.1.2) (show W.heap.size + 1 < w2.heap.size by have := HVL.out; omega) (show W.heap.size + 1 + 1 < w2.heap.size from HVL.out) HO3.out
    have HRET := Lib.hid hret
    have HE9 := Lib.hid (And.intro e9 e9b)
    have HR9 := Lib.hid (And.intro r0 (And.intro r1 (And.intro r2 (And.intro r3 (And.intro r4 r5)))))
    clear hret e9 e9b r0 r1 r2 r3 r4 r5
    go_wp2_with fail
    first | rw [HE9.out.1] | rw [HE9.out.2]
    have r0 := HR9.out.1
    have r1 := HR9.out.2.1
    have r2 := HR9.out.2.2.1
    have r3 := HR9.out.2.2.2.1
    have r4 := HR9.out.2.2.2.2.1
    have r5 := HR9.out.2.2.2.2.2
    refine bodyPost_ret (v := .tuple #[patV (turnW w h T : Nat) (turnW h w T : Nat) a3 n3 c3, .agg #[.int .i64 0, .slice none 0 0, .slice none 0 0]]) (by simp [results, Tryd.results24, go_sem, r0, r1, r2, r3, r4, r5]) rfl ?_
    rw [HOD.out.1, HOD.out.2]
    exact HRET.out
end Go.Proofs.YtnlpobkmjhajcaaDoor
namespace Go.Proofs.YtnlpobkmjhajcaaDoor
open Go.RowKit
set_option linter.unusedVariables false
set_option maxRecDepth 100000

def StrErr (R : Nat → Addr) (W : World) (s : List UInt8) (x : ErrD) (e : Ending) (w' : World) : Prop := ∃ ev, e = .returned (.tuple #[.string ⟨s.toArray⟩, ev]) ∧ EC R w' ev x ∧ Below W.heap.size W w'
theorem patchD_some {w h : Int} {l : List Int} {x : Int × Int} (he : patchErr w h l = some x) : patchD w h l = some ([(opPatch, x.1)], x.2) := by unfold patchD; rw [he]; rfl
theorem patchD_none {w h : Int} {l : List Int} (he : patchErr w h l = none) : patchD w h l = none := by unfold patchD; rw [he]; rfl
set_option maxHeartbeats 4000000 in
theorem text_er (w h : Int) (a : Option Addr) (n c : Nat) (l : List Int) (W : World) (R : Nat → Addr) (hS : Sent W R) (hR : RK .i64 W a n l) (hm : n ≤ maxLen) (hx : I64 l) (x : Int × Int) (he : patchErr w h l = some x) :
    Calls Tryd.prog 22 #[patV w h a n c] W (StrErr R W [] (some ([(opPatch, x.1)], x.2))) := by
  have T0 := Tk.nil W
  have T1 := T0.add (fun wv => Below W.heap.size W wv) (bnil W)
  clear T0
  have T2 := T1.add (fun wv => Sent wv R) (hS)
  clear T1
  have T3 := T2.add (fun wv => RK .i64 wv a n l) (hR)
  clear T2
  have HI6 := Lib.hid hx
  have HE := Lib.hid he
  clear hS hR hx he
  obtain ⟨Wb, hWb⟩ : ∃ Wb, W.alloc (.cells #[.int .i64 w, .int .i64 h, .slice a n c] 24) = Wb := ⟨_, rfl⟩
  have hbWb : Below W.heap.size W Wb := by rw [← hWb]; exact balloc (bnil W) _
  have T4 := T3.up hbWb
  clear T3
  have T5 := T4.add (fun wv => wv.cell? ⟨W.heap.size, 0, none⟩ = some (.int .i64 w) ∧ wv.cell? ⟨W.heap.size, 1, none⟩ = some (.int .i64 h) ∧ wv.cell? ⟨W.heap.size, 2, none⟩ = some (.slice a n c)) (by rw [← hWb]; exact ⟨cnw (by simp) rfl, cnw (by simp) rfl, cnw (by simp) rfl⟩)
  clear T4
  have HWb := Lib.hid hWb
  clear hWb hbWb
  go_enter Tryd.func22, Tryd.ntmps22
  have v_p0 : (W.alloc (.cells #[.int .i64 w, .int .i64 h, .slice a n c] 24)).cell? ⟨W.heap.size, 0, none⟩ = some (.int .i64 w) := by rw [HWb.out]; exact T5.out.2.1
  have v_p1 : (W.alloc (.cells #[.int .i64 w, .int .i64 h, .slice a n c] 24)).cell? ⟨W.heap.size, 1, none⟩ = some (.int .i64 h) := by rw [HWb.out]; exact T5.out.2.2.1
  have v_p2 : (W.alloc (.cells #[.int .i64 w, .int .i64 h, .slice a n c] 24)).cell? ⟨W.heap.size, 2, none⟩ = some (.slice a n c) := by rw [HWb.out]; exact T5.out.2.2.2
  go_wp2_with fail
  rw [HWb.out]
  refine (pcheck_er w h a n c l Wb R T5.out.1.1.2 T5.out.1.2 hm HI6.out x HE.out).mono ?_; rintro e w1 ⟨g, rfl, he1, hbw1⟩
  clear v_p0 v_p1 v_p2
  have T6 := T5.up hbw1
  clear T5
  have HEC := Lib.hid he1
  clear he1
  go_wp2
  go_ret2
  exact ⟨_, rfl, HEC.out, T6.out.1.1.1.2⟩


theorem text_any (w h : Int) (a : Option Addr) (n c : Nat) (l : List Int) (W : World) (R : Nat → Addr) (hS : Sent W R) (hR : RK .i64 W a n l) (hm : n ≤ maxLen) (hx : I64 l) :
    Calls Tryd.prog 22 #[patV w h a n c] W (StrErr R W (textO w h l) (patchD w h l)) := by
  cases he : patchErr w h l with
  | some x =>
    have hd := patchD_some he
    have ho : textO w h l = [] := by unfold textO; rw [hd]; rfl
    rw [hd, ho]
    exact text_er w h a n c l W R hS hR hm hx x he
  | none =>
    have hd := patchD_none he
    obtain ⟨w, h, rfl, rfl, hp⟩ := patchErr_none he
    have ho : textO (w : Int) (h : Int) l = textP w h l := by unfold textO; rw [if_pos hd]; simp only [Int.toNat_natCast]
    rw [hd, ho]
    refine (text_ok w h a n c l W R hS hR hm hx hp).mono ?_
    rintro e w' ⟨rfl, hb⟩
    exact ⟨_, rfl, rfl, hb⟩
theorem turn_any (w h t : Int) (a : Option Addr) (n c : Nat) (l : List Int) (W : World) (R : Nat → Addr) (hS : Sent W R) (hR : RK .i64 W a n l) (hm : n ≤ maxLen) (hx : I64 l) :
    Calls Tryd.prog 11 #[patV w h a n c, .int .i64 t] W (PatRet R W (turnO w h l t) (patchD w h l)) := by
  cases he : patchErr w h l with
  | some x =>
    have hd := patchD_some he
    have ho : turnO w h l t = (0, 0, []) := by unfold turnO; rw [hd]; rfl
    rw [hd, ho]
    exact (turn_errP w h t a n c l W R hS hR hm hx x he).mono fun _ _ h => h.ret
  | none =>
    have hd := patchD_none he
    obtain ⟨w, h, rfl, rfl, hp⟩ := patchErr_none he
    obtain ⟨T, hT⟩ : ∃ T : Nat, t % 8 = (T : Int) := ⟨(t % 8).toNat, by omega⟩
    have ho : turnO (w : Int) (h : Int) l t = (((turnW w h T : Nat) : Int), ((turnW h w T : Nat) : Int), turnL w h l T) := by unfold turnO; rw [if_pos hd, hT]; simp only [Int.toNat_natCast]
    rw [hd, ho]
    refine (turn_okP w h t a n c l W R hS hR hm hx hp T hT).mono ?_
    rintro e w' ⟨g, c', rfl, h1, hb⟩
    exact ⟨_, _, _, _, rfl, h1, rfl, hb⟩
theorem cut_any (w h x y p q : Int) (a : Option Addr) (n c : Nat) (l : List Int) (W : World) (R : Nat → Addr) (hS : Sent W R) (hR : RK .i64 W a n l) (hm : n ≤ maxLen) (hx : I64 l) :
    Calls Tryd.prog 13 #[patV w h a n c, .int .i64 x, .int .i64 y, .int .i64 p, .int .i64 q] W (PatRet R W (cutO w h l x y p q) (cutD w h l x y p q)) := by
  by_cases hd : cutD w h l x y p q = none
  · cases he : patchErr w h l with
    | some z =>
      have : cutD w h l x y p q = some ([(opPatch, z.1)], z.2) := by unfold cutD; rw [he]
      rw [this] at hd
      cases hd
    | none =>
      obtain ⟨w, h, rfl, rfl, hp⟩ := patchErr_none he
      have hd2 : (if withinB x p (w : Int) = false then (some ([(opPatch, 1)], 3) : ErrD) else if withinB y q (h : Int) = false then some ([(opPatch, 2)], 3) else none) = none := by
        have h2 := hd
        unfold cutD at h2
        rw [he] at h2
        exact h2
      by_cases h1 : withinB x p (w : Int) = false
      · rw [if_pos h1] at hd2; cases hd2
      rw [if_neg h1] at hd2
      by_cases h2 : withinB y q (h : Int) = false
      · rw [if_pos h2] at hd2; cases hd2
      obtain ⟨x0, p1, pw, xw⟩ := withinB_t2 h1
      obtain ⟨y0, q1, qh, yh⟩ := withinB_t2 h2
      obtain ⟨x, rfl⟩ : ∃ x' : Nat, x = (x' : Int) := ⟨x.toNat, by omega⟩
      obtain ⟨p, rfl⟩ : ∃ x' : Nat, p = (x' : Int) := ⟨p.toNat, by omega⟩
      obtain ⟨y, rfl⟩ : ∃ x' : Nat, y = (x' : Int) := ⟨y.toNat, by omega⟩
      obtain ⟨q, rfl⟩ : ∃ x' : Nat, q = (x' : Int) := ⟨q.toNat, by omega⟩
      have ho : cutO (w : Int) (h : Int) l x y p q = ((p : Int), (q : Int), cutL w l x y p q) := by unfold cutO; rw [if_pos hd]; simp only [Int.toNat_natCast]
      rw [ho, hd]
      refine (cut_okP w h x y p q a n c l W R hS hR hm hx hp (by omega) (by omega) (by omega) (by omega)).mono ?_
      rintro e w' ⟨g, c', rfl, h1, hb⟩
      exact ⟨_, _, _, _, rfl, h1, rfl, hb⟩
  · have ho : cutO w h l x y p q = (0, 0, []) := by unfold cutO; rw [if_neg hd]
    rw [ho]
    exact (cut_errP w h x y p q a n c l W R hS hR hm hx hd).mono fun _ _ h => h.ret
end Go.Proofs.YtnlpobkmjhajcaaDoor
