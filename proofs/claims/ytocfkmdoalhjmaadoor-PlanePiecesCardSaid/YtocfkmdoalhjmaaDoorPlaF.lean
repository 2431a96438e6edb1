/- The contract of plane.Text, for any numbers. -/
import Derived.Test.YtocfkmdoalhjmaaDoorPlaA
import Derived.Test.YtocfkmdoalhjmaaDoorPlaD
import Derived.Test.YtocfkmdoalhjmaaDoorPlaE
import Derived.Test.YtocfkmdoalhjmaaDoorSlEq
import Derived.Deep.RegionHeld3
import Derived.Deep.RegionLaw
import Derived.Laws.Concat
namespace Go.Proofs.YtocfkmdoalhjmaaDoor
open Go.RowKit
set_option linter.unusedVariables false
set_option maxRecDepth 100000

/-- the set of the numbers with which a cell (k: of 1) is 1 next, from the windows so far -/
def setsO (t : List Int) (k : Nat) : Nat → Nat
  | 0 => 0
  | i + 1 => if i / 16 % 2 = k then setsO t k i ||| ((t.getD i 0).toNat * 2 ^ aboutN i) else setsO t k i
theorem setsO_lt {t : List Int} (ht : IsTab t) (k : Nat) : ∀ i, i ≤ 512 → setsO t k i < 512
  | 0, _ => by simp [setsO]
  | i + 1, h => by
    have ih := setsO_lt ht k i (by omega)
    unfold setsO
    split
    · have hx : t.getD i 0 = 0 ∨ t.getD i 0 = 1 := by
        have hi : i < t.length := by rw [ht.len]; omega
        rw [show t.getD i 0 = t[i] by simp [hi]]
        exact ht.sym _ (List.getElem_mem hi)
      have h8 := (andNot16 ⟨i, by omega⟩).2.2.2
      simp only at h8
      have hp : 2 ^ aboutN i ≤ 2 ^ 8 := Nat.pow_le_pow_right (by omega) h8
      have h9 : (2 : Nat) ^ 8 = 256 := by decide
      refine Nat.or_lt_two_pow (n := 9) ih ?_
      have hm : (t.getD i 0).toNat ≤ 1 := by omega
      have := Nat.mul_le_mul_right (2 ^ aboutN i) hm
      have h10 : (2 : Nat) ^ 9 = 512 := by decide
      omega
    · exact ih
def setB (t : List Int) : Nat := setsO t 0 512
def setS (t : List Int) : Nat := setsO t 1 512
def counts (t : List Int) : Bool := decide (tabOf (setB t) (setS t) = t)
/-- a table's text -/
def tbS (t : List Int) : ByteArray := (⟨#[66]⟩ : ByteArray) ++ ⟨(digsN (setB t)).toArray⟩ ++ ⟨#[47, 83]⟩ ++ ⟨(digsN (setS t)).toArray⟩
def plTextS (t : List Int) : ByteArray := if tabD t = none ∧ counts t = true then tbS t else ⟨#[]⟩
def plTextB (t : List Int) : Bool := decide (tabD t = none) && counts t
def TxtRet (R : Nat → Addr) (W : World) (s : ByteArray) (b : Bool) (x : ErrD) (e : Ending) (w' : World) : Prop := ∃ ev, e = .returned (.tuple #[.string s, .bool b, ev]) ∧ EC R w' ev x ∧ Below W.heap.size W w'
/-- two numbers in a block -/
abbrev P2 (w : World) (g : Nat) (a b : Int) : Prop := w.heap[g]? = some (.cells #[.int .i64 a, .int .i64 b] 94)
theorem p2_cells {w : World} {g : Nat} {a b : Int} (h : P2 w g a b) : (w.cell? ⟨g, 0, none⟩ = some (.int .i64 a) ∧ w.cell? ⟨g, 1, none⟩ = some (.int .i64 b)) ∧ w.frozen? ⟨g, 0, none⟩ = false ∧ w.frozen? ⟨g, 1, none⟩ = false := by
  have h2 : w.heap[g]? = _ := h
  simp [World.cell?, World.frozen?, h2]
theorem P2.set0 {w : World} {g : Nat} {a b : Int} (h : P2 w g a b) (u : Int) : P2 (w.setCell ⟨g, 0, none⟩ (.int .i64 u)) g u b := by
  have h2 : w.heap[g]? = _ := h
  show (w.setCell ⟨g, 0, none⟩ (.int .i64 u)).heap[g]? = _
  simp [World.setCell, Array.getElem?_modify, h2]
theorem P2.set1 {w : World} {g : Nat} {a b : Int} (h : P2 w g a b) (u : Int) : P2 (w.setCell ⟨g, 1, none⟩ (.int .i64 u)) g a u := by
  have h2 : w.heap[g]? = _ := h
  show (w.setCell ⟨g, 1, none⟩ (.int .i64 u)).heap[g]? = _
  simp [World.setCell, Array.getElem?_modify, h2]
set_option maxHeartbeats 16000000 in
theorem pltext_any (a : Option Addr) (n c : Nat) (t : List Int) (W : World) (R : Nat → Addr) (hS : Sent W R) (hR : RK .i64 W a n t) (hm : n ≤ maxLen) :
    Calls Tryd.prog 30 #[.slice a n c] W (TxtRet R W (plTextS t) (plTextB t) (tabD t)) := by
  have T0 := Tk.nil W
  have T1 := T0.add (fun wv => Below W.heap.size W wv) (bnil W)
  clear T0
  have T2 := T1.add (fun wv => Sent wv R) (hS)
  clear T1
  have T3 := T2.add (fun wv => RK .i64 wv a n t) (hR)
  clear T2
  clear hS hR
  by_cases hd : tabD t ≠ none
  · skip
    have h1 : plTextS t = ⟨#[]⟩ := by unfold plTextS; rw [if_neg (fun h => hd h.1)]
    have h2 : plTextB t = false := by unfold plTextB; rw [decide_eq_false hd]; rfl
    have HOD := Lib.hid (And.intro h1 h2)
    have HD := Lib.hid hd
    clear h1 h2 hd
    go_enter Tryd.func30, Tryd.ntmps30
    go_wp2_with fail
    refine (plcheck_er a n c t W R T3.out.1.2 T3.out.2 hm HD.out).mono ?_; rintro e w1 ⟨g, rfl, he, hbw1⟩
    have T4 := T3.up hbw1
    clear T3
    have HE := Lib.hid he
    clear he
    go_wp2
    go_ret3
    rw [HOD.out.1, HOD.out.2]
    exact ⟨_, rfl, HE.out, T4.out.1.1.2⟩
  have hd0 : tabD t = none := Decidable.byContradiction hd
  have hT := tabD_none hd0
  have HT := Lib.hid hT
  have HD := Lib.hid hd0
  obtain rfl : n = 512 := by have h1 := (T3.out.2).len; rw [hT.len] at h1; exact h1
  clear hd hd0 hT
  go_enter Tryd.func30, Tryd.ntmps30
  go_wp2_with fail
  refine (plcheck_ok a 512 c t W R T3.out.1.2 T3.out.2 hm HT.out).mono ?_; rintro e w1 ⟨rfl, hbw1⟩
  have T4 := T3.up hbw1
  clear T3
  go_wp2_with fail
  obtain ⟨g, hg⟩ : ∃ g, w1.heap.size = g := ⟨_, rfl⟩
  obtain ⟨w2, hw2⟩ : ∃ w2, w1.alloc (.cells #[.int .i64 0, .int .i64 0] 94) = w2 := ⟨_, rfl⟩
  have HZ0 : Hid (P2 w2 g (setsO t 0 0 : Nat) (setsO t 1 0 : Nat)) := by show P2 w2 g 0 0; rw [← hw2, ← hg]; exact heap_alloc_new w1 _
  have HB0 : Hid (Below g w1 w2) := by rw [← hw2, ← hg]; exact balloc (bnil w1) _
  have HG := Lib.hid hg
  rw [hw2, hg]
  clear hw2 hg
  go_loopw [16] (fun ix wr => ∃ i : Nat, i ≤ 512 ∧ ix = .int .i64 i ∧ P2 wr g (setsO t 0 i : Nat) (setsO t 1 i : Nat) ∧ Below g w1 wr) (fun ix _ => 512 - (intOf ix).toNat)
  case atStart => exact ⟨0, by omega, rfl, HZ0.out, HB0.out⟩
  case round =>
    obtain ⟨i, hi, rfl, hz, hb⟩ := hrel
    have HZ := Lib.hid hz
    have HB := Lib.hid hb
    clear hz
    have hbw : Below w1.heap.size w1 wr := by rw [HG.out]; exact hb
    clear hb
    generalize wr = wo at *
    by_cases hin : i < 512
    · skip
      have T5 := T4.up hbw
      clear T4
      clear hbw
      obtain ⟨ab, ao, hab0, hab, hcell⟩ := (T5.out.2).addr (by omega)
      subst hab0
      have z0 := hcell i hin
      have hx : t.getD i 0 = 0 ∨ t.getD i 0 = 1 := by
        have hil : i < t.length := by rw [HT.out.len]; exact hin
        rw [show t.getD i 0 = t[i] by simp [hil]]
        exact HT.out.sym _ (List.getElem_mem hil)
      obtain ⟨X, hX⟩ : ∃ X : Nat, (t.getD i 0).toNat = X := ⟨_, rfl⟩
      have hXI : t.getD i 0 = (X : Int) := by omega
      have hX1 : X ≤ 1 := by omega
      rw [hXI] at z0
      obtain ⟨_, h2, _, h8⟩ := andNot16 ⟨i, hin⟩
      simp only at h2 h8
      have hb0 := setsO_lt HT.out 0 i (by omega)
      have hb1 := setsO_lt HT.out 1 i (by omega)
      have hn0 : setsO t 0 (i + 1) = if i / 16 % 2 = 0 then setsO t 0 i ||| (X * 2 ^ aboutN i) else setsO t 0 i := by rw [← hX]; rfl
      have hn1 : setsO t 1 (i + 1) = if i / 16 % 2 = 1 then setsO t 1 i ||| (X * 2 ^ aboutN i) else setsO t 1 i := by rw [← hX]; rfl
      obtain ⟨k, hk⟩ : ∃ k, aboutN i = k := ⟨_, rfl⟩
      rw [hk] at h8 hn0 hn1
      have HK := Lib.hid hk
      have hpow : 2 ^ k ≤ 256 := by
        have := Nat.pow_le_pow_right (n := 2) (by omega) h8
        have h9 : (2 : Nat) ^ 8 = 256 := by decide
        omega
      obtain ⟨Y, hY⟩ : ∃ Y, X * 2 ^ k = Y := ⟨_, rfl⟩
      have hY2 : Y ≤ 256 := by
        rw [← hY]
        have := Nat.mul_le_mul_right (2 ^ k) hX1
        omega
      have hYI : (X : Int) * 2 ^ k = (Y : Int) := by rw [← hY, Int.natCast_mul, Int.natCast_pow]; rfl
      have hYw : IntKind.i64.wrap (Y : Int) = (Y : Int) := IntWalk.i64_in _ (by omega)
      rw [hY] at hn0 hn1
      have k0 : (0 : Int) ≤ (k : Int) := by omega
      have k1 : (k : Int) ≤ 64 := by omega
      have i0 : (0 : Int) ≤ (i : Int) := by omega
      have i1 : (i : Int) < 512 := by omega
      obtain ⟨⟨u0, u1⟩, g0, g1⟩ := p2_cells HZ.out
      have hz := HZ.out
      generalize setsO t 0 i = A at *
      generalize setsO t 1 i = C at *
      clear hcell hx hX hXI hk hY
      by_cases hmid : i / 16 % 2 = 1
      · skip
        rw [hmid] at h2
        rw [if_neg (by omega)] at hn0
        rw [if_pos hmid] at hn1
        have hq1 : IntKind.i64.wrap 1 = 1 := by decide
        have h2b : bits .and .i64 (i : Int) 16 = 16 := h2
        have hor : bits .or .i64 (C : Int) (Y : Int) = ((C ||| Y : Nat) : Int) := or_i64 (by omega) (by omega)
        obtain ⟨Z, hZ⟩ : ∃ Z, C ||| Y = Z := ⟨_, rfl⟩
        rw [hZ] at hor hn1
        have hz2 := hz.set1 (Z : Int)
        have HZ2 : Hid (P2 (wo.setCell ⟨g, 1, none⟩ (.int .i64 (Z : Int))) g (setsO t 0 (i + 1) : Nat) (setsO t 1 (i + 1) : Nat)) := by rw [hn0, hn1]; exact hz2
        have HB2 := Lib.hid (HB.out.setCell (p := ⟨g, 1, none⟩) (Nat.le_refl g) (.int .i64 (Z : Int)))
        clear hz hz2 hn0 hn1 hZ h2 hmid
        go_wp2_with fail
        go_region_law (first
          | (go_simp; go_at_call 72; refine (about_any i hin _).mono ?_; rintro e w3 ⟨rfl, rfl⟩; rw [HK.out]))
        all_goals
          go_wp2
          go_roundw
          case rel => exact ⟨i + 1, by omega, by go_num, HZ2.out, by first | exact HB2.out | exact Below.drew HB2.out⟩
          case measure => simp [intOf]; omega
      · skip
        have hmid0 : i / 16 % 2 = 0 := by omega
        rw [hmid0] at h2
        rw [if_pos hmid0] at hn0
        rw [if_neg hmid] at hn1
        have hq1 : IntKind.i64.wrap 0 = 0 := by decide
        have h2b : bits .and .i64 (i : Int) 16 = 0 := h2
        have hor : bits .or .i64 (A : Int) (Y : Int) = ((A ||| Y : Nat) : Int) := or_i64 (by omega) (by omega)
        obtain ⟨Z, hZ⟩ : ∃ Z, A ||| Y = Z := ⟨_, rfl⟩
        rw [hZ] at hor hn0
        have hz2 := hz.set0 (Z : Int)
        have HZ2 : Hid (P2 (wo.setCell ⟨g, 0, none⟩ (.int .i64 (Z : Int))) g (setsO t 0 (i + 1) : Nat) (setsO t 1 (i + 1) : Nat)) := by rw [hn0, hn1]; exact hz2
        have HB2 := Lib.hid (HB.out.setCell (p := ⟨g, 0, none⟩) (Nat.le_refl g) (.int .i64 (Z : Int)))
        clear hz hz2 hn0 hn1 hZ h2 hmid
        go_wp2_with fail
        go_region_law (first
          | (go_simp; go_at_call 72; refine (about_any i hin _).mono ?_; rintro e w3 ⟨rfl, rfl⟩; rw [HK.out]))
        all_goals
          go_wp2
          go_roundw
          case rel => exact ⟨i + 1, by omega, by go_num, HZ2.out, by first | exact HB2.out | exact Below.drew HB2.out⟩
          case measure => simp [intOf]; omega
    · skip
      have T5 := T4.up hbw
      clear T4
      obtain rfl : i = 512 := by omega
      obtain ⟨⟨u0, u1⟩, g0, g1⟩ := p2_cells HZ.out
      have hb0 := setsO_lt HT.out 0 512 (Nat.le_refl _)
      have hb1 := setsO_lt HT.out 1 512 (Nat.le_refl _)
      have e0 : setsO t 0 512 = setB t := rfl
      have e1 : setsO t 1 512 = setS t := rfl
      rw [e0] at u0 hb0
      rw [e1] at u1 hb1
      obtain ⟨s0, hs0⟩ : ∃ s0, setB t = s0 := ⟨_, rfl⟩
      obtain ⟨s1, hs1⟩ : ∃ s1, setS t = s1 := ⟨_, rfl⟩
      rw [hs0] at u0 hb0
      rw [hs1] at u1 hb1
      have HS01 := Lib.hid (And.intro hs0 hs1)
      clear e0 e1 hs0 hs1 HZ
      have T6 := T5.add (fun wv => wv.cell? ⟨g, 0, none⟩ = some (.int .i64 s0) ∧ wv.cell? ⟨g, 1, none⟩ = some (.int .i64 s1)) (⟨u0, u1⟩)
      clear T5
      clear hbw
      go_wp2_with fail
      refine (counted_any s0 s1 hb0 hb1 wo).mono ?_; rintro e w5 ⟨g5, c5, rfl, ho5, hbw5⟩
      clear u0 u1 g0 g1
      have T7 := T6.up hbw5
      clear T6
      have HO5 := Lib.hid ho5.rk
      clear ho5
      go_wp2_with fail
      refine (slEq_any (some ⟨g5, 0, none⟩) a 512 512 c5 c (tabOf s0 s1) t w5 HO5.out T7.out.1.2 (by unfold maxLen; omega) hm).mono ?_; rintro e w6 ⟨rfl, m6, rfl⟩
      obtain ⟨wd, hwd⟩ : ∃ wd, w5.drewN m6 = wd := ⟨_, rfl⟩
      have hbd : Below w5.heap.size w5 wd := by rw [← hwd]; exact bdrewN (bnil w5) m6
      rw [hwd]
      clear hwd
      have T8 := T7.up hbd
      clear T7
      clear hbd
      by_cases heq : tabOf s0 s1 = t
      · skip
        have hcnt : counts t = true := by unfold counts; rw [HS01.out.1, HS01.out.2]; exact decide_eq_true heq
        have h1 : plTextS t = (⟨#[66]⟩ : ByteArray) ++ ⟨(digsN s0).toArray⟩ ++ ⟨#[47, 83]⟩ ++ ⟨(digsN s1).toArray⟩ := by unfold plTextS; rw [if_pos ⟨HD.out, hcnt⟩]; unfold tbS; rw [HS01.out.1, HS01.out.2]
        have h2 : plTextB t = true := by unfold plTextB; rw [decide_eq_true HD.out, hcnt]; rfl
        have HOD := Lib.hid (And.intro h1 h2)
        have heqb : decide (tabOf s0 s1 = t) = true := decide_eq_true heq
        rw [heqb]
        clear h1 h2 hcnt heq heqb
        have HS0 : Hid (wd.drew.cell? ⟨g, 0, none⟩ = some (.int .i64 s0) ∧ wd.drew.cell? ⟨g, 1, none⟩ = some (.int .i64 s1)) := ⟨T8.out.2.1, T8.out.2.2⟩
        obtain ⟨d0, hd0⟩ : ∃ d, (⟨(digsN s0).toArray⟩ : ByteArray) = d := ⟨_, rfl⟩
        obtain ⟨d1, hd1⟩ : ∃ d, (⟨(digsN s1).toArray⟩ : ByteArray) = d := ⟨_, rfl⟩
        have n0 := fun w => numbers_any s0 hb0 w
        have n1 := fun w => numbers_any s1 hb1 w
        have hod := HOD.out
        rw [hd0, hd1] at hod
        rw [hd0] at n0
        rw [hd1] at n1
        have HOD2 := Lib.hid hod
        have hz0 : d0.size ≤ 9 := by rw [← hd0]; have := digsTo_len s0 9; simpa [digsN, ByteArray.size] using this
        have hz1 : d1.size ≤ 9 := by rw [← hd1]; have := digsTo_len s1 9; simpa [digsN, ByteArray.size] using this
        have c1 : (⟨#[66]⟩ : ByteArray).size = 1 := rfl
        have c2 : (⟨#[47, 83]⟩ : ByteArray).size = 2 := rfl
        have ka := fun w : World => run_string_add_sum (P := Tryd.prog) w ⟨#[66]⟩ d0 (by omega)
        have kb := fun w : World => run_string_add_sum (P := Tryd.prog) w (⟨#[66]⟩ ++ d0) ⟨#[47, 83]⟩ (by rw [ByteArray.size_append]; omega)
        have kc := fun w : World => run_string_add_sum (P := Tryd.prog) w (⟨#[66]⟩ ++ d0 ++ ⟨#[47, 83]⟩) d1 (by rw [ByteArray.size_append, ByteArray.size_append]; omega)
        clear c1 c2 hz0 hz1
        have HN := Lib.hid (And.intro n0 n1)
        clear n0 n1 hod hd0 hd1
        go_wp2_with fail
        go_region_held3 (fun w' => w'.cell? ⟨g, 0, none⟩ = some (.int .i64 s0) ∧ w'.cell? ⟨g, 1, none⟩ = some (.int .i64 s1))
          (first | with_reducible exact HS8.out | with_reducible exact HS7.out | with_reducible exact HS0.out | go_keep)
          (first
            | (go_at_call_of 74 (Value.int IntKind.i64 (s1 : Int)); have q := HD7; clear q; refine (HN.out.2 _).mono ?_; rintro e w8 ⟨rfl, hb8⟩; have HD8 := Lib.hid (bstep HD7.out hb8); have HS8 := Lib.hid (And.intro (cpa hb8 (HS7.out).1) (cpa hb8 (HS7.out).2)); clear hb8)
            | (go_at_call_of 74 (Value.int IntKind.i64 (s0 : Int)); refine (HN.out.1 _).mono ?_; rintro e w7 ⟨rfl, hb7⟩; have HD7 := Lib.hid hb7; have HS7 := Lib.hid (And.intro (cpa hb7 (HS0.out).1) (cpa hb7 (HS0.out).2)); clear hb7))
        go_wp2
        go_ret3
        rw [HOD2.out.1, HOD2.out.2, HD.out]
        exact ⟨_, rfl, rfl, (T8.out.1.1.1.2).trans (((Below.drew (bnil wd)).trans HD8.out).mono (T8.out.1.1.1.2).size)⟩
      · skip
        have hcnt : counts t = false := by unfold counts; rw [HS01.out.1, HS01.out.2]; exact decide_eq_false heq
        have h1 : plTextS t = ⟨#[]⟩ := by unfold plTextS; rw [if_neg (fun h => by rw [hcnt] at h; exact absurd h.2 (by decide))]
        have h2 : plTextB t = false := by unfold plTextB; rw [hcnt, Bool.and_false]
        have HOD := Lib.hid (And.intro h1 h2)
        have heqb : decide (tabOf s0 s1 = t) = false := decide_eq_false heq
        rw [heqb]
        clear h1 h2 hcnt heq heqb
        go_wp2
        go_ret3
        rw [HOD.out.1, HOD.out.2, HD.out]
        exact ⟨_, rfl, rfl, T8.out.1.1.1.2⟩
end Go.Proofs.YtocfkmdoalhjmaaDoor
