/- The contract of plane.Life, for any text. -/
import Derived.Test.YtocfkmdoalhjmaaDoorPlaC
import Derived.Test.YtocfkmdoalhjmaaDoorPatM
import Derived.Deep.RegionHeld3
namespace Go.Proofs.YtocfkmdoalhjmaaDoor
open Go.RowKit
set_option linter.unusedVariables false
set_option maxRecDepth 100000

def lifeR (s : ByteArray) : Except Nat (Nat × Nat) := lifeRun s.data.toList 0 0 0 0 0
def lifeD (s : ByteArray) : ErrD := if 32 < s.size then some ([(opPlane, 0)], 4) else match lifeR s with
  | .error i => some ([(opPlane, (i : Int))], 6)
  | .ok _ => none
def lifeO (s : ByteArray) : List Int := if lifeD s = none then match lifeR s with
  | .error _ => []
  | .ok x => tabOf x.1 x.2 else []
theorem RdSt.start0 : RdSt 0 0 0 0 := ⟨by omega, by omega, by omega, by omega, by omega, (fun h => by omega), (fun h => by omega), fun _ => ⟨rfl, rfl⟩, (fun h => by omega), (fun h => by omega)⟩
/-- the reader at a place -/
structure LfS (RR : Except Nat (Nat × Nat)) (l : List UInt8) (i st : Nat) (last : Int) (s0 s1 : Nat) : Prop where
  run : lifeRun (l.drop i) i st last s0 s1 = RR
  rd : RdSt st last s0 s1
theorem LfS.next {RR : Except Nat (Nat × Nat)} {l : List UInt8} {i st s0 s1 : Nat} {last : Int} {c : UInt8} {r : Nat × Int × Nat × Nat} (h : LfS RR l i st last s0 s1) (hi : i < l.length) (hc : l[i] = c) (hr : takeF st last s0 s1 c = some r) : LfS RR l (i + 1) r.1 r.2.1 r.2.2.1 r.2.2.2 := by
  refine ⟨?_, take_next h.rd hr⟩
  have h1 := h.run
  rw [List.drop_eq_getElem_cons hi, hc, lifeRun, hr] at h1
  exact h1
theorem LfS.bad {RR : Except Nat (Nat × Nat)} {l : List UInt8} {i st s0 s1 : Nat} {last : Int} {c : UInt8} (h : LfS RR l i st last s0 s1) (hi : i < l.length) (hc : l[i] = c) (hr : takeF st last s0 s1 c = none) : RR = .error i := by
  have h1 := h.run
  rw [List.drop_eq_getElem_cons hi, hc, lifeRun, hr] at h1
  exact h1.symm
theorem LfS.fin {RR : Except Nat (Nat × Nat)} {l : List UInt8} {st s0 s1 : Nat} {last : Int} (h : LfS RR l l.length st last s0 s1) : RR = if st = 3 then .ok (s0, s1) else .error l.length := by
  have h1 := h.run
  rw [List.drop_of_length_le (Nat.le_refl _), lifeRun] at h1
  exact h1.symm
theorem lifeD_er {s : ByteArray} {i : Nat} (h : ¬ 32 < s.size) (hr : lifeR s = .error i) : lifeD s = some ([(opPlane, (i : Int))], 6) ∧ lifeO s = [] := by
  have hd : lifeD s = some ([(opPlane, (i : Int))], 6) := by unfold lifeD; rw [if_neg h, hr]
  exact ⟨hd, by unfold lifeO; rw [if_neg (by rw [hd]; exact nofun)]⟩
theorem lifeD_ok {s : ByteArray} {a b : Nat} (h : ¬ 32 < s.size) (hr : lifeR s = .ok (a, b)) : lifeD s = none ∧ lifeO s = tabOf a b := by
  have hd : lifeD s = none := by unfold lifeD; rw [if_neg h, hr]
  exact ⟨hd, by unfold lifeO; rw [if_pos hd, hr]⟩
set_option maxHeartbeats 16000000 in
theorem life_any (s : ByteArray) (W : World) (R : Nat → Addr) (hS : Sent W R) : Calls Tryd.prog 16 #[.string s] W (IntsErr R W (lifeO s) (lifeD s)) := by
  have T0 := Tk.nil W
  have T1 := T0.add (fun wv => Below W.heap.size W wv) (bnil W)
  clear T0
  have T2 := T1.add (fun wv => Sent wv R) (hS)
  clear T1
  clear hS
  by_cases hbig : 32 < s.size
  · skip
    have hd : lifeD s = some ([(opPlane, 0)], 4) := by unfold lifeD; rw [if_pos hbig]
    have ho : lifeO s = [] := by unfold lifeO; rw [if_neg (by rw [hd]; exact nofun)]
    have HOD := Lib.hid (And.intro ho hd)
    have hbI : (32 : Int) < (s.size : Int) := by omega
    clear hd ho hbig
    go_enter Tryd.func16, Tryd.ntmps16
    go_wp2_with fail
    refine (plane_wrong _ _ _ R (T2.out.2).glob rfl).mono ?_; rintro e wx ⟨rfl, rfl⟩
    go_wp2
    go_ret2
    rw [HOD.out.1, HOD.out.2]
    exact ⟨none, 0, 0, _, rfl, OwI.nil _ _, ec_err ((T2.out.2).up (balloc (bnil _) _)) (isErr_new (Nat.le_refl _)), balloc (T2.out.1.2) _⟩
  have hsm : s.size ≤ 32 := by omega
  have HBG := Lib.hid hbig
  obtain ⟨l, hl⟩ : ∃ l, s.data.toList = l := ⟨_, rfl⟩
  have hln : l.length = s.size := by rw [← hl]; simp
  have hlc : ∀ q (hq : q < s.size) (hq2 : q < l.length), l[q] = s[q] := by intro q hq hq2; subst hl; rfl
  obtain ⟨RR, hRR⟩ : ∃ RR, lifeR s = RR := ⟨_, rfl⟩
  have hst : LfS RR l 0 0 0 0 0 := ⟨by rw [← hRR, ← hl]; rfl, RdSt.start0⟩
  have HST := Lib.hid hst
  have HLN := Lib.hid hln
  have HLC := Lib.hid hlc
  have HRR := Lib.hid hRR
  clear hst hln hlc hl hRR hbig
  go_enter Tryd.func16, Tryd.ntmps16
  go_wp2_with fail
  obtain ⟨g, hg⟩ : ∃ g, W.heap.size = g := ⟨_, rfl⟩
  obtain ⟨Wb, hWb⟩ : ∃ Wb, W.alloc (.cells #[.int .i64 0, .int .i64 0, .int .i64 0, .int .i64 0] 96) = Wb := ⟨_, rfl⟩
  have HZ0 : Hid (RB Wb g 0 0 0 0) := by show RB Wb g 0 0 0 0; rw [← hWb, ← hg]; exact heap_alloc_new W _
  have HB0 : Hid (Below g W Wb) := by rw [← hWb, ← hg]; exact balloc (bnil W) _
  have HG := Lib.hid hg
  rw [hWb, hg]
  clear hWb hg
  go_loopw [14] (fun ix wr => ∃ (i st s0 s1 : Nat) (last : Int), i ≤ s.size ∧ ix = .int .i64 i ∧ LfS RR l i st last s0 s1 ∧ RB wr g st last s0 s1 ∧ Below g W wr) (fun ix _ => s.size - (intOf ix).toNat)
  case atStart => exact ⟨0, 0, 0, 0, 0, by omega, rfl, HST.out, HZ0.out, HB0.out⟩
  case round =>
    obtain ⟨i, st, s0, s1, last, hi, rfl, hst, hz, hb⟩ := hrel
    have HS := Lib.hid hst
    have HZ := Lib.hid hz
    have HB := Lib.hid hb
    clear hst hz
    generalize wr = wo at *
    by_cases hin : i < s.size
    · skip
      have jI : (i : Int) < (s.size : Int) := by omega
      have j0 : (0 : Int) ≤ (i : Int) := by omega
      have hil : i < l.length := by have := HLN.out; omega
      obtain ⟨c, hc⟩ : ∃ c, s[i] = c := ⟨_, rfl⟩
      have hlc : l[i] = c := by rw [HLC.out i hin hil, hc]
      have hcn : s[i].toNat = c.toNat := by rw [hc]
      cases htk : takeF st last s0 s1 c with
      | some r =>
        have HN := Lib.hid (HS.out.next hil hlc htk)
        have HT := Lib.hid htk
        have HCN := Lib.hid hcn
        clear hb hlc htk hc hcn
        go_wp2_with fail
        rw [HCN.out]
        refine (take_some g st s0 s1 last c wo HZ.out HS.out.rd r HT.out).mono ?_; rintro e w3 ⟨rfl, hz3, hb3, hs3⟩
        have HZ3 := Lib.hid hz3
        have HB3 := Lib.hid (HB.out.trans hb3)
        clear hz3 hb3 hs3
        go_wp2
        go_roundw
        case rel => exact ⟨i + 1, r.1, r.2.2.1, r.2.2.2, r.2.1, by omega, by go_num, HN.out, HZ3.out, HB3.out⟩
        case measure => simp [intOf]; omega
      | none =>
        have hrr := HS.out.bad hil hlc htk
        have hdo := lifeD_er HBG.out (HRR.out.trans hrr)
        have HOD := Lib.hid (And.intro hdo.2 hdo.1)
        have HT := Lib.hid htk
        have HCN := Lib.hid hcn
        clear hb hlc htk hc hcn hrr hdo
        go_wp2_with fail
        rw [HCN.out]
        refine (take_none g st s0 s1 last c wo HZ.out HS.out.rd HT.out).mono ?_; rintro e w3 ⟨rfl, hb3, hs3⟩
        have hbw : Below W.heap.size W w3 := by rw [HG.out]; exact HB.out.trans hb3
        have T3 := T2.up hbw
        clear T2
        clear hbw hb3 hs3
        go_wp2_with fail
        refine (plane_wrong _ _ _ R (T3.out.2).glob rfl).mono ?_; rintro e wx ⟨rfl, rfl⟩
        go_wp2
        go_ret2
        rw [HOD.out.1, HOD.out.2]
        exact ⟨none, 0, 0, _, rfl, OwI.nil _ _, ec_err ((T3.out.2).up (balloc (bnil _) _)) (isErr_new (Nat.le_refl _)), balloc (T3.out.1.2) _⟩
    · skip
      obtain rfl : s.size = i := by omega
      have hst := HS.out
      rw [← HLN.out] at hst
      have hrr := hst.fin
      have hrr2 := HRR.out.trans hrr
      have hbw : Below W.heap.size W wo := by rw [HG.out]; exact hb
      obtain ⟨⟨u0, u1, u2, u3⟩, g0, g1, g2, g3⟩ := rb_cells HZ.out
      have hb0 := HS.out.rd.b0
      have hb1 := HS.out.rd.b1
      clear hb hst hrr
      have T3 := T2.up hbw
      clear T2
      clear hbw
      by_cases h3 : st = 3
      · skip
        subst h3
        rw [if_pos rfl] at hrr2
        have hdo := lifeD_ok HBG.out hrr2
        have HOD := Lib.hid (And.intro hdo.2 hdo.1)
        clear hdo hrr2
        have hS0 : wo.drew.cell? ⟨g, 2, none⟩ = some (.int .i64 s0) ∧ wo.drew.cell? ⟨g, 3, none⟩ = some (.int .i64 s1) := ⟨u2, u3⟩
        have HS0 := Lib.hid hS0
        clear hS0
        go_wp2_with fail
        go_region_held3 (fun w' => w'.cell? ⟨g, 2, none⟩ = some (.int .i64 s0) ∧ w'.cell? ⟨g, 3, none⟩ = some (.int .i64 s1))
          (first | with_reducible exact HS5.out | with_reducible exact HS0.out | go_keep)
          (first
            | (go_at_call 54; (with_reducible refine (counted_any s0 s1 hb0 hb1 _).mono ?_); rintro e w5 ⟨g5, c5, rfl, ho5, hb5⟩; have HO5 := Lib.hid ho5; have HD5 := Lib.hid hb5; have HS5 := Lib.hid (And.intro (cpa hb5 (HS0.out).1) (cpa hb5 (HS0.out).2)); clear ho5 hb5))
        go_wp2
        go_ret2
        rw [HOD.out.1, HOD.out.2]
        exact ⟨_, _, _, _, rfl, HO5.out.base (T3.out.1.2).size, rfl, (T3.out.1.2).trans (((Below.drew (bnil wo)).trans HD5.out).mono (T3.out.1.2).size)⟩
      · skip
        rw [if_neg h3, HLN.out] at hrr2
        have hdo := lifeD_er HBG.out hrr2
        have HOD := Lib.hid (And.intro hdo.2 hdo.1)
        have h3b : ((st : Int) != 3) = true := by rw [bne_iff_ne]; omega
        clear hdo hrr2 h3
        go_wp2_with fail
        refine (plane_wrong _ _ _ R (T3.out.2).glob rfl).mono ?_; rintro e wx ⟨rfl, rfl⟩
        go_wp2
        go_ret2
        rw [HOD.out.1, HOD.out.2]
        exact ⟨none, 0, 0, _, rfl, OwI.nil _ _, ec_err ((T3.out.2).up (balloc (bnil _) _)) (isErr_new (Nat.le_refl _)), balloc (T3.out.1.2) _⟩
end Go.Proofs.YtocfkmdoalhjmaaDoor
