/- Package bag: bits. -/
import Derived.Test.YtiglilecmieelaaGreatDoorBagA
import Derived.Test.YtiglilecmieelaaGreatDoorRR
import Derived.Test.YtiglilecmieelaaGreatDoorEdnB
import Derived.Test.YtiglilecmieelaaGreatDoorBitI
import Derived.Deep.QuietTactic
import Derived.BigQuiet
import Derived.IntWalk
namespace Go.Proofs.YtiglilecmieelaaGreatDoor
open Go.RowKit
set_option linter.unusedVariables false
set_option maxRecDepth 100000

/-- a set's words as cells -/
def wordsV (Wd m : Nat) : List Value := (List.range Wd).map fun j => .int .u64 ((wordB m j : Nat) : Int)
theorem wordsV_at {Wd m j : Nat} (h : j < Wd) : (wordsV Wd m)[j]? = some (.int .u64 ((wordB m j : Nat) : Int)) := by simp [wordsV, h]
theorem wordsV_len (Wd m : Nat) : (wordsV Wd m).length = Wd := by simp [wordsV]
theorem wordsV_or {Wd m x : Nat} (h : x / 64 < Wd) : (wordsV Wd m).set (x / 64) (.int .u64 ((wordB m (x / 64) ||| 2 ^ (x % 64) : Nat) : Int)) = wordsV Wd (m ||| 2 ^ x) := by
  apply List.ext_getElem?
  intro j
  by_cases hj : j < Wd
  · rw [wordsV_at hj, wordB_or, List.getElem?_set]
    by_cases e : x / 64 = j
    · subst e; simp [wordsV_len, hj]
    · rw [if_neg e, wordsV_at hj, if_neg (fun q => e q.symm)]
  · rw [List.getElem?_eq_none (by simp [wordsV]; omega), List.getElem?_eq_none (by simp [wordsV]; omega)]
theorem wordsV_zero (Wd : Nat) : wordsV Wd 0 = (List.range Wd).map fun _ => .int .u64 0 := by
  unfold wordsV
  apply List.map_congr_left
  intro j _
  simp [wordB]
theorem mkU (n : Nat) (hb : n ≤ 32768) (w : World) : (Instr.makeSlice 107 (.int .i64 (n : Int)) (.int .i64 (n : Int))).run Tryz.prog w = .ok (.slice (some ⟨w.heap.size, 0, none⟩) n n) (w.alloc (.cells (wordsV n 0).toArray 134)) := by
  have h := run_make_row' (P := Tryz.prog) 107 134 (.int .u64 0) 8 Tryz.underlying107 (by kernel_rfl) rfl .i64 .i64 n (by omega) (by omega) w
  rw [h, made_listR, wordsV_zero]
theorem getD_natB (l : List Nat) (i : Nat) : (l.map fun x : Nat => (x : Int)).getD i 0 = ((l.getD i 0 : Nat) : Int) := by
  simp only [List.getD_eq_getElem?_getD, List.getElem?_map]
  cases l[i]? <;> rfl
theorem mask_take {ls : List Nat} {j : Nat} (h : j < ls.length) : maskB (ls.take (j + 1)) = maskB (ls.take j) ||| 2 ^ ls.getD j 0 := by
  rw [List.take_succ_eq_append_getElem h, mask_app, List.getD_eq_getElem?_getD, List.getElem?_eq_getElem h]
  rfl
theorem wrap_u64 {v : Nat} (h : v < 18446744073709551616) : IntKind.u64.wrap (v : Int) = (v : Int) := by
  simp [IntKind.wrap, IntKind.bits, IntKind.signed]
  omega
theorem ofInt_nat64 {v : Nat} (h : v < 18446744073709551616) : (BitVec.ofInt 64 (v : Int)).toNat = v := by
  have := ofInt64_nat (v : Int)
  omega
theorem or_u64 {v b : Nat} (hv : v < 18446744073709551616) (hb : b < 64) : bits .or .u64 (v : Int) (IntKind.u64.wrap (2 ^ b)) = ((v ||| 2 ^ b : Nat) : Int) := by
  have hp : 2 ^ b < 18446744073709551616 := Nat.lt_of_lt_of_le (Nat.pow_lt_pow_right (by decide) hb) (by decide)
  have e1 : IntKind.u64.wrap (2 ^ b) = ((2 ^ b : Nat) : Int) := by
    rw [← wrap_u64 hp, Int.natCast_pow]; rfl
  rw [e1]
  have e2 : ((BitVec.ofInt 64 (v : Int) ||| BitVec.ofInt 64 ((2 ^ b : Nat) : Int)).toNat) = v ||| 2 ^ b := by
    rw [BitVec.toNat_or, ofInt_nat64 hv, ofInt_nat64 hp]
  show IntKind.u64.wrap ((BitVec.ofInt 64 (v : Int) ||| BitVec.ofInt 64 ((2 ^ b : Nat) : Int)).toNat : Int) = _
  rw [e2]
  exact wrap_u64 (Nat.or_lt_two_pow (n := 64) hv hp)
set_option maxHeartbeats 8000000 in
theorem bits_ok (n Wd gB : Nat) (sl mp : Value) (am : Option Addr) (nm cm : Nat) (ls : List Nat) (w : World) (hz : w.heap[gB]? = some (.cells #[.int .i64 n, sl, mp] 106)) (hWd : (n + 63) / 64 = Wd) (hn : n ≤ 256) (hR : RK .i64 w am nm (ls.map fun x : Nat => (x : Int))) (hnm : nm ≤ 100000) (hls : ∀ x ∈ ls, x < n) :
    Calls Tryz.prog 44 #[.pointer (some ⟨gB, 0, none⟩), .slice am nm cm] w fun e w' => ∃ g, e = .returned (.tuple #[.slice (some ⟨g, 0, none⟩) Wd Wd, .nilIface]) ∧ w.heap.size ≤ g ∧ w'.heap[g]? = some (.cells (wordsV Wd (maskB ls)).toArray 134) ∧ Below w.heap.size w w' := by
  have hlen : nm = ls.length := by have := hR.len; simpa using this
  have HLEN := Lib.hid hlen
  have HZ := Lib.hid hz
  have HR := Lib.hid hR
  have HLS : Hid (∀ j, j < nm → ls.getD j 0 < n) := fun j hj => by
    rw [hlen] at hj
    rw [List.getD_eq_getElem?_getD, List.getElem?_eq_getElem hj]
    exact hls _ (List.getElem_mem hj)
  have x0 : w.cell? ⟨gB, 0, none⟩ = some (.int .i64 n) := by simp [World.cell?, hz]
  have n0 : (0 : Int) ≤ (n : Int) + 63 := by omega
  have q1 : IntKind.i64.wrap ((n : Int) + 63) = (n : Int) + 63 := IntWalk.i64_in _ (by omega)
  have q2 : ((n : Int) + 63) / 64 = (Wd : Int) := by omega
  have HWD : Hid (∀ x, x < n → x / 64 < Wd) := fun x hx => by omega
  have hWl : Wd ≤ 5 := by omega
  have q3 : IntKind.i64.wrap (Wd : Int) = (Wd : Int) := IntWalk.i64_in _ (by omega)
  have hmk := mkU Wd (by omega)
  obtain ⟨ZC, hZC⟩ : ∃ ZC, (wordsV Wd 0).toArray = ZC := ⟨_, rfl⟩
  rw [hZC] at hmk
  obtain ⟨w2, e2⟩ : ∃ w2, w.alloc (.cells ZC 134) = w2 := ⟨_, rfl⟩
  obtain ⟨g, hg⟩ : ∃ g, w.heap.size = g := ⟨_, rfl⟩
  have HO : Hid (w2.heap[g]? = some (.cells (wordsV Wd (maskB (ls.take 0))).toArray 134)) := by
    show _ = _
    rw [← e2, ← hg, heap_alloc_new, ← hZC]
    rfl
  have HB : Hid (Below g w w2) := by show Below _ _ _; rw [← e2, ← hg]; exact balloc (bnil w) _
  have HE := Lib.hid e2
  have HG := Lib.hid hg
  clear hz hR hlen hls hWd e2 hg hZC
  go_enter Tryz.func44, Tryz.ntmps44
  go_wp2_with fail
  rw [HE.out, HG.out]
  clear hmk x0 n0 q1 q2 q3
  go_loopw [21] (fun iv wr => ∃ j, j ≤ nm ∧ iv = .int .i64 (j : Nat) ∧ wr.heap[g]? = some (.cells (wordsV Wd (maskB (ls.take j))).toArray 134) ∧ Below g w wr) (fun iv _ => nm - (intOf iv).toNat)
  case atStart => exact ⟨0, Nat.zero_le _, rfl, HO.out, HB.out⟩
  case round =>
    clear HO HB
    obtain ⟨j, hj, rfl, hh, hb⟩ := hrel
    have hbw : Below w.heap.size w wr := by rw [HG.out]; exact hb
    have HH := Lib.hid hh
    have HBR := Lib.hid hb
    by_cases hlt : j < nm
    · have j1 : (j : Int) < (nm : Int) := by omega
      have j0 : (0 : Int) ≤ (j : Int) := by omega
      have x0 : wr.cell? ⟨gB, 0, none⟩ = some (.int .i64 n) := by have := (hbw.block _ (heap_ltR HZ.out)).trans HZ.out; simp [World.cell?, this]
      obtain ⟨b, o, rfl, _, hc⟩ := (HR.out.up hbw).addr (by omega)
      have cx := hc j hlt
      rw [getD_natB] at cx
      have hxn := HLS.out j hlt
      have HMT := Lib.hid (mask_take (ls := ls) (j := j) (by rw [← HLEN.out]; exact hlt))
      obtain ⟨x, hx⟩ : ∃ x, ls.getD j 0 = x := ⟨_, rfl⟩
      rw [hx] at cx hxn HMT
      have hqW := HWD.out x hxn
      have HOR := Lib.hid (wordsV_or (m := maskB (ls.take j)) hqW)
      obtain ⟨m, hm⟩ : ∃ m, maskB (ls.take j) = m := ⟨_, rfl⟩
      rw [hm] at HMT HOR hh
      have cg : wr.cell? ⟨g, x / 64, none⟩ = some (.int .u64 ((wordB m (x / 64) : Nat) : Int)) := by simp [World.cell?, hh, wordsV, hqW]
      have fz : wr.frozen? ⟨g, x / 64, none⟩ = false := by simp [World.frozen?, hh]
      have hwl := wordB_lt m (x / 64)
      have xI0 : (0 : Int) ≤ (x : Int) := by omega
      have xI1 : (x : Int) < (n : Int) := by omega
      have d1 : (x : Int).tdiv 64 = ((x / 64 : Nat) : Int) := by rw [Int.tdiv_eq_ediv_of_nonneg xI0]; rfl
      have d2 : (x : Int).tmod 64 = ((x % 64 : Nat) : Int) := by rw [Int.tmod_eq_emod_of_nonneg xI0]; rfl
      have d3 : (x : Int) / 64 = ((x / 64 : Nat) : Int) := by omega
      have d4 : (x : Int) % 64 = ((x % 64 : Nat) : Int) := by omega
      have d5 : x % 64 < 64 := Nat.mod_lt _ (by decide)
      obtain ⟨qx, hqx⟩ : ∃ q, x / 64 = q := ⟨_, rfl⟩
      obtain ⟨bx, hbx⟩ : ∃ b, x % 64 = b := ⟨_, rfl⟩
      rw [hqx] at d1 d3 cg fz hqW hwl HOR
      rw [hbx] at d2 d4 d5 HOR
      obtain ⟨v, hv⟩ : ∃ v, wordB m qx = v := ⟨_, rfl⟩
      rw [hv] at cg hwl HOR
      have qq0 : (0 : Int) ≤ (qx : Int) := by omega
      have qq1 : (qx : Int) < (Wd : Int) := by omega
      have bb0 : (0 : Int) ≤ (bx : Int) := by omega
      have bb1 : (bx : Int) ≤ 64 := by omega
      have HXX := Lib.hid hx
      have HMM := Lib.hid hm
      clear hx hm hqx hbx hv hc hh hbw hb
      go_wp2_with fail
      go_region
      rw [or_u64 hwl d5]
      have hset : ((wr.setCell ⟨g, qx, none⟩ (.int .u64 ((v ||| 2 ^ bx : Nat) : Int))).drew).heap[g]? = some (.cells (wordsV Wd (maskB (ls.take (j + 1)))).toArray 134) := by
        rw [HMT.out, ← HOR.out]
        have h1 := HH.out
        rw [HMM.out] at h1
        show (wr.heap.modify g _)[g]? = _
        rw [Array.getElem?_modify, if_pos rfl, h1]
        simp
      have HSET := Lib.hid hset
      have HBS : Hid (Below g w ((wr.setCell ⟨g, qx, none⟩ (.int .u64 ((v ||| 2 ^ bx : Nat) : Int))).drew)) := (HBR.out.setCell (p := ⟨g, qx, none⟩) (Nat.le_refl _) _).drew
      generalize (wr.setCell ⟨g, qx, none⟩ (.int .u64 ((v ||| 2 ^ bx : Nat) : Int))).drew = w5 at HSET HBS ⊢
      clear hset x0 cx cg fz
      go_wp2
      go_roundw
      case measure => simp [intOf]; omega
      case rel => exact ⟨j + 1, by omega, by go_num, HSET.out, HBS.out⟩
    · obtain rfl : j = nm := by omega
      have j1 : ¬ (j : Int) < (j : Int) := by omega
      have HFN : Hid (wr.heap[g]? = some (.cells (wordsV Wd (maskB ls)).toArray 134)) := by
        show _ = _
        rw [List.take_of_length_le (by have := HLEN.out; omega)] at hh
        exact hh
      have HBF := Lib.hid hbw
      clear hh hb hbw
      go_wp2
      go_ret2
      exact ⟨g, rfl, by rw [HG.out]; exact Nat.le_refl _, HFN.out, HBF.out⟩
end Go.Proofs.YtiglilecmieelaaGreatDoor
