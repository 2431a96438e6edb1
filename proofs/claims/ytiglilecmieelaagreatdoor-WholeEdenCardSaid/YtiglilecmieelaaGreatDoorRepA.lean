/- The contracts of math/bits.Mul64, math/bits.Mul, slices.Repeat (as WordR, to a greater length). -/
import Derived.Test.YtiglilecmieelaaGreatDoorInts
import Derived.Test.YtiglilecmieelaaGreatDoorBase
import Derived.Test.YtiglilecmieelaaGreatDoorSl
import Derived.Deep.QuietTactic
import Derived.BigQuiet
import Derived.Shelf.Bits.Mul64
import Derived.WalkKit
import Derived.Deep.RegionWith
import Derived.Lib.Hide
namespace Go.Proofs.YtiglilecmieelaaGreatDoor
open Go.RowKit
set_option linter.unusedVariables false
set_option maxRecDepth 100000

set_option maxHeartbeats 1000000 in
theorem mul64_any (x y : Nat) (hx : x < 18446744073709551616) (hy : y < 18446744073709551616) (w : World) :
    Calls Tryz.prog 79 #[.int .u64 x, .int .u64 y] w fun e w' => e = .returned (.tuple #[.int .u64 ((x * y / 18446744073709551616 : Nat) : Int), .int .u64 ((x * y % 18446744073709551616 : Nat) : Int)]) ∧ w' = w := by
  obtain ⟨bd, bt, bw, hhi⟩ := Lib.mul64_hi x y hx hy
  have ba := Lib.half_mul_le (a := x / 4294967296) (b := y / 4294967296) (by omega) (by omega)
  have bb := Lib.half_mul_le (a := x / 4294967296) (b := y % 4294967296) (by omega) (by omega)
  have bc := Lib.half_mul_le (a := x % 4294967296) (b := y / 4294967296) (by omega) (by omega)
  have ba' : x / 4294967296 * (y / 4294967296) < 18446744073709551616 := by omega
  have bb' : x / 4294967296 * (y % 4294967296) < 18446744073709551616 := by omega
  have bc' : x % 4294967296 * (y / 4294967296) < 18446744073709551616 := by omega
  have bh1 : x / 4294967296 * (y / 4294967296) + (x / 4294967296 * (y % 4294967296) + x % 4294967296 * (y % 4294967296) / 4294967296) / 4294967296 < 18446744073709551616 := by omega
  have bh : x / 4294967296 * (y / 4294967296) + (x / 4294967296 * (y % 4294967296) + x % 4294967296 * (y % 4294967296) / 4294967296) / 4294967296 + ((x / 4294967296 * (y % 4294967296) + x % 4294967296 * (y % 4294967296) / 4294967296) % 4294967296 + x % 4294967296 * (y / 4294967296)) / 4294967296 < 18446744073709551616 := by omega
  go_enter Tryz.func79, Tryz.ntmps79
  go_wp2
  simp only [Mul64.maskN x hx, Mul64.maskN y hy, Mul64.divN, Mul64.mulN, Mul64.addN, Mul64.wrapN _ bd, Mul64.wrapN _ bb', Mul64.wrapN _ bt, Mul64.maskN _ bt, Mul64.wrapN _ bc', Mul64.wrapN _ bw, Mul64.wrapN _ ba', Mul64.wrapN _ bh1, Mul64.wrapN _ bh, Mul64.wrapM (x * y)]
  rw [hhi]
  go_ret2
  exact ⟨rfl, rfl⟩

theorem mul_anyR (x y : Nat) (hx : x < 18446744073709551616) (hy : y < 18446744073709551616) (w : World) :
    Calls Tryz.prog 57 #[.int .u64 x, .int .u64 y] w fun e w' => e = .returned (.tuple #[.int .u64 ((x * y / 18446744073709551616 : Nat) : Int), .int .u64 ((x * y % 18446744073709551616 : Nat) : Int)]) ∧ w' = w := by
  go_enter Tryz.func57, Tryz.ntmps57
  go_wp2_with fail
  refine (mul64_any x y hx hy w).mono ?_; rintro e w' ⟨rfl, hw⟩; rw [hw]
  go_wp2
  go_ret2
  exact ⟨rfl, rfl⟩

theorem mul_small (x y : Nat) (h : x * y < 1000000) (hx : x < 18446744073709551616) (hy : y < 18446744073709551616) (w : World) :
    Calls Tryz.prog 57 #[.int .u64 x, .int .u64 y] w fun e w' => e = .returned (.tuple #[.int .u64 0, .int .u64 ((x * y : Nat) : Int)]) ∧ w = w' :=
  (mul_anyR x y (by omega) (by omega) w).mono fun e w' he => by
    obtain ⟨h1, h2⟩ := he
    rw [Nat.div_eq_of_lt (by omega), Nat.mod_eq_of_lt (by omega)] at h1
    exact ⟨h1, h2.symm⟩

/-- l again and again, m symbols -/
def repL (l : List Int) (m : Nat) : List Int := (List.range m).map fun j => l.getD (j % l.length) 0
theorem repL_len (l : List Int) (m : Nat) : (repL l m).length = m := by simp [repL]
theorem repL_at (l : List Int) (m j : Nat) (h : j < m) : (repL l m).getD j 0 = l.getD (j % l.length) 0 := by simp [repL, h]

/-- the first k symbols are those of l again and again -/
structure RepAt (l xs : List Int) (M k : Nat) : Prop where
  len : xs.length = M
  le : k ≤ M
  at_ : ∀ j, j < k → xs.getD j 0 = l.getD (j % l.length) 0
  pos : k = M ∨ k % l.length = 0 ∧ 1 ≤ k
theorem rep_fin {l xs : List Int} {M : Nat} (h : RepAt l xs M M) : xs = repL l M := by
  apply List.ext_getElem (by rw [h.len, repL_len])
  intro j h1 h2
  have e1 := h.at_ j (by have := h.len; omega)
  have e2 := repL_at l M j (by have := h.len; omega)
  rw [← e2] at e1
  simpa [h1, h2] using e1
theorem splice_map (k : IntKind) (xs cs : List Int) (off : Nat) : splice (xs.map (Value.int k)) off (cs.map (Value.int k)) = (splice xs off cs).map (Value.int k) := by simp [splice]
theorem splice_get (xs cs : List Int) (off j : Nat) (h : off + cs.length ≤ xs.length) : (splice xs off cs).getD j 0 = if j < off then xs.getD j 0 else if j < off + cs.length then cs.getD (j - off) 0 else xs.getD j 0 := by
  unfold splice
  have h1 : (xs.take off).length = off := by simp; omega
  simp only [List.getD_eq_getElem?_getD]
  by_cases a : j < off
  · rw [if_pos a, List.getElem?_append_left (by omega), List.getElem?_take, if_pos a]
  · rw [if_neg a, List.getElem?_append_right (by omega), h1]
    by_cases b : j < off + cs.length
    · rw [if_pos b, List.getElem?_append_left (by omega)]
    · rw [if_neg b, List.getElem?_append_right (by omega), List.getElem?_drop]
      congr 2
      omega
theorem rep_step {l xs : List Int} {M k m : Nat} (h : RepAt l xs M k) (hk : k < M) (hm : Nat.min k (M - k) = m) (hl : 0 < l.length) : RepAt l (splice xs k ((xs.take k).take m)) M (k + m) := by
  have hlen := h.len
  have hle := h.le
  obtain ⟨hd, h1⟩ := h.pos.resolve_left (by omega)
  have hmk : m ≤ k := by rw [← hm]; exact Nat.min_le_left ..
  have hmM : m ≤ M - k := by rw [← hm]; exact Nat.min_le_right ..
  have hcl : ((xs.take k).take m).length = m := by simp; omega
  refine ⟨by rw [length_splice _ _ _ (by omega)]; exact hlen, by omega, fun j hj => ?_, ?_⟩
  · rw [splice_get _ _ _ _ (by omega)]
    by_cases a : j < k
    · rw [if_pos a]; exact h.at_ j a
    · rw [if_neg a, if_pos (by omega)]
      have e : ((xs.take k).take m).getD (j - k) 0 = xs.getD (j - k) 0 := by
        simp only [List.getD_eq_getElem?_getD, List.getElem?_take]
        rw [if_pos (by omega), if_pos (by omega)]
      rw [e, h.at_ (j - k) (by omega)]
      congr 1
      obtain ⟨q, hq⟩ := Nat.dvd_of_mod_eq_zero hd
      have : j = (j - k) + l.length * q := by omega
      conv => rhs; rw [this]
      rw [Nat.add_mul_mod_self_left]
  · by_cases b : k ≤ M - k
    · have : m = k := by rw [← hm]; exact Nat.min_eq_left b
      right
      subst this
      refine ⟨?_, by omega⟩
      rw [Nat.add_mod, hd]; simp
    · have : m = M - k := by rw [← hm]; exact Nat.min_eq_right (by omega)
      left; omega

theorem made_i64 (n : Nat) : (madeCells (Value.int .i64 0).cells (n * 1)).toList = (List.replicate n (0 : Int)).map (Value.int .i64) := by
  rw [show (Value.int .i64 0).cells = #[.int .i64 0] from by rfl, toList_madeCells_one]
  simp
theorem rep_start {l : List Int} {n cnt M m : Nat} (hl : n = l.length) (hn : 0 < n) (hmk : cnt = 0 ∧ M = 0 ∨ n ≤ M) (hm : Nat.min n M = m) : RepAt l (splice (List.replicate M 0) 0 (l.take m)) M m := by
  rcases hmk with ⟨_, rfl⟩ | hle
  · obtain rfl : m = 0 := by rw [← hm]; exact Nat.min_zero n
    exact ⟨by simp [splice], Nat.le_refl _, fun j hj => by omega, .inl rfl⟩
  · obtain rfl : m = n := by rw [← hm]; exact Nat.min_eq_left hle
    have hlm : (l.take m).length = m := by simp; omega
    refine ⟨by rw [length_splice _ _ _ (by simp; omega)]; simp, hle, fun j hj => ?_, .inr ⟨by rw [hl]; exact Nat.mod_self _, hn⟩⟩
    rw [splice_get _ _ _ _ (by simp; omega), if_neg (by omega), if_pos (by omega), Nat.mod_eq_of_lt (by omega)]
    simp only [List.getD_eq_getElem?_getD, List.getElem?_take]
    rw [if_pos (by omega)]
    simp

set_option maxHeartbeats 4000000 in
theorem repeat_any (a : Option Addr) (n c cnt : Nat) (l : List Int) (W : World) (hR : RK .i64 W a n l) (hn : 0 < n) (hn8 : n * 8 ≤ 140737488351232) (hM : n * cnt ≤ 16384) :
    Calls Tryz.prog 34 #[.slice a n c, .int .i64 cnt] W fun e w' => ∃ a' c', e = .returned (.slice a' (n * cnt) c') ∧ w'.ownsRow W.heap.size 3 1 (.slice a' (n * cnt) c') (n * cnt) ((repL l (n * cnt)).map (Value.int .i64)) ∧ Below W.heap.size W w' := by
  have hcnt : cnt ≤ 16384 := Nat.le_trans (Nat.le_mul_of_pos_left cnt hn) hM
  obtain ⟨M, hMe⟩ : ∃ M : Nat, n * cnt = M := ⟨_, rfl⟩
  have hMi : (n : Int) * (cnt : Int) = (M : Int) := by rw [← hMe]; simp
  rw [hMe] at hM ⊢
  have HME := Lib.hid hMe
  have hmk : cnt = 0 ∧ M = 0 ∨ n ≤ M := by
    by_cases h0 : cnt = 0
    · left; subst h0; exact ⟨rfl, by omega⟩
    · right; rw [← hMe]; exact Nat.le_mul_of_pos_right n (by omega)
  clear hMe
  have HL := Lib.hid hR.len
  have HR := Lib.hid hR; clear hR
  have n0 : (0 : Int) ≤ (n : Int) := by omega
  obtain ⟨m1, hm1⟩ : ∃ m1, Nat.min n M = m1 := ⟨_, rfl⟩
  have hm1M : m1 ≤ M := by rw [← hm1]; exact Nat.min_le_right ..
  have HM1 := Lib.hid hm1; clear hm1
  go_enter Tryz.func34, Tryz.ntmps34
  go_wp2_with fail
  refine (mul_small n cnt (by rw [HME.out]; omega) (by omega) (by omega) _).mono ?_; rintro e w' ⟨rfl, rfl⟩
  rw [HME.out]
  go_wp2_with (first
    | (at_make; refine mk_full rfl _ _ _ rfl W.heap.size et_int .i64 .i64 _ _ M rfl rfl rfl rfl (by omega) (by unfold maxLen; omega) (Nat.le_refl _) ?_; intro w1 hown1 hb1 hsz1; rw [made_i64] at hown1)
    | (refine cpy rfl _ _ _ _ rfl W.heap.size et_int hown1 _ _ 0 _ _ _ _ m1 _ rfl rfl HM1.out (fun _ => rfl) (HR.out.up hb1).2 (nums_one _ _) (by omega) ?_; intro w2 hc2))
  have hown2 := hc2.own
  rw [← List.map_take, splice_map] at hown2
  have hrep : RepAt l (splice (List.replicate M 0) 0 (l.take m1)) M m1 := rep_start HL.out hn hmk HM1.out
  have hb2 : Below W.heap.size W w2 := hb1.trans hc2.below
  have hz2 : w2.heap.size = w1.heap.size := hc2.size
  clear hc2 hown1
  go_loopw [8] (fun v wr => ∃ (k : Nat) (xs : List Int), k ≤ M ∧ v = .int .i64 k ∧ RepAt l xs M k ∧ wr.ownsRow W.heap.size 3 1 (.slice (some ⟨W.heap.size, 0, none⟩) M M) M (xs.map (Value.int .i64)) ∧ Below W.heap.size W wr) (fun v _ => M - (intOf v).toNat)
  case atStart => exact ⟨m1, _, hrep.le, rfl, hrep, hown2, hb2⟩
  case round =>
    clear hrep hown2
    obtain ⟨k, xs, hk, rfl, hrep, hown, hb⟩ := hrel
    by_cases hlt : k < M
    · obtain ⟨m, hm⟩ : ∃ m, Nat.min k (M - k) = m := ⟨_, rfl⟩
      have hm2 : Nat.min k (M - k) = m := hm
      have hk1 : 1 ≤ k := (hrep.pos.resolve_left (by omega)).2
      have hmp : 1 ≤ m ∧ k + m ≤ M := by
        have h1 : Nat.min k (M - k) ≤ M - k := Nat.min_le_right k (M - k)
        have h2 : 1 ≤ Nat.min k (M - k) := Nat.le_min.2 ⟨hk1, by omega⟩
        rw [hm] at h1 h2
        omega
      obtain ⟨hm3, hm4⟩ := hmp
      have HN := Lib.hid (rep_step hrep hlt hm2 (by have := HL.out; omega))
      have hrd := (owns_rd hown).2.take hk
      have hlen := hrep.len
      have HM := Lib.hid hm; clear hm hm2 hrep
      have k0 : (0 : Int) ≤ (k : Int) := by omega
      have k1 : (k : Int) ≤ (M : Int) := by omega
      have k2 : (k : Int) < (M : Int) := by omega
      go_wp2_with fail
      have e0 : ((if M = k then some ⟨W.heap.size, 0, none⟩ else some ⟨W.heap.size, k, none⟩ : Option Addr)) = some ⟨W.heap.size, k, none⟩ := if_neg (by omega)
      obtain ⟨w5, hrun, hc5⟩ := run_copy_law (P := Tryz.prog) (w := wr.drew) (dT := 22) (sT := 22) (ty := 3) W.heap.size et_int hown.drew (some ⟨W.heap.size, k, none⟩) (some ⟨W.heap.size, 0, none⟩) k (M - k) (M - k) k M m _ HM.out (fun _ => rfl) (hrd.up (Below.drew (bnil _))) (fun u hu => nums_one _ _ u (List.mem_of_mem_take hu)) (by omega)
      have HC5 := Lib.hid hc5; clear hc5
      have s1 : IntKind.i64.wrap ((k : Int) + (m : Int)) = (k : Int) + (m : Int) := IntWalk.i64_in _ (by omega)
      go_region_with fail
      clear hrun e0
      go_simp
      clear s1
      go_wp2
      go_roundw
      case rel =>
        have hc := HC5.out
        refine ⟨k + m, _, hm4, by go_num, HN.out, ?_, hb.drew.trans hc.below⟩
        have := hc.own
        rw [Nat.mul_one, ← List.map_take, ← List.map_take, splice_map] at this
        exact this
      case measure => simp [intOf]; omega
    · obtain rfl : k = M := by omega
      have HF : Hid (xs = repL l k) := rep_fin hrep
      clear hrep
      go_wp2
      go_ret
      exact ⟨_, _, rfl, by rw [← HF.out]; exact hown, hb⟩

end Go.Proofs.YtiglilecmieelaaGreatDoor
