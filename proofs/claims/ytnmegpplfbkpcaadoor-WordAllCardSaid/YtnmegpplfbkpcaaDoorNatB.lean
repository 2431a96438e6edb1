/- The contract of nat.Mul. -/
import Derived.Test.YtnmegpplfbkpcaaDoorNatA
namespace Go.Proofs.YtnmegpplfbkpcaaDoor
open Go.RowKit
set_option linter.unusedVariables false
set_option maxRecDepth 100000

structure MulAt (la lb cur : List Nat) (i : Nat) : Prop where
  len : cur.length = la.length + lb.length
  u32 : U32 cur
  eq : val cur = val (la.take i) * val lb
  zero : ∀ j, i + lb.length ≤ j → cur.getD j 0 = 0
structure MulIn (la lb cur : List Nat) (i j c : Nat) : Prop where
  len : cur.length = la.length + lb.length
  u32 : U32 cur
  lt : c < B32
  eq : val cur + c * B32 ^ (i + j) = val (la.take i) * val lb + la.getD i 0 * val (lb.take j) * B32 ^ i
  zero : ∀ j, i + lb.length ≤ j → cur.getD j 0 = 0

theorem mul_lt64 {x y o c : Nat} (hx : x < B32) (hy : y < B32) (ho : o < B32) (hc : c < B32) : x * y + o + c < 18446744073709551616 := by
  have h1 : x * y ≤ 4294967295 * 4294967295 := Nat.mul_le_mul (Nat.le_of_lt_succ hx) (Nat.le_of_lt_succ hy)
  have ho' : o < 4294967296 := ho
  have hc' : c < 4294967296 := hc
  generalize x * y = t at *
  omega
theorem mulIn_start {la lb cur : List Nat} {i : Nat} (h : MulAt la lb cur i) : MulIn la lb cur i 0 0 :=
  ⟨h.len, h.u32, by decide, by rw [h.eq]; simp [val], h.zero⟩
theorem mulIn_step {la lb cur : List Nat} {i j c : Nat} (h : MulIn la lb cur i j c) (hi : i < la.length) (hj : j < lb.length) (ha : U32 la) (hb : U32 lb) :
    MulIn la lb (cur.set (i + j) ((la.getD i 0 * lb.getD j 0 + cur.getD (i + j) 0 + c) % B32)) i (j + 1) ((la.getD i 0 * lb.getD j 0 + cur.getD (i + j) 0 + c) / B32) := by
  have ux := u32_at ha i
  have uy := u32_at hb j
  have uo := u32_at h.u32 (i + j)
  have hlt := mul_lt64 ux uy uo h.lt
  have hk : i + j < cur.length := by rw [h.len]; omega
  have hs := val_set hk ((la.getD i 0 * lb.getD j 0 + cur.getD (i + j) 0 + c) % B32)
  have he := h.eq
  refine ⟨by simpa using h.len, u32_set h.u32 _ (Nat.mod_lt _ (by decide)), Nat.div_lt_of_lt_mul hlt, ?_, ?_⟩
  · rw [val_take_succ lb]
    have e := Nat.mod_add_div (la.getD i 0 * lb.getD j 0 + cur.getD (i + j) 0 + c) B32
    have e2 : B32 ^ (i + (j + 1)) = B32 * B32 ^ (i + j) := by rw [← Nat.add_assoc, Nat.pow_succ, Nat.mul_comm]
    have e3 : B32 ^ (i + j) = B32 ^ j * B32 ^ i := by rw [Nat.add_comm, Nat.pow_add]
    have e4 : la.getD i 0 * (val (lb.take j) + lb.getD j 0 * B32 ^ j) * B32 ^ i = la.getD i 0 * val (lb.take j) * B32 ^ i + la.getD i 0 * lb.getD j 0 * B32 ^ (i + j) := by
      rw [Nat.mul_add, Nat.add_mul, e3]
      simp only [Nat.mul_assoc]
    rw [e2, e4]
    generalize la.getD i 0 * val (lb.take j) * B32 ^ i = p1 at *
    generalize val (la.take i) * val lb = p2 at *
    generalize la.getD i 0 * lb.getD j 0 = xy at *
    generalize B32 ^ (i + j) = P at *
    generalize cur.getD (i + j) 0 = o at *
    generalize val (cur.set (i + j) ((xy + o + c) % B32)) = v1 at *
    generalize val cur = v0 at *
    have e5 : (xy + o + c) % B32 * P + (xy + o + c) / B32 * (B32 * P) = xy * P + o * P + c * P := by
      rw [← Nat.add_mul, ← Nat.add_mul]
      conv => rhs; rw [← e]
      rw [Nat.add_mul, Nat.mul_comm B32 ((xy + o + c) / B32), Nat.mul_assoc]
    generalize (xy + o + c) / B32 * (B32 * P) = q1 at *
    generalize (xy + o + c) % B32 * P = q2 at *
    generalize xy * P = q3 at *
    generalize o * P = q4 at *
    generalize c * P = q5 at *
    omega
  · intro m hm
    have := h.zero m hm
    rw [List.getD_eq_getElem?_getD, List.getElem?_set_ne (by omega), ← List.getD_eq_getElem?_getD]
    exact this
theorem mulIn_end {la lb cur : List Nat} {i c : Nat} (h : MulIn la lb cur i lb.length c) (hi : i < la.length) : MulAt la lb (cur.set (i + lb.length) c) (i + 1) := by
  have hk : i + lb.length < cur.length := by rw [h.len]; omega
  have hs := val_set hk c
  have he := h.eq
  rw [h.zero _ (Nat.le_refl _), Nat.zero_mul, Nat.add_zero] at hs
  refine ⟨by simpa using h.len, u32_set h.u32 _ h.lt, ?_, ?_⟩
  · rw [hs, he, val_take_succ la, List.take_of_length_le (Nat.le_refl _), Nat.add_mul, Nat.mul_assoc, Nat.mul_assoc, Nat.mul_comm (val lb)]
  · intro m hm
    have := h.zero m (by omega)
    rw [List.getD_eq_getElem?_getD, List.getElem?_set_ne (by omega), ← List.getD_eq_getElem?_getD]
    exact this

set_option maxHeartbeats 4000000 in
theorem mul_any (a1 a2 : Option Addr) (n1 n2 c1 c2 : Nat) (l1 l2 : List Nat) (W : World) (h1 : NR W a1 n1 l1) (h2 : NR W a2 n2 l2) (hm : (n1 + n2) * 4 ≤ 281474976710656) :
    Calls Tryd.prog 83 #[.slice a1 n1 c1, .slice a2 n2 c2] W fun e w' => ∃ a' n' c', e = .returned (.slice a' n' c') ∧ w'.ownsRow W.heap.size 73 1 (.slice a' n' c') n' ((ofN (limbs (val l1 * val l2))).map (Value.int .u32)) ∧ NV w' a' n' c' (val l1 * val l2) ∧ Below W.heap.size W w' := by
  have HL1 := Lib.hid h1.len
  have HL2 := Lib.hid h2.len
  have H1 := Lib.hid h1; clear h1
  have H2 := Lib.hid h2; clear h2
  have hmm : n1 + n2 ≤ 70368744177664 := by omega
  go_enter Tryd.func83, Tryd.ntmps83
  go_wp2_with (first
    | (at_make; refine mk_full rfl _ _ _ rfl W.heap.size et_nat .i64 .i64 _ _ (n1 + n2) rfl rfl (by omega) (by omega) (by omega) (by unfold maxLen; omega) (Nat.le_refl _) ?_; intro w1 hown1 hb1 hsz1; rw [made_u32] at hown1))
  go_loopw [20] (fun ix wr => ∃ (k : Nat) (cur : List Nat), k ≤ n1 ∧ ix = .int .i64 k ∧ MulAt l1 l2 cur k ∧ wr.ownsRow W.heap.size 73 1 (.slice (some ⟨W.heap.size, 0, none⟩) (n1 + n2) (n1 + n2)) (n1 + n2) ((ofN cur).map (Value.int .u32)) ∧ Below W.heap.size W wr) (fun ix _ => n1 - (intOf ix).toNat)
  case atStart => exact ⟨0, _, by omega, rfl, ⟨by have := HL1.out; have := HL2.out; simp; omega, u32_zeros _, by simp [val_zeros, val], fun j _ => by simp [List.getD_eq_getElem?_getD, List.getElem?_replicate]; split <;> rfl⟩, hown1, hb1⟩
  case round =>
    clear hown1
    obtain ⟨k, cur, hk, rfl, hadd, hown, hb⟩ := hrel
    by_cases hlt : k < n1
    · obtain ⟨b1, o1, rfl, hb1, hx1⟩ := H1.out.addr (by omega)
      have x0 := (hb.cell (p := ⟨b1, o1 + k, none⟩) hb1).trans (hx1 k hlt)
      clear hx1
      have i0 : (0 : Int) ≤ (k : Int) := by omega
      have i1 : (k : Int) < (n1 : Int) := by omega
      have ux := u32_at H1.out.2 k
      have HX : Hid (l1.getD k 0 < B32) := ux
      have HI := Lib.hid hadd
      have HO := Lib.hid hown
      clear hadd hown ux
      obtain ⟨x, hx⟩ : ∃ x, l1.getD k 0 = x := ⟨_, rfl⟩
      rw [hx] at x0 HX
      have HXE := Lib.hid hx; clear hx
      go_wp2_with fail
      go_loopw [8, 27] (fun cx jx wr => ∃ (j c : Nat) (cur : List Nat), j ≤ n2 ∧ jx = .int .i64 j ∧ cx = .int .u64 c ∧ MulIn l1 l2 cur k j c ∧ wr.ownsRow W.heap.size 73 1 (.slice (some ⟨W.heap.size, 0, none⟩) (n1 + n2) (n1 + n2)) (n1 + n2) ((ofN cur).map (Value.int .u32)) ∧ Below W.heap.size W wr) (fun _ jx _ => n2 - (intOf jx).toNat)
      case atStart => exact ⟨0, 0, cur, by omega, rfl, rfl, mulIn_start HI.out, HO.out, hb⟩
      case round =>
        clear HI HO hb x0
        clear cur
        obtain ⟨j, c, cur, hj, rfl, rfl, hin, hown, hb⟩ := hrel
        have hcl : cur.length = n1 + n2 := by have := hin.len; have := HL1.out; have := HL2.out; omega
        by_cases hjn : j < n2
        · obtain ⟨b2, o2, rfl, hb2, hx2⟩ := H2.out.addr (by omega)
          have y0 := (hb.cell (p := ⟨b2, o2 + j, none⟩) hb2).trans (hx2 j hjn)
          clear hx2
          have j0 : (0 : Int) ≤ (j : Int) := by omega
          have j1 : (j : Int) < (n2 : Int) := by omega
          have z0 : wr.cell? ⟨W.heap.size, k + j, none⟩ = some (.int .u32 (cur.getD (k + j) 0 : Nat)) := by rw [hown.cellAt (k + j) (by omega), mapu_at _ _ (by omega)]
          have f0 := hown.frozenAt (k + j)
          have hst := own_set hown (k + j) (.int .u32 (((l1.getD k 0 * l2.getD j 0 + cur.getD (k + j) 0 + c) % B32 : Nat) : Int))
          rw [map_setu] at hst
          have hnx := mulIn_step hin (by have := HL1.out; omega) (by have := HL2.out; omega) H1.out.2 H2.out.2
          have uy := u32_at H2.out.2 j
          have uz := u32_at hin.u32 (k + j)
          have uc := hin.lt
          rw [HXE.out] at hst hnx
          have HST := Lib.hid hst
          have HNX := Lib.hid hnx
          have l64 := mul_lt64 HX.out uy uz uc
          have ux' : x < 4294967296 := HX.out
          have uy' : l2.getD j 0 < 4294967296 := uy
          have uz' : cur.getD (k + j) 0 < 4294967296 := uz
          have uc' : c < 4294967296 := uc
          clear hin hown hst hnx hcl uy uz uc
          generalize l2.getD j 0 = y at *
          generalize cur.getD (k + j) 0 = z at *
          have e1 : ((x : Int) * (y : Int) + (z : Int) + (c : Int)) / 4294967296 = (((x * y + z + c) / B32 : Nat) : Int) := by simp
          have e2 : ((x : Int) * (y : Int) + (z : Int) + (c : Int)) % 4294967296 = (((x * y + z + c) % B32 : Nat) : Int) := by simp
          have E1 := Lib.hid e1
          have E2 := Lib.hid e2
          clear e1 e2
          go_wp2
          rw [E1.out, E2.out]
          go_roundw
          case rel => exact ⟨j + 1, _, _, by omega, by go_num, rfl, HNX.out, HST.out, hb.setCell (p := ⟨W.heap.size, k + j, none⟩) (Nat.le_refl _) _⟩
          case measure => simp [intOf]; omega
        · obtain rfl : j = n2 := by omega
          have z0 : wr.cell? ⟨W.heap.size, k + j, none⟩ = some (.int .u32 (cur.getD (k + j) 0 : Nat)) := by rw [hown.cellAt (k + j) (by omega), mapu_at _ _ (by omega)]
          have f0 := hown.frozenAt (k + j)
          have hst := own_set hown (k + j) (.int .u32 (c : Int))
          rw [map_setu] at hst
          have hnx := mulIn_end (la := l1) (lb := l2) (cur := cur) (i := k) (c := c) (by rw [← HL2.out]; exact hin) (by have := HL1.out; omega)
          rw [← HL2.out] at hnx
          have uc' : c < 4294967296 := hin.lt
          have hb5 := hb.setCell (p := ⟨W.heap.size, k + j, none⟩) (Nat.le_refl _) (.int .u32 (c : Int))
          have HST := Lib.hid hst
          have HNX := Lib.hid hnx
          have HB5 := Lib.hid hb5
          clear hin hown hst hnx hcl hb hb5
          have j0 : (0 : Int) ≤ (j : Int) := by omega
          have j1 : (c : Int) % 4294967296 = (c : Int) := Int.emod_eq_of_lt (by omega) (by omega)
          generalize cur.getD (k + j) 0 = z at *
          go_wp2
          go_roundw
          case rel => exact ⟨k + 1, _, by omega, by go_num, HNX.out, HST.out, HB5.out⟩
          case measure => simp [intOf]; omega
    · obtain rfl : k = n1 := by omega
      have hst := hown
      have HEND : Hid (val cur = val l1 * val l2) := by
        have := hadd.eq
        rwa [List.take_of_length_le (by have := HL1.out; omega)] at this
      have HU := Lib.hid hadd.u32
      have HST := Lib.hid hst
      have HB := Lib.hid hb
      clear hadd hst hown hb
      have i0 : (0 : Int) ≤ (k : Int) := by omega
      go_wp2_with fail
      refine (norm_nr _ (k + n2) (k + n2) cur _ ⟨RK.of_own HST.out, HU.out⟩ (by unfold maxLen; omega) (Nat.le_refl _) (by unfold maxLen; omega)).mono ?_; rintro e w6 ⟨m, rfl, hmk, htk, hnr, rfl⟩
      have hpre := own_prefix HST.out hmk
      rw [Nat.mul_one, ← List.map_take, ofN_take, htk] at hpre
      rw [HEND.out] at hpre hnr
      have HPRE := Lib.hid hpre
      have HNR := Lib.hid hnr
      clear hpre hnr htk
      go_wp2
      go_ret
      exact ⟨_, m, k + n2, rfl, HPRE.out, ⟨HNR.out, hmk, by unfold maxLen; omega, fun e => by cases e⟩, HB.out⟩
end Go.Proofs.YtnmegpplfbkpcaaDoor
