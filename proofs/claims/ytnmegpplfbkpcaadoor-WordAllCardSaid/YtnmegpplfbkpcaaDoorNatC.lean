/- The contracts of math/bits.Div32, nat.Over. -/
import Derived.Test.YtnmegpplfbkpcaaDoorNatB
import Derived.Laws.Bits64b
namespace Go.Proofs.YtnmegpplfbkpcaaDoor
open Go.RowKit
set_option linter.unusedVariables false
set_option maxRecDepth 100000

set_option maxHeartbeats 2000000 in
theorem div32_any (h l d : Nat) (W : World) (hh : h < d) (hd : d < B32) (hl : l < B32) :
    Calls Tryd.prog 109 #[.int .u32 h, .int .u32 l, .int .u32 d] W fun e w' => ∃ q, e = .returned (.tuple #[.int .u32 (((h * B32 + l) / d : Nat) : Int), .int .u32 (((h * B32 + l) % d : Nat) : Int)]) ∧ w' = W.drewN q := by
  have hd' : d < 4294967296 := hd
  have hl' : l < 4294967296 := hl
  have d0 : (((d : Nat) : Int) != 0) = true := by simp; omega
  have d1 : (decide ((d : Int) ≤ (h : Int))) = false := by simp; omega
  have dz : (((d : Nat) : Int) == 0) = false := by rw [beq_eq_false_iff_ne]; omega
  have dp : (0 : Int) < (d : Int) := by omega
  have hh' : h < 4294967296 := by omega
  have eor : bits .or .u64 ((h : Int) * 4294967296) (l : Int) = ((h * B32 + l : Nat) : Int) := by
    have := bits_or_u64_nat (h * 4294967296) l (by omega) (by omega)
    rw [show (h : Int) * 4294967296 = ((h * 4294967296 : Nat) : Int) by simp, this]
    rw [show h * 4294967296 ||| l = h * B32 + l by rw [show h * 4294967296 = h * 2 ^ 32 by rfl, ← Nat.shiftLeft_eq, ← Nat.shiftLeft_add_eq_or_of_lt hl, Nat.shiftLeft_eq]]
  have tlt : h * B32 + l < 18446744073709551616 := by show h * 4294967296 + l < _; omega
  have qlt : (h * B32 + l) / d < 4294967296 := by
    refine Nat.div_lt_of_lt_mul ?_
    have : (h + 1) * 4294967296 ≤ d * 4294967296 := Nat.mul_le_mul_right _ hh
    show h * 4294967296 + l < d * 4294967296
    omega
  have rlt : (h * B32 + l) % d < 4294967296 := Nat.lt_trans (Nat.mod_lt _ (by omega)) hd'
  have q1 : ((h * B32 + l : Nat) : Int) / (d : Int) = (((h * B32 + l) / d : Nat) : Int) := by simp
  have r1 : ((h * B32 + l : Nat) : Int) % (d : Int) = (((h * B32 + l) % d : Nat) : Int) := by simp
  have EOR := Lib.hid eor
  clear hd hl eor
  have EOR2 : Hid (bits .or .u64 ((h : Int) * 4294967296) (l : Int) = ((h * B32 + l : Nat) : Int)) := EOR
  clear EOR
  generalize h * B32 + l = t at *
  have q2 : ((t / d : Nat) : Int) % 4294967296 = ((t / d : Nat) : Int) := by
    generalize t / d = q at *
    exact Int.emod_eq_of_lt (by omega) (by omega)
  have r2 : ((t % d : Nat) : Int) % 4294967296 = ((t % d : Nat) : Int) := by
    generalize t % d = r at *
    exact Int.emod_eq_of_lt (by omega) (by omega)
  generalize t / d = q at *
  generalize t % d = r at *
  go_enter Tryd.func109, Tryd.ntmps109
  go_wp2_with fail
  rw [EOR2.out]
  clear EOR2
  go_quiet (fail)
  go_wp2
  go_ret2
  exact ⟨nq, rfl, rfl⟩

/-- places k and above are divided -/
structure OverAt (la cur : List Nat) (d k r : Nat) : Prop where
  len : cur.length = la.length
  u32 : U32 cur
  lt : r < d
  eq : val (la.drop k) = val (cur.drop k) * d + r
theorem overAt_step {la cur : List Nat} {d k r : Nat} (h : OverAt la cur d (k + 1) r) (hk : k < la.length) (ha : U32 la) (hd : d < B32) :
    OverAt la (cur.set k ((r * B32 + la.getD k 0) / d)) d k ((r * B32 + la.getD k 0) % d) := by
  have ux := u32_at ha k
  have hlt : (r * B32 + la.getD k 0) / d < B32 := by
    refine Nat.div_lt_of_lt_mul ?_
    have : (r + 1) * B32 ≤ d * B32 := Nat.mul_le_mul_right _ h.lt
    rw [Nat.add_mul] at this
    omega
  refine ⟨by simpa using h.len, u32_set h.u32 _ hlt, Nat.mod_lt _ (Nat.lt_of_le_of_lt (Nat.zero_le _) h.lt), ?_⟩
  have e1 : la.drop k = la.getD k 0 :: la.drop (k + 1) := by
    rw [List.drop_eq_getElem_cons hk]; simp [hk]
  have hkc : k < cur.length := by rw [h.len]; exact hk
  have e2 : (cur.set k ((r * B32 + la.getD k 0) / d)).drop k = (r * B32 + la.getD k 0) / d :: cur.drop (k + 1) := by
    rw [List.set_eq_take_append_cons_drop, if_pos hkc, List.drop_append_of_le_length (by simp; omega)]
    simp
  rw [e1, e2]
  simp only [val]
  rw [h.eq]
  have e := Nat.mod_add_div (r * B32 + la.getD k 0) d
  generalize la.getD k 0 = x at *
  generalize val (cur.drop (k + 1)) = v at *
  generalize hq : (r * B32 + x) / d = q at *
  generalize (r * B32 + x) % d = m at *
  rw [Nat.mul_add, Nat.add_mul, ← Nat.mul_assoc]
  rw [Nat.mul_comm d q] at e
  rw [Nat.mul_comm B32 r]
  generalize q * d = q1 at *
  generalize B32 * v * d = q2 at *
  omega
theorem overAt_end {la cur : List Nat} {d r : Nat} (h : OverAt la cur d 0 r) : val cur = val la / d ∧ r = val la % d := by
  have e := h.eq
  simp only [List.drop_zero] at e
  have hd : 0 < d := Nat.lt_of_le_of_lt (Nat.zero_le _) h.lt
  rw [e, Nat.mul_comm]
  constructor
  · rw [Nat.mul_add_div hd, Nat.div_eq_of_lt h.lt, Nat.add_zero]
  · rw [Nat.mul_add_mod, Nat.mod_eq_of_lt h.lt]

set_option maxHeartbeats 4000000 in
theorem over_any (a1 : Option Addr) (n1 c1 d : Nat) (l1 : List Nat) (W : World) (h1 : NR W a1 n1 l1) (hm : n1 * 4 ≤ 281474976710656) (hd : d < B32) (hd0 : 0 < d) :
    Calls Tryd.prog 88 #[.slice a1 n1 c1, .int .u32 d] W fun e w' => ∃ a' n' c', e = .returned (.tuple #[.slice a' n' c', .int .u32 ((val l1 % d : Nat) : Int), Value.nilIface]) ∧ w'.ownsRow W.heap.size 73 1 (.slice a' n' c') n' ((ofN (limbs (val l1 / d))).map (Value.int .u32)) ∧ NV w' a' n' c' (val l1 / d) ∧ Below W.heap.size W w' := by
  have HL1 := Lib.hid h1.len
  have H1 := Lib.hid h1; clear h1
  have hmm : n1 ≤ 70368744177664 := by omega
  have hd' : d < 4294967296 := hd
  have d0 : (((d : Nat) : Int) == 0) = false := by rw [beq_eq_false_iff_ne]; omega
  have HD : Hid (d < B32) := hd
  clear hd
  obtain ⟨q, hq⟩ : ∃ q, val l1 / d = q := ⟨_, rfl⟩
  obtain ⟨r, hr⟩ : ∃ r, val l1 % d = r := ⟨_, rfl⟩
  rw [hq, hr]
  have HQ := Lib.hid hq; clear hq
  have HR := Lib.hid hr; clear hr
  go_enter Tryd.func88, Tryd.ntmps88
  go_wp2_with (first
    | (at_make; refine mk_full rfl _ _ _ rfl W.heap.size et_nat .i64 .i64 _ _ n1 rfl rfl (by omega) (by omega) (by omega) (by unfold maxLen; omega) (Nat.le_refl _) ?_; intro w1 hown1 hb1 hsz1; rw [made_u32] at hown1))
  go_loopw [8, 9] (fun rx ix wr => ∃ (k r : Nat) (cur : List Nat), k ≤ n1 ∧ ix = .int .i64 ((k : Int) - 1) ∧ rx = .int .u32 r ∧ OverAt l1 cur d k r ∧ wr.ownsRow W.heap.size 73 1 (.slice (some ⟨W.heap.size, 0, none⟩) n1 n1) n1 ((ofN cur).map (Value.int .u32)) ∧ Below W.heap.size W wr) (fun _ ix _ => (intOf ix + 1).toNat)
  case atStart => exact ⟨n1, 0, _, by omega, rfl, rfl, ⟨by have := HL1.out; simp; omega, u32_zeros _, hd0, by rw [List.drop_of_length_le (by have := HL1.out; omega), List.drop_of_length_le (by simp)]; simp [val]⟩, hown1, hb1⟩
  case round =>
    clear hown1
    obtain ⟨k, rr, cur, hk, rfl, rfl, hat, hown, hb⟩ := hrel
    cases k with
    | zero =>
      have hend := overAt_end hat
      rw [HQ.out, HR.out] at hend
      obtain ⟨hv, rfl⟩ := hend
      have HV := Lib.hid hv
      have HU := Lib.hid hat.u32
      have HST := Lib.hid hown
      have HB := Lib.hid hb
      clear hat hown hb hv
      have e0 : ((0 : Nat) : Int) - 1 = -1 := by omega
      rw [e0]
      go_wp2_with fail
      refine (norm_nr _ n1 n1 cur _ ⟨RK.of_own HST.out, HU.out⟩ (by unfold maxLen; omega) (Nat.le_refl _) (by unfold maxLen; omega)).mono ?_; rintro e w6 ⟨m, rfl, hmk, htk, hnr, rfl⟩
      have hpre := own_prefix HST.out hmk
      rw [Nat.mul_one, ← List.map_take, ofN_take, htk] at hpre
      rw [HV.out] at hpre hnr
      have HPRE := Lib.hid hpre
      have HNR := Lib.hid hnr
      clear hpre hnr htk
      go_wp2
      go_ret3
      exact ⟨_, m, n1, rfl, HPRE.out, ⟨HNR.out, hmk, by unfold maxLen; omega, fun e => by cases e⟩, HB.out⟩
    | succ k =>
      have ej : ((k + 1 : Nat) : Int) - 1 = (k : Int) := by omega
      rw [ej]
      obtain ⟨b1, o1, rfl, hb1, hx1⟩ := H1.out.addr (by omega)
      have x0 := (hb.cell (p := ⟨b1, o1 + k, none⟩) hb1).trans (hx1 k (by omega))
      clear hx1 ej
      have hcl : cur.length = n1 := by have := hat.len; have := HL1.out; omega
      have z0 : wr.cell? ⟨W.heap.size, k, none⟩ = some (.int .u32 (cur.getD k 0 : Nat)) := by rw [hown.cellAt k (by omega), mapu_at _ _ (by omega)]
      have f0 := hown.frozenAt k
      have hst : ∀ q : Nat, ((wr.drewN q).setCell ⟨W.heap.size, k, none⟩ (.int .u32 (((rr * B32 + l1.getD k 0) / d : Nat) : Int))).ownsRow W.heap.size 73 1 (.slice (some ⟨W.heap.size, 0, none⟩) n1 n1) n1 ((ofN (cur.set k ((rr * B32 + l1.getD k 0) / d))).map (Value.int .u32)) := fun q => by
        have := own_set (w := wr.drewN q) hown k (.int .u32 (((rr * B32 + l1.getD k 0) / d : Nat) : Int))
        rwa [map_setu] at this
      have hnx := overAt_step hat (by have := HL1.out; omega) H1.out.2 HD.out
      have hlt := hat.lt
      have ux := u32_at H1.out.2 k
      have HX : Hid (l1.getD k 0 < B32) := ux
      have HLT := Lib.hid hlt
      have HST := Lib.hid hst
      have HNX := Lib.hid hnx
      have HB := Lib.hid hb
      clear hat hown hst hnx hcl hlt hb ux
      have i0 : (0 : Int) ≤ (k : Int) := by omega
      have i1 : (k : Int) < (n1 : Int) := by omega
      generalize l1.getD k 0 = x at *
      generalize cur.getD k 0 = z at *
      go_wp2_with fail
      refine (div32_any rr x d _ HLT.out HD.out HX.out).mono ?_; rintro e w5 ⟨q5, rfl, rfl⟩
      generalize (rr * B32 + x) / d = p at *
      generalize (rr * B32 + x) % d = s at *
      go_wp2
      go_roundw
      case rel => exact ⟨k, s, _, by omega, rfl, rfl, HNX.out, HST.out q5, (below_drewN HB.out q5).setCell (p := ⟨W.heap.size, k, none⟩) (Nat.le_refl _) _⟩
      case measure => first | (simp [intOf]; done) | (simp [intOf]; omega)
end Go.Proofs.YtnmegpplfbkpcaaDoor
