/- The contracts of nat.norm, From, Cmp. -/
import Derived.Test.YtnmegpplfbkpcaaDoorInts
import Derived.Test.YtnmegpplfbkpcaaDoorBase
import Derived.Test.YtnmegpplfbkpcaaDoorNatL
import Derived.WalkKit
import Derived.Deep.QuietTactic
import Derived.BigQuiet
import Derived.Lib.Hide
namespace Go.Proofs.YtnmegpplfbkpcaaDoor
open Go.RowKit
set_option linter.unusedVariables false
set_option maxRecDepth 100000

def ofN (l : List Nat) : List Int := l.map fun (x : Nat) => (x : Int)
theorem ofN_len (l : List Nat) : (ofN l).length = l.length := by simp [ofN]
theorem ofN_at (l : List Nat) (j : Nat) : (ofN l).getD j 0 = (l.getD j 0 : Nat) := by
  simp only [ofN, List.getD_eq_getElem?_getD, List.getElem?_map]
  cases l[j]? <;> rfl
theorem ofN_take (l : List Nat) (k : Nat) : (ofN l).take k = ofN (l.take k) := by simp [ofN]
theorem ofN_set (l : List Nat) (k x : Nat) : (ofN l).set k (x : Int) = ofN (l.set k x) := by simp [ofN]
/-- a slice reads as limbs -/
def NR (w : World) (a : Option Addr) (n : Nat) (l : List Nat) : Prop := RK .u32 w a n (ofN l) ∧ U32 l
theorem NR.up {w w' : World} {a : Option Addr} {n : Nat} {l : List Nat} (h : NR w a n l) (hb : Below w.heap.size w w') : NR w' a n l := ⟨h.1.up hb, h.2⟩
theorem NR.len {w : World} {a : Option Addr} {n : Nat} {l : List Nat} (h : NR w a n l) : n = l.length := by rw [h.1.len, ofN_len]
theorem NR.addr {w : World} {a : Option Addr} {n : Nat} {l : List Nat} (h : NR w a n l) (hn : 0 < n) :
    ∃ b o, a = some ⟨b, o, none⟩ ∧ b < w.heap.size ∧ ∀ j, j < n → w.cell? ⟨b, o + j, none⟩ = some (.int .u32 (l.getD j 0 : Nat)) := by
  obtain ⟨b, o, h1, h2, h3⟩ := h.1.addr hn
  exact ⟨b, o, h1, h2, fun j hj => by rw [h3 j hj, ofN_at]⟩
theorem NR.take {w : World} {a : Option Addr} {n k : Nat} {l : List Nat} (h : NR w a n l) (hk : k ≤ n) : NR w a k (l.take k) := by
  refine ⟨⟨by rw [ofN_len]; have := h.len; simp; omega, ?_⟩, u32_take h.2 k⟩
  have := h.1.2.take hk
  rwa [Nat.mul_one, ← List.map_take, ofN_take] at this

/-- norm cuts a slice to its front that is not 0 at its end -/
theorem trim_front {l : List Nat} : ∀ k, k ≤ l.length → (∀ j, k ≤ j → j < l.length → l.getD j 0 = 0) → trim (l.take k) = trim l := by
  intro k
  have : ∀ m k, l.length - k = m → k ≤ l.length → (∀ j, k ≤ j → j < l.length → l.getD j 0 = 0) → trim (l.take k) = trim l := by
    intro m
    induction m with
    | zero => intro k h1 h2 _; rw [List.take_of_length_le (by omega)]
    | succ m ih =>
      intro k h1 h2 h3
      rw [← trim_take_zero (by omega) (h3 k (Nat.le_refl _) (by omega))]
      exact ih (k + 1) (by omega) (by omega) fun j hj hj2 => h3 j (by omega) hj2
  exact this _ k rfl

set_option maxHeartbeats 2000000 in
theorem norm_any (a : Option Addr) (n c : Nat) (l : List Nat) (W : World) (h : NR W a n l) (hm : n ≤ maxLen) (hnc : n ≤ c) (hcm : c ≤ maxLen) :
    Calls Tryd.prog 106 #[.slice a n c] W fun e w' => ∃ k, e = .returned (.slice a k c) ∧ k ≤ n ∧ l.take k = limbs (val l) ∧ W = w' := by
  have hm' : n ≤ 9223372036854775807 := hm
  have hcm' : c ≤ 9223372036854775807 := hcm
  have HL := Lib.hid h.len
  have HN := Lib.hid h; clear h
  go_enter Tryd.func106, Tryd.ntmps106
  go_wp2_with fail
  go_loop [0] (fun v => ∃ k : Nat, k ≤ n ∧ v = .slice a k c ∧ trim (l.take k) = trim l) (fun v => match v with | .slice _ k _ => k | _ => 0)
  case atStart => exact ⟨n, Nat.le_refl _, rfl, by rw [List.take_of_length_le (by have := HL.out; omega)]⟩
  case round =>
    obtain ⟨k, hk, rfl, htr⟩ := hrel
    have HT := Lib.hid htr; clear htr
    cases k with
    | zero =>
      have HF : Hid (l.take 0 = limbs (val l)) := by
        show _ = _
        rw [limbs_val HN.out.2, ← HT.out]; simp [trim]
      go_wp2
      go_ret
      exact ⟨0, rfl, by omega, HF.out, rfl⟩
    | succ k =>
      obtain ⟨b, o, rfl, hb, hc⟩ := HN.out.addr (by omega)
      have x0 := hc k (by omega)
      clear hc
      have hkl : k < l.length := by have := HL.out; omega
      have k0 : (0 : Int) ≤ (k : Int) := by omega
      have k1 : (k : Int) < (k : Int) + 1 := by omega
      have k2 : (k : Int) ≤ (c : Int) := by omega
      by_cases hz : l.getD k 0 = 0
      · have HF : Hid (trim (l.take k) = trim l) := by
          show _ = _
          rw [← trim_take_zero hkl hz]; exact HT.out
        rw [hz] at x0
        clear hz
        go_wp2
        exact ⟨⟨k, by omega, rfl, HF.out⟩, by simp⟩
      · have HF : Hid (l.take (k + 1) = limbs (val l)) := by
          show _ = _
          rw [limbs_val HN.out.2, ← HT.out, trim_take_pos hkl hz]
        have hzb : (((l.getD k 0 : Nat) : Int) == 0) = false := by rw [beq_eq_false_iff_ne]; omega
        generalize l.getD k 0 = z at *
        go_wp2
        go_ret
        exact ⟨k + 1, rfl, hk, HF.out, rfl⟩

/-- a number: its slice reads as its limbs -/
structure NV (w : World) (a : Option Addr) (n c x : Nat) : Prop where
  nr : NR w a n (limbs x)
  le : n ≤ c
  cm : c ≤ maxLen
  cap : a = none → c = 0
theorem NV.up {w w' : World} {a : Option Addr} {n c x : Nat} (h : NV w a n c x) (hb : Below w.heap.size w w') : NV w' a n c x := ⟨h.nr.up hb, h.le, h.cm, h.cap⟩
theorem NV.len {w : World} {a : Option Addr} {n c x : Nat} (h : NV w a n c x) : n = (limbs x).length := h.nr.len
theorem norm_nr (a : Option Addr) (n c : Nat) (l : List Nat) (W : World) (h : NR W a n l) (hm : n ≤ maxLen) (hnc : n ≤ c) (hcm : c ≤ maxLen) :
    Calls Tryd.prog 106 #[.slice a n c] W fun e w' => ∃ k, e = .returned (.slice a k c) ∧ k ≤ n ∧ l.take k = limbs (val l) ∧ NR W a k (limbs (val l)) ∧ W = w' :=
  (norm_any a n c l W h hm hnc hcm).mono fun e w' hp => by
    obtain ⟨k, h1, h2, h3, h4⟩ := hp
    exact ⟨k, h1, h2, h3, by rw [← h3]; exact h.take h2, h4⟩

theorem own_prefix {w : World} {base sz n c k : Nat} {e : TypeId} {a : Option Addr} {xs : List Value} (h : w.ownsRow base e sz (.slice a n c) n xs) (hk : k ≤ n) : w.ownsRow base e sz (.slice a k c) k (xs.take (k * sz)) := by
  have hkn : k * sz ≤ n * sz := Nat.mul_le_mul_right _ hk
  refine ⟨by rw [List.length_take, h.1]; omega, ?_⟩
  rcases h.2 with ⟨h1, h2⟩ | ⟨g, cap, cur, h1, h2, h3, h4, h5, h6, h7⟩
  · cases h1
    obtain rfl : k = 0 := by omega
    left
    exact ⟨rfl, by simp⟩
  · cases h1
    refine .inr ⟨g, c, cur, rfl, h2, h3, by omega, h5, h6, ?_⟩
    rw [← h7, List.take_take, Nat.min_eq_left hkn]

/-! ### Cmp -/

/-! ### From -/
theorem from_any (x : Nat) (W : World) (hx : x < 18446744073709551616) :
    Calls Tryd.prog 84 #[.int .u64 x] W fun e w' => ∃ n, e = .returned (.slice (some ⟨W.heap.size, 0, none⟩) n 2) ∧ w'.ownsRow W.heap.size 73 1 (.slice (some ⟨W.heap.size, 0, none⟩) n 2) n ((ofN (limbs x)).map (Value.int .u32)) ∧ NV w' (some ⟨W.heap.size, 0, none⟩) n 2 x ∧ Below W.heap.size W w' := by
  have hv : val [x % B32, x / B32] = x := by
    simp only [val, Nat.mul_zero, Nat.add_zero]
    exact Nat.mod_add_div x B32
  have hu : U32 [x % B32, x / B32] := by
    intro y hy
    simp only [List.mem_cons, List.not_mem_nil, or_false] at hy
    rcases hy with rfl | rfl
    · exact Nat.mod_lt _ (by decide)
    · exact Nat.div_lt_of_lt_mul (by show x < 4294967296 * 4294967296; omega)
  have e1 : (x : Int) % 4294967296 = ((x % B32 : Nat) : Int) := by simp
  have e2 : (x : Int) / 4294967296 = ((x / B32 : Nat) : Int) := by simp
  have hd : x / B32 < B32 := hu _ (by simp)
  have e3 : ((x / B32 : Nat) : Int) % 4294967296 = ((x / B32 : Nat) : Int) := by
    have : ((x / B32 : Nat) : Int) < 4294967296 := by omega
    exact Int.emod_eq_of_lt (by omega) this
  have HV := Lib.hid hv; clear hv
  have HU := Lib.hid hu; clear hu
  have x0 : (0 : Int) ≤ (x : Int) := by omega
  have x1 : (x : Int) ≤ 18446744073709551615 := by omega
  generalize x % B32 = p at *
  generalize x / B32 = q at *
  go_enter Tryd.func84, Tryd.ntmps84
  go_wp2_with fail
  have hnr : NR (W.alloc (.cells #[.int .u32 (p : Int), .int .u32 (q : Int)] 73)) (some ⟨W.heap.size, 0, none⟩) 2 [p, q] := ⟨rk_new rfl rfl rfl, HU.out⟩
  have hol : (W.alloc (.cells #[.int .u32 (p : Int), .int .u32 (q : Int)] 73)).ownsRow W.heap.size 73 1 (.slice (some ⟨W.heap.size, 0, none⟩) 2 2) 2 ((ofN [p, q]).map (Value.int .u32)) := own_lit (n := 2) rfl (Nat.le_refl _) (by decide) rfl
  have HOL := Lib.hid hol; clear hol
  refine (norm_nr _ 2 2 [p, q] _ hnr (by decide) (Nat.le_refl _) (by decide)).mono ?_; rintro e w' ⟨k, rfl, hk, htk, hn, rfl⟩
  rw [HV.out] at hn htk
  have HN := Lib.hid hn
  have HT := Lib.hid htk
  clear hn htk hnr
  go_wp2
  go_ret
  refine ⟨k, rfl, ?_, ⟨HN.out, hk, by decide, fun e => by cases e⟩, balloc (bnil W) _⟩
  have := own_prefix HOL.out hk
  rw [Nat.mul_one, ← List.map_take, ofN_take, HT.out] at this
  exact this

/-! ### Add -/
theorem add32_any (x y c : Nat) (W : World) (hx : x < B32) (hy : y < B32) (hc : c ≤ 1) :
    Calls Tryd.prog 105 #[.int .u32 x, .int .u32 y, .int .u32 c] W fun e w' => e = .returned (.tuple #[.int .u32 (((x + y + c) % B32 : Nat) : Int), .int .u32 (((x + y + c) / B32 : Nat) : Int)]) ∧ W = w' := by
  obtain ⟨s, hs⟩ : ∃ s, x + y + c = s := ⟨_, rfl⟩
  have hsi : (x : Int) + (y : Int) + (c : Int) = (s : Int) := by omega
  have hx'' : x < 4294967296 := hx
  have hy'' : y < 4294967296 := hy
  have hs2 : s < 2 * B32 := by show s < 2 * 4294967296; omega
  rw [hs]
  have e1 : (s : Int) % 4294967296 = ((s % B32 : Nat) : Int) := by simp
  have e2 : (s : Int) / 4294967296 = ((s / B32 : Nat) : Int) := by simp
  have e3 : ((s / B32 : Nat) : Int) % 4294967296 = ((s / B32 : Nat) : Int) := by
    have : s / B32 < 2 := Nat.div_lt_of_lt_mul (by rw [Nat.mul_comm]; exact hs2)
    exact Int.emod_eq_of_lt (by omega) (by omega)
  have hx' : x < 4294967296 := hx
  have hy' : y < 4294967296 := hy
  have b1 : (x : Int) < 4294967296 := by omega
  have b2 : (y : Int) < 4294967296 := by omega
  have b3 : (c : Int) ≤ 1 := by omega
  have hs3 : s < 2 * 4294967296 := hs2
  have b4 : (s : Int) < 8589934592 := by omega
  clear hs hs2 hs3 hx hy
  generalize s % B32 = p at *
  generalize s / B32 = q at *
  go_enter Tryd.func105, Tryd.ntmps105
  go_wp2
  go_ret2
  exact ⟨by rw [← e1]; rfl, rfl⟩

/-- the sum so far, and the carry -/
def AddAt (la lb cur : List Nat) (i c : Nat) : Prop := cur.length = la.length + 1 ∧ U32 cur ∧ c ≤ 1 ∧ val (cur.take i) + c * B32 ^ i = val (la.take i) + val (lb.take i)
theorem addAt_step {la lb cur : List Nat} {i c : Nat} (h : AddAt la lb cur i c) (hi : i < la.length) (ha : U32 la) (hb : U32 lb) : AddAt la lb (cur.set i ((la.getD i 0 + lb.getD i 0 + c) % B32)) (i + 1) ((la.getD i 0 + lb.getD i 0 + c) / B32) := by
  obtain ⟨h1, h2, h3, h4⟩ := h
  have ux := u32_at ha i
  have uy := u32_at hb i
  generalize hxx : la.getD i 0 = x at *
  generalize hyy : lb.getD i 0 = y at *
  have ux' : x < 4294967296 := ux
  have uy' : y < 4294967296 := uy
  refine ⟨by simpa using h1, u32_set h2 _ (Nat.mod_lt _ (by decide)), ?_, ?_⟩
  · have : (x + y + c) / B32 < 2 := Nat.div_lt_of_lt_mul (by show x + y + c < 4294967296 * 2; omega)
    omega
  · have ht : (cur.set i ((x + y + c) % B32)).take (i + 1) = cur.take i ++ [(x + y + c) % B32] := by
      rw [takeN_snoc (by simp; omega), List.take_set_of_le (Nat.le_refl _)]
      simp [show i < cur.length by omega]
    have hl : (cur.take i).length = i := by simp; omega
    rw [ht, val_append, hl, val_take_succ la, val_take_succ lb, hxx, hyy]
    simp only [val, Nat.mul_zero, Nat.add_zero]
    have e := Nat.mod_add_div (x + y + c) B32
    have e2 : B32 ^ (i + 1) = B32 * B32 ^ i := by rw [Nat.pow_succ, Nat.mul_comm]
    rw [e2]
    have e3 : B32 ^ i * ((x + y + c) % B32) + (x + y + c) / B32 * (B32 * B32 ^ i) = (x + y + c) * B32 ^ i := by
      conv => rhs; rw [← e]
      rw [Nat.add_mul, Nat.mul_comm (B32 ^ i), Nat.mul_comm B32 ((x + y + c) / B32), Nat.mul_assoc]
    rw [Nat.add_mul, Nat.add_mul] at e3
    omega

theorem addAt_end {la lb cur : List Nat} {c : Nat} (h : AddAt la lb cur la.length c) (hab : lb.length ≤ la.length) : val (cur.set la.length c) = val la + val lb ∧ U32 (cur.set la.length c) := by
  obtain ⟨h1, h2, h3, h4⟩ := h
  rw [List.take_of_length_le (Nat.le_refl _), List.take_of_length_le hab] at h4
  refine ⟨?_, u32_set h2 _ (by show c < 4294967296; omega)⟩
  have e : cur.set la.length c = cur.take la.length ++ [c] := by
    rw [List.set_eq_take_append_cons_drop, if_pos (by omega), List.drop_of_length_le (by omega)]
  have hl : (cur.take la.length).length = la.length := by simp; omega
  rw [e, val_append, hl, ← h4]
  simp only [val, Nat.mul_zero, Nat.add_zero]
  rw [Nat.mul_comm]
theorem made_u32 (n : Nat) : (madeCells (Value.int .u32 0).cells (n * 1)).toList = (ofN (List.replicate n 0)).map (Value.int .u32) := by
  rw [show (Value.int .u32 0).cells = #[.int .u32 0] from by rfl, toList_madeCells_one]
  simp [ofN]
theorem map_setu (l : List Nat) (i x : Nat) : ((ofN l).map (Value.int .u32)).set i (.int .u32 (x : Int)) = (ofN (l.set i x)).map (Value.int .u32) := by rw [← ofN_set, List.map_set]
theorem mapu_at (l : List Nat) (i : Nat) (h : i < l.length) : ((ofN l).map (Value.int .u32))[i]? = some (.int .u32 (l.getD i 0 : Nat)) := by simp [ofN, h]

set_option maxHeartbeats 4000000 in
theorem add_long (a1 a2 : Option Addr) (n1 n2 c1 c2 : Nat) (l1 l2 : List Nat) (W : World) (h1 : NR W a1 n1 l1) (h2 : NR W a2 n2 l2) (hm : n1 * 4 ≤ 140737488350000) (hle : n2 ≤ n1) :
    Calls Tryd.prog 82 #[.slice a1 n1 c1, .slice a2 n2 c2] W fun e w' => ∃ a' n' c', e = .returned (.slice a' n' c') ∧ w'.ownsRow W.heap.size 73 1 (.slice a' n' c') n' ((ofN (limbs (val l1 + val l2))).map (Value.int .u32)) ∧ NV w' a' n' c' (val l1 + val l2) ∧ Below W.heap.size W w' := by
  have HL1 := Lib.hid h1.len
  have HL2 := Lib.hid h2.len
  have H1 := Lib.hid h1; clear h1
  have H2 := Lib.hid h2; clear h2
  go_enter Tryd.func82, Tryd.ntmps82
  go_wp2_with (first
    | (at_make; refine mk_full rfl _ _ _ rfl W.heap.size et_nat .i64 .i64 _ _ (n1 + 1) rfl rfl (by omega) (by omega) (by omega) (by unfold maxLen; omega) (Nat.le_refl _) ?_; intro w1 hown1 hb1 hsz1; rw [made_u32] at hown1))
  go_loopw [6, 23] (fun cx ix wr => ∃ (k c : Nat) (cur : List Nat), k ≤ n1 ∧ ix = .int .i64 k ∧ cx = .int .u32 c ∧ AddAt l1 l2 cur k c ∧ wr.ownsRow W.heap.size 73 1 (.slice (some ⟨W.heap.size, 0, none⟩) (n1 + 1) (n1 + 1)) (n1 + 1) ((ofN cur).map (Value.int .u32)) ∧ Below W.heap.size W wr) (fun _ ix _ => n1 - (intOf ix).toNat)
  case atStart => exact ⟨0, 0, _, by omega, rfl, rfl, ⟨by have := HL1.out; simp; omega, u32_zeros _, by omega, by simp [val]⟩, hown1, hb1⟩
  case round =>
    clear hown1
    obtain ⟨k, c, cur, hk, rfl, rfl, hadd, hown, hb⟩ := hrel
    by_cases hlt : k < n1
    · obtain ⟨b1, o1, rfl, hb1, hx1⟩ := H1.out.addr (by omega)
      have x0 := (hb.cell (p := ⟨b1, o1 + k, none⟩) hb1).trans (hx1 k hlt)
      clear hx1
      have hcl : cur.length = n1 + 1 := by have := hadd.1; have := HL1.out; omega
      have z0 : wr.cell? ⟨W.heap.size, k, none⟩ = some (.int .u32 (cur.getD k 0 : Nat)) := by rw [hown.cellAt k (by omega), mapu_at _ _ (by omega)]
      have f0 := hown.frozenAt k
      have hst := fun x : Nat => own_set hown k (.int .u32 (x : Int))
      have hadd2 := addAt_step hadd (by have := HL1.out; omega) H1.out.2 H2.out.2
      have hc1 := hadd.2.2.1
      have ux := u32_at H1.out.2 k
      have uy := u32_at H2.out.2 k
      have HADD := Lib.hid hadd2
      have HST : Hid (∀ x : Nat, (wr.setCell ⟨W.heap.size, k, none⟩ (.int .u32 (x : Int))).ownsRow W.heap.size 73 1 (.slice (some ⟨W.heap.size, 0, none⟩) (n1 + 1) (n1 + 1)) (n1 + 1) ((ofN (cur.set k x)).map (Value.int .u32))) := fun x => by
        have := hst x
        rwa [map_setu] at this
      have HUX := Lib.hid ux
      have HUY := Lib.hid uy
      clear hadd hadd2 hst hown hcl ux uy
      have i0 : (0 : Int) ≤ (k : Int) := by omega
      have i1 : (k : Int) < (n1 : Int) := by omega
      have i2 : (k : Int) < (n1 : Int) + 1 := by omega
      by_cases hltB : k < n2
      · obtain ⟨b2, o2, rfl, hb2, hx2⟩ := H2.out.addr (by omega)
        have y0 := (hb.cell (p := ⟨b2, o2 + k, none⟩) hb2).trans (hx2 k hltB)
        clear hx2
        have i3 : (k : Int) < (n2 : Int) := by omega
        generalize l1.getD k 0 = x at *
        generalize l2.getD k 0 = y at *
        generalize cur.getD k 0 = z at *
        go_wp2_with fail
        refine (add32_any x y c _ HUX.out HUY.out hc1).mono ?_; rintro e w5 ⟨rfl, rfl⟩
        generalize (x + y + c) % B32 = p at *
        generalize (x + y + c) / B32 = q at *
        go_wp2
        go_roundw
        case rel => exact ⟨k + 1, q, _, by omega, by go_num, rfl, HADD.out, HST.out p, hb.setCell (p := ⟨W.heap.size, k, none⟩) (Nat.le_refl _) _⟩
        case measure => simp [intOf]; omega
      · have hy0 : l2.getD k 0 = 0 := by
          have := HL2.out
          simp [List.getD_eq_getElem?_getD, show l2.length ≤ k by omega]
        rw [hy0] at HADD
        clear hy0 HUY
        generalize l1.getD k 0 = x at *
        generalize cur.getD k 0 = z at *
        go_wp2_with fail
        refine (add32_any x 0 c _ HUX.out (by decide) hc1).mono ?_; rintro e w5 ⟨rfl, rfl⟩
        generalize (x + 0 + c) % B32 = p at *
        generalize (x + 0 + c) / B32 = q at *
        go_wp2
        go_roundw
        case rel => exact ⟨k + 1, q, _, by omega, by go_num, rfl, HADD.out, HST.out p, hb.setCell (p := ⟨W.heap.size, k, none⟩) (Nat.le_refl _) _⟩
        case measure => simp [intOf]; omega
    · obtain rfl : k = n1 := by omega
      have hcl : cur.length = k + 1 := by have := hadd.1; have := HL1.out; omega
      have z0 : wr.cell? ⟨W.heap.size, k, none⟩ = some (.int .u32 (cur.getD k 0 : Nat)) := by rw [hown.cellAt k (by omega), mapu_at _ _ (by omega)]
      have f0 := hown.frozenAt k
      have hend := addAt_end (la := l1) (lb := l2) (cur := cur) (c := c) (by rw [← HL1.out]; exact hadd) (by have := HL1.out; have := HL2.out; omega)
      rw [← HL1.out] at hend
      have hst := own_set hown k (.int .u32 (c : Int))
      rw [map_setu] at hst
      have HEND := Lib.hid hend
      have HST := Lib.hid hst
      have hb5 := hb.setCell (p := ⟨W.heap.size, k, none⟩) (Nat.le_refl _) (.int .u32 (c : Int))
      clear hadd hcl hend hst hown
      have i0 : (0 : Int) ≤ (k : Int) := by omega
      have i1 : (k : Int) < (k : Int) + 1 := by omega
      generalize cur.getD k 0 = z at *
      go_wp2_with fail
      refine (norm_nr _ (k + 1) (k + 1) (cur.set k c) _ ⟨RK.of_own HST.out, HEND.out.2⟩ (by unfold maxLen; omega) (Nat.le_refl _) (by unfold maxLen; omega)).mono ?_; rintro e w6 ⟨m, rfl, hmk, htk, hnr, rfl⟩
      have hpre := own_prefix HST.out hmk
      rw [Nat.mul_one, ← List.map_take, ofN_take, htk] at hpre
      rw [HEND.out.1] at hpre hnr
      have HPRE := Lib.hid hpre
      have HNR := Lib.hid hnr
      clear hpre hnr htk
      go_wp2
      go_ret
      exact ⟨_, m, k + 1, rfl, HPRE.out, ⟨HNR.out, hmk, by unfold maxLen; omega, fun e => by cases e⟩, hb5⟩
set_option maxHeartbeats 4000000 in
theorem add_short (a1 a2 : Option Addr) (n1 n2 c1 c2 : Nat) (l1 l2 : List Nat) (W : World) (h1 : NR W a1 n1 l1) (h2 : NR W a2 n2 l2) (hm : n2 * 4 ≤ 140737488350000) (hle : n1 < n2) :
    Calls Tryd.prog 82 #[.slice a1 n1 c1, .slice a2 n2 c2] W fun e w' => ∃ a' n' c', e = .returned (.slice a' n' c') ∧ w'.ownsRow W.heap.size 73 1 (.slice a' n' c') n' ((ofN (limbs (val l1 + val l2))).map (Value.int .u32)) ∧ NV w' a' n' c' (val l1 + val l2) ∧ Below W.heap.size W w' := by
  have HL1 := Lib.hid h1.len
  have HL2 := Lib.hid h2.len
  have H1 := Lib.hid h1; clear h1
  have H2 := Lib.hid h2; clear h2
  go_enter Tryd.func82, Tryd.ntmps82
  go_wp2_with (first
    | (at_make; refine mk_full rfl _ _ _ rfl W.heap.size et_nat .i64 .i64 _ _ (n2 + 1) rfl rfl (by omega) (by omega) (by omega) (by unfold maxLen; omega) (Nat.le_refl _) ?_; intro w1 hown1 hb1 hsz1; rw [made_u32] at hown1))
  go_loopw [6, 23] (fun cx ix wr => ∃ (k c : Nat) (cur : List Nat), k ≤ n2 ∧ ix = .int .i64 k ∧ cx = .int .u32 c ∧ AddAt l2 l1 cur k c ∧ wr.ownsRow W.heap.size 73 1 (.slice (some ⟨W.heap.size, 0, none⟩) (n2 + 1) (n2 + 1)) (n2 + 1) ((ofN cur).map (Value.int .u32)) ∧ Below W.heap.size W wr) (fun _ ix _ => n2 - (intOf ix).toNat)
  case atStart => exact ⟨0, 0, _, by omega, rfl, rfl, ⟨by have := HL2.out; simp; omega, u32_zeros _, by omega, by simp [val]⟩, hown1, hb1⟩
  case round =>
    clear hown1
    obtain ⟨k, c, cur, hk, rfl, rfl, hadd, hown, hb⟩ := hrel
    by_cases hlt : k < n2
    · obtain ⟨b1, o1, rfl, hb1, hx1⟩ := H2.out.addr (by omega)
      have x0 := (hb.cell (p := ⟨b1, o1 + k, none⟩) hb1).trans (hx1 k hlt)
      clear hx1
      have hcl : cur.length = n2 + 1 := by have := hadd.1; have := HL2.out; omega
      have z0 : wr.cell? ⟨W.heap.size, k, none⟩ = some (.int .u32 (cur.getD k 0 : Nat)) := by rw [hown.cellAt k (by omega), mapu_at _ _ (by omega)]
      have f0 := hown.frozenAt k
      have hst := fun x : Nat => own_set hown k (.int .u32 (x : Int))
      have hadd2 := addAt_step hadd (by have := HL2.out; omega) H2.out.2 H1.out.2
      have hc1 := hadd.2.2.1
      have ux := u32_at H2.out.2 k
      have uy := u32_at H1.out.2 k
      have HADD := Lib.hid hadd2
      have HST : Hid (∀ x : Nat, (wr.setCell ⟨W.heap.size, k, none⟩ (.int .u32 (x : Int))).ownsRow W.heap.size 73 1 (.slice (some ⟨W.heap.size, 0, none⟩) (n2 + 1) (n2 + 1)) (n2 + 1) ((ofN (cur.set k x)).map (Value.int .u32))) := fun x => by
        have := hst x
        rwa [map_setu] at this
      have HUX := Lib.hid ux
      have HUY := Lib.hid uy
      clear hadd hadd2 hst hown hcl ux uy
      have i0 : (0 : Int) ≤ (k : Int) := by omega
      have i1 : (k : Int) < (n2 : Int) := by omega
      have i2 : (k : Int) < (n2 : Int) + 1 := by omega
      by_cases hltB : k < n1
      · obtain ⟨b2, o2, rfl, hb2, hx2⟩ := H1.out.addr (by omega)
        have y0 := (hb.cell (p := ⟨b2, o2 + k, none⟩) hb2).trans (hx2 k hltB)
        clear hx2
        have i3 : (k : Int) < (n1 : Int) := by omega
        generalize l2.getD k 0 = x at *
        generalize l1.getD k 0 = y at *
        generalize cur.getD k 0 = z at *
        go_wp2_with fail
        refine (add32_any x y c _ HUX.out HUY.out hc1).mono ?_; rintro e w5 ⟨rfl, rfl⟩
        generalize (x + y + c) % B32 = p at *
        generalize (x + y + c) / B32 = q at *
        go_wp2
        go_roundw
        case rel => exact ⟨k + 1, q, _, by omega, by go_num, rfl, HADD.out, HST.out p, hb.setCell (p := ⟨W.heap.size, k, none⟩) (Nat.le_refl _) _⟩
        case measure => simp [intOf]; omega
      · have hy0 : l1.getD k 0 = 0 := by
          have := HL1.out
          simp [List.getD_eq_getElem?_getD, show l1.length ≤ k by omega]
        rw [hy0] at HADD
        clear hy0 HUY
        generalize l2.getD k 0 = x at *
        generalize cur.getD k 0 = z at *
        go_wp2_with fail
        refine (add32_any x 0 c _ HUX.out (by decide) hc1).mono ?_; rintro e w5 ⟨rfl, rfl⟩
        generalize (x + 0 + c) % B32 = p at *
        generalize (x + 0 + c) / B32 = q at *
        go_wp2
        go_roundw
        case rel => exact ⟨k + 1, q, _, by omega, by go_num, rfl, HADD.out, HST.out p, hb.setCell (p := ⟨W.heap.size, k, none⟩) (Nat.le_refl _) _⟩
        case measure => simp [intOf]; omega
    · obtain rfl : k = n2 := by omega
      have hcl : cur.length = k + 1 := by have := hadd.1; have := HL2.out; omega
      have z0 : wr.cell? ⟨W.heap.size, k, none⟩ = some (.int .u32 (cur.getD k 0 : Nat)) := by rw [hown.cellAt k (by omega), mapu_at _ _ (by omega)]
      have f0 := hown.frozenAt k
      have hend := addAt_end (la := l2) (lb := l1) (cur := cur) (c := c) (by rw [← HL2.out]; exact hadd) (by have := HL2.out; have := HL1.out; omega)
      rw [← HL2.out] at hend
      have hst := own_set hown k (.int .u32 (c : Int))
      rw [map_setu] at hst
      have HEND := Lib.hid hend
      have HST := Lib.hid hst
      have hb5 := hb.setCell (p := ⟨W.heap.size, k, none⟩) (Nat.le_refl _) (.int .u32 (c : Int))
      clear hadd hcl hend hst hown
      have i0 : (0 : Int) ≤ (k : Int) := by omega
      have i1 : (k : Int) < (k : Int) + 1 := by omega
      generalize cur.getD k 0 = z at *
      go_wp2_with fail
      refine (norm_nr _ (k + 1) (k + 1) (cur.set k c) _ ⟨RK.of_own HST.out, HEND.out.2⟩ (by unfold maxLen; omega) (Nat.le_refl _) (by unfold maxLen; omega)).mono ?_; rintro e w6 ⟨m, rfl, hmk, htk, hnr, rfl⟩
      have hpre := own_prefix HST.out hmk
      rw [Nat.mul_one, ← List.map_take, ofN_take, htk] at hpre
      rw [HEND.out.1] at hpre hnr
      have HPRE := Lib.hid hpre
      have HNR := Lib.hid hnr
      clear hpre hnr htk
      go_wp2
      go_ret
      rw [Nat.add_comm (val l1)]
      exact ⟨_, m, k + 1, rfl, HPRE.out, ⟨HNR.out, hmk, by unfold maxLen; omega, fun e => by cases e⟩, hb5⟩

theorem add_any (a1 a2 : Option Addr) (n1 n2 c1 c2 : Nat) (l1 l2 : List Nat) (W : World) (h1 : NR W a1 n1 l1) (h2 : NR W a2 n2 l2) (hm1 : n1 * 4 ≤ 140737488350000) (hm2 : n2 * 4 ≤ 140737488350000) :
    Calls Tryd.prog 82 #[.slice a1 n1 c1, .slice a2 n2 c2] W fun e w' => ∃ a' n' c', e = .returned (.slice a' n' c') ∧ w'.ownsRow W.heap.size 73 1 (.slice a' n' c') n' ((ofN (limbs (val l1 + val l2))).map (Value.int .u32)) ∧ NV w' a' n' c' (val l1 + val l2) ∧ Below W.heap.size W w' := by
  by_cases h : n2 ≤ n1
  · exact add_long a1 a2 n1 n2 c1 c2 l1 l2 W h1 h2 hm1 h
  · exact add_short a1 a2 n1 n2 c1 c2 l1 l2 W h1 h2 hm2 (by omega)
end Go.Proofs.YtnmegpplfbkpcaaDoor
