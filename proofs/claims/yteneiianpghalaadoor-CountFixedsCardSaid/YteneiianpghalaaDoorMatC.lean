/- The contracts of mat.Check, Mul, Pow, Trace, Go where nothing is refused. -/
import Derived.Test.YteneiianpghalaaDoorMatB
namespace Go.Proofs.YteneiianpghalaaDoor
open Go.RowKit
set_option linter.unusedVariables false
set_option maxRecDepth 100000

/-- what is wrong with a list of lists, as Check tells it -/
def MatBad (n : Nat) (len : Nat → Nat) (x : Int × Int) : Prop := (96 < n ∧ x = (0, 4)) ∨ (n ≤ 96 ∧ ∃ i : Nat, i < n ∧ (∀ p, p < i → len p = n) ∧ len i ≠ n ∧ x = ((i : Int), 1))
def Square (n : Nat) (len : Nat → Nat) : Prop := n ≤ 96 ∧ ∀ i, i < n → len i = n
theorem matBad_or (n : Nat) (len : Nat → Nat) : Square n len ∨ ∃ x, MatBad n len x := by
  by_cases h : 96 < n
  · exact .inr ⟨(0, 4), .inl ⟨h, rfl⟩⟩
  · have : ∀ k, k ≤ n → (∀ p, p < k → len p = n) ∨ ∃ i : Nat, i < n ∧ (∀ p, p < i → len p = n) ∧ len i ≠ n := by
      intro k
      induction k with
      | zero => intro _; exact .inl fun p hp => by omega
      | succ k ih =>
        intro hk
        rcases ih (by omega) with h1 | h1
        · by_cases e : len k = n
          · exact .inl fun p hp => by
              by_cases e2 : p = k
              · rw [e2]; exact e
              · exact h1 p (by omega)
          · exact .inr ⟨k, by omega, h1, e⟩
        · exact .inr h1
    rcases this n (Nat.le_refl _) with h1 | ⟨i, h1, h2, h3⟩
    · exact .inl ⟨by omega, h1⟩
    · exact .inr ⟨((i : Int), 1), .inr ⟨by omega, i, h1, h2, h3, rfl⟩⟩
theorem MsR.square {w : World} {a : Option Addr} {n : Nat} {len : Nat → Nat} {F : Nat → Nat → List Nat} (h : MsR w a n len F) (hs : ∀ i, i < n → len i = n) : MsR w a n (fun _ => n) F :=
  Cells.up h (bnil _) fun i v hi h => by rw [hs i hi] at h; exact h

set_option maxHeartbeats 2000000 in
theorem mcheck_ok (a : Option Addr) (n c : Nat) (len : Nat → Nat) (F : Nat → Nat → List Nat) (W : World) (hM : MsR W a n len F) (hs : Square n len) :
    Calls Tryd.prog 46 #[.slice a n c] W fun e w' => e = .returned .nilIface ∧ W = w' := by
  have hn := hs.1
  have HS := Lib.hid hs.2; clear hs
  have HM := Lib.hid hM; clear hM
  go_enter Tryd.func46, Tryd.ntmps46
  go_wp2_with fail
  go_loop [11] (fun ix => ∃ i : Nat, i ≤ n ∧ ix = .int .i64 i) (fun ix => n - (intOf ix).toNat)
  case atStart => exact ⟨0, by omega, rfl⟩
  case round =>
    obtain ⟨i, hi, rfl⟩ := hrel
    by_cases hin : i < n
    · obtain ⟨b, o, rfl, _, hc⟩ := HM.out.addr (by omega)
      obtain ⟨a1, c1, x0, _, _, _, _⟩ := hc i hin
      rw [HS.out i hin] at x0
      clear hc
      have i0 : (0 : Int) ≤ (i : Int) := by omega
      have i1 : (i : Int) < (n : Int) := by omega
      go_wp2
      go_round
      case rel => exact ⟨i + 1, by omega, by go_num⟩
      case measure => simp [intOf]; omega
    · go_wp2
      go_ret
      exact ⟨rfl, rfl⟩

set_option maxHeartbeats 2000000 in
theorem mcheck_err (a : Option Addr) (n c : Nat) (len : Nat → Nat) (F : Nat → Nat → List Nat) (W : World) (R : Nat → Addr) (hG : Glob W R) (hM : MsR W a n len F) (hm : n ≤ maxLen) (x : Int × Int) (hx : MatBad n len x) :
    Calls Tryd.prog 46 #[.slice a n c] W fun e w' => ∃ g, e = .returned (.iface 120 (.pointer (some ⟨g, 0, none⟩))) ∧ IsErr W.heap.size R w' (.iface 120 (.pointer (some ⟨g, 0, none⟩))) opMat x.1 x.2 ∧ Below W.heap.size W w' := by
  unfold maxLen at hm
  have HG := Lib.hid hG; clear hG
  have HM := Lib.hid hM; clear hM
  rcases hx with ⟨h1, rfl⟩ | ⟨h1, q, hq, hbef, hbad, rfl⟩
  · go_enter Tryd.func46, Tryd.ntmps46
    go_wp2_with fail
    refine (mat_wrong _ _ _ R HG.out rfl).mono ?_; rintro e w' ⟨rfl, rfl⟩
    go_wp2
    go_ret
    exact ⟨_, rfl, isErr_new (Nat.le_refl _), balloc (bnil W) _⟩
  · have HBEF := Lib.hid hbef; clear hbef
    go_enter Tryd.func46, Tryd.ntmps46
    go_wp2_with fail
    go_loop [11] (fun ix => ∃ i : Nat, i ≤ q ∧ ix = .int .i64 i) (fun ix => n - (intOf ix).toNat)
    case atStart => exact ⟨0, by omega, rfl⟩
    case round =>
      obtain ⟨i, hi, rfl⟩ := hrel
      obtain ⟨b, o, rfl, _, hc⟩ := HM.out.addr (by omega)
      obtain ⟨a1, c1, x0, _, _, _, _⟩ := hc i (by omega)
      clear hc
      have i0 : (0 : Int) ≤ (i : Int) := by omega
      have i1 : (i : Int) < (n : Int) := by omega
      by_cases hiq : i < q
      · rw [HBEF.out i hiq] at x0
        go_wp2
        go_round
        case rel => exact ⟨i + 1, by omega, by go_num⟩
        case measure => simp [intOf]; omega
      · obtain rfl : i = q := by omega
        have hne : ((len i : Int) != (n : Int)) = true := by simp; omega
        clear hbad
        generalize len i = li at *
        go_wp2_with fail
        refine (mat_wrong _ _ _ R HG.out rfl).mono ?_; rintro e w' ⟨rfl, rfl⟩
        go_wp2
        go_ret
        exact ⟨_, rfl, isErr_new (Nat.le_refl _), balloc (bnil W) _⟩

theorem mmul_ok (aa ab : Option Addr) (n ca cb : Nat) (A B : Nat → Nat → List Nat) (L : Nat) (W : World) (hA : MsR W aa n (fun _ => n) A) (hB : MsR W ab n (fun _ => n) B) (hn : n ≤ 96) (hLA : ∀ i j, i < n → j < n → (A i j).length ≤ L) (hLB : ∀ i j, i < n → j < n → (B i j).length ≤ L) (hL : L ≤ 400000) :
    Calls Tryd.prog 39 #[.slice aa n ca, .slice ab n cb] W fun e w' => ∃ a' c' rows its, e = .returned (.tuple #[.slice a' n c', .nilIface]) ∧ OwMs w' W.heap.size (.slice a' n c') n n rows its (prodF n A B) ∧ Below W.heap.size W w' := by
  have HLA := Lib.hid hLA; clear hLA
  have HLB := Lib.hid hLB; clear hLB
  have HA := Lib.hid hA; clear hA
  have HB := Lib.hid hB; clear hB
  go_enter Tryd.func39, Tryd.ntmps39
  go_wp2_with fail
  refine (mcheck_ok aa n ca _ A _ HA.out ⟨hn, fun _ _ => rfl⟩).mono ?_; rintro e w' ⟨rfl, rfl⟩
  go_wp2_with fail
  refine (mcheck_ok ab n cb _ B _ HB.out ⟨hn, fun _ _ => rfl⟩).mono ?_; rintro e w' ⟨rfl, rfl⟩
  go_wp2_with fail
  refine (product_any aa ab n ca cb A B L _ HA.out HB.out hn HLA.out HLB.out hL).mono ?_; rintro e w2 ⟨a2, c2, rows, its, rfl, ho, hb⟩
  have HO := Lib.hid ho; clear ho
  go_wp2
  go_ret2
  exact ⟨_, _, _, _, rfl, HO.out, hb⟩

theorem mgo_ok (av am : Option Addr) (n cv cm : Nat) (V : Nat → List Nat) (M : Nat → Nat → List Nat) (L : Nat) (W : World) (hV : NsR W av n V) (hM : MsR W am n (fun _ => n) M) (hn : n ≤ 96) (hLV : ∀ i, i < n → (V i).length ≤ L) (hLM : ∀ i j, i < n → j < n → (M i j).length ≤ L) (hL : L ≤ 400000) :
    Calls Tryd.prog 48 #[.slice av n cv, .slice am n cm] W fun e w' => ∃ a' c' its, e = .returned (.tuple #[.slice a' n c', .nilIface]) ∧ OwNs w' W.heap.size (.slice a' n c') n its (fun j => limbs (thr (vN V) (vM M) n j)) ∧ Below W.heap.size W w' := by
  have HLV := Lib.hid hLV; clear hLV
  have HLM := Lib.hid hLM; clear hLM
  have HV := Lib.hid hV; clear hV
  have HM := Lib.hid hM; clear hM
  go_enter Tryd.func48, Tryd.ntmps48
  go_wp2_with fail
  refine (mcheck_ok am n cm _ M _ HM.out ⟨hn, fun _ _ => rfl⟩).mono ?_; rintro e w' ⟨rfl, rfl⟩
  go_wp2_with fail
  refine (through_any av am n cv cm V M L _ HV.out HM.out hn HLV.out HLM.out hL).mono ?_; rintro e w2 ⟨a2, c2, its, rfl, ho, hb⟩
  have HO := Lib.hid ho; clear ho
  go_wp2
  go_ret2
  exact ⟨_, _, _, rfl, HO.out, hb⟩

/-! ### Pow -/
/-- a power while it is made: r is done, k is left, the square is the power e -/
structure PowM (W wr : World) (n N L : Nat) (m : Mat) (r e k : Nat) (a : Option Addr) (c : Nat) (rows : Nat → It) (its : Nat → Nat → It) (s : Option Addr) (S : Nat → Nat → List Nat) : Prop where
  sum : r + e * k = N
  out : OwMs wr W.heap.size (.slice a n c) n n rows its (fun i j => limbs (mpow n m r i j))
  sq : MsR wr s n (fun _ => n) S
  vals : 0 < k → EqOn n (vM S) (mpow n m e)
  len : 0 < k → ∀ i j, i < n → j < n → (S i j).length ≤ (L + 1) * e + 1
  bel : Below W.heap.size W wr
theorem limbs_bd {n L : Nat} {m : Mat} (h : BdM n L m) : ∀ i j, i < n → j < n → (limbs (m i j)).length ≤ L := fun i j hi hj => limbs_len_le (h i j hi hj)
theorem PowM.le {W wr : World} {n N L r e k : Nat} {m : Mat} {a s : Option Addr} {c : Nat} {rows : Nat → It} {its : Nat → Nat → It} {S : Nat → Nat → List Nat} (h : PowM W wr n N L m r e k a c rows its s S) (hk : 0 < k) (hN : N ≤ 1024) (hL : L ≤ 300) : (L + 1) * e + 1 ≤ 400000 ∧ (L + 1) * r + 1 ≤ 400000 := by
  have h1 := h.sum
  have h2 : e ≤ e * k := Nat.le_mul_of_pos_right _ hk
  have h3 : (L + 1) * e ≤ 301 * 1024 := Nat.mul_le_mul (by omega) (by omega)
  have h4 : (L + 1) * r ≤ 301 * 1024 := Nat.mul_le_mul (by omega) (by omega)
  omega
theorem PowM.odd {W wr w2 : World} {n N L r e k : Nat} {m : Mat} {a s a2 : Option Addr} {c c2 : Nat} {rows rows2 : Nat → It} {its its2 : Nat → Nat → It} {S : Nat → Nat → List Nat} (h : PowM W wr n N L m r e k a c rows its s S) (hk : k % 2 = 1)
    (ho : OwMs w2 wr.heap.size (.slice a2 n c2) n n rows2 its2 (prodF n (fun i j => limbs (mpow n m r i j)) S)) (hb : Below wr.heap.size wr w2) : PowM W w2 n N L m (r + e) e (k - 1) a2 c2 rows2 its2 s S := by
  refine ⟨?_, (ho.base h.bel.size).congr fun i j hi hj => ?_, h.sq.up hb, fun _ => h.vals (by omega), fun _ => h.len (by omega), h.bel.trans (hb.mono h.bel.size)⟩
  · have := h.sum
    obtain ⟨t, rfl⟩ : ∃ t, k = t + 1 := ⟨k - 1, by omega⟩
    rw [Nat.mul_add, Nat.mul_one] at this
    rw [Nat.add_sub_cancel]
    omega
  · show limbs (mm n (fun i j => val (limbs (mpow n m r i j))) (vM S) i j) = _
    congr 1
    refine Eq.trans (EqOn.mm (n := n) (b := mpow n m r) (d := mpow n m e) (fun i j _ _ => val_limbs _) (h.vals (by omega)) i j hi hj) (mpow_add n m r e i j hi hj)
theorem PowM.square {W wr w2 : World} {n N L r e k : Nat} {m : Mat} {a s a2 : Option Addr} {c c2 : Nat} {rows rows2 : Nat → It} {its its2 : Nat → Nat → It} {S : Nat → Nat → List Nat} (h : PowM W wr n N L m r e k a c rows its s S) (hk : k % 2 = 0) (hk0 : 0 < k) (hn : n ≤ 96) (hm : BdM n L m)
    (ho : OwMs w2 wr.heap.size (.slice a2 n c2) n n rows2 its2 (prodF n S S)) (hb : Below wr.heap.size wr w2) : PowM W w2 n N L m r (e + e) (k / 2) a c rows its a2 (prodF n S S) := by
  have hev : EqOn n (mm n (vM S) (vM S)) (mpow n m (e + e)) := ((h.vals hk0).mm (h.vals hk0)).trans (mpow_add n m e e)
  refine ⟨?_, h.out.up hb, ho.msR, fun _ i j hi hj => ?_, fun _ i j hi hj => ?_, h.bel.trans (hb.mono h.bel.size)⟩
  · have := h.sum
    obtain ⟨t, rfl⟩ : ∃ t, k = 2 * t := ⟨k / 2, by omega⟩
    rw [Nat.mul_div_cancel_left _ (by decide)]
    rw [← Nat.mul_assoc, Nat.mul_comm e 2, Nat.two_mul] at this
    exact this
  · show val (limbs _) = _
    rw [val_limbs]; exact hev i j hi hj
  · exact limbs_len_le (by rw [hev i j hi hj]; exact bdM_pow hn hm (e + e) i j hi hj)

/-- a matrix is answered, and no error -/
def MsPost (W : World) (n : Nat) (F : Nat → Nat → List Nat) (e : Ending) (w' : World) : Prop :=
  ∃ a' c' rows its, e = .returned (.tuple #[.slice a' n c', .nilIface]) ∧ OwMs w' W.heap.size (.slice a' n c') n n rows its F ∧ Below W.heap.size W w'
set_option maxHeartbeats 4000000 in
theorem matPow_ok (a : Option Addr) (n c N : Nat) (M : Nat → Nat → List Nat) (L : Nat) (W : World) (hM : MsR W a n (fun _ => n) M) (hn : n ≤ 96) (hLM : ∀ i j, i < n → j < n → (M i j).length ≤ L) (hL : L ≤ 300) (hN : N ≤ 1024) :
    Calls Tryd.prog 41 #[.slice a n c, .int .i64 N] W (MsPost W n (fun i j => limbs (mpow n (vM M) N i j))) := by
  have hbd : BdM n L (vM M) := fun i j hi hj => Nat.lt_of_lt_of_le (val_lt (hM.u32 i j hi hj)) (Nat.pow_le_pow_right (by decide) (hLM i j hi hj))
  have HBD := Lib.hid hbd; clear hbd
  have HLM := Lib.hid hLM; clear hLM
  have HM := Lib.hid hM; clear hM
  go_enter Tryd.func41, Tryd.ntmps41
  go_wp2_with fail
  refine (mcheck_ok a n c _ M _ HM.out ⟨hn, fun _ _ => rfl⟩).mono ?_; rintro e w' ⟨rfl, rfl⟩
  go_wp2_with fail
  refine (one_any n _ hn).mono ?_; rintro e w1 ⟨a1, c1, rows, its, rfl, ho1, hb1⟩
  have hp0 : PowM W w1 n N L (vM M) 0 1 N a1 c1 rows its a M := ⟨by omega, ho1, HM.out.up hb1, fun _ => (mpow_one n (vM M)).symm, fun _ i j hi hj => by have := HLM.out i j hi hj; omega, hb1⟩
  have HP0 := Lib.hid hp0
  clear ho1 hb1 hp0
  go_wp2_with fail
  go_loopw [1, 7, 9] (fun kx ox sx wr => ∃ (r e k : Nat) (a1 : Option Addr) (c1 : Nat) (rows : Nat → It) (its : Nat → Nat → It) (s : Option Addr) (cs : Nat) (S : Nat → Nat → List Nat), k ≤ N ∧ kx = .int .i64 k ∧ ox = .slice a1 n c1 ∧ sx = .slice s n cs ∧ PowM W wr n N L (vM M) r e k a1 c1 rows its s S) (fun kx _ _ _ => (intOf kx).toNat)
  case atStart => exact ⟨0, 1, N, a1, c1, rows, its, a, c, M, Nat.le_refl _, rfl, rfl, rfl, HP0.out⟩
  case round =>
    clear HP0
    obtain ⟨r, e, k, a1, c1, rows, its, s, cs, S, hkN, rfl, rfl, rfl, hp⟩ := hrel
    have HP := Lib.hid hp; clear hp
    rcases Nat.eq_zero_or_pos k with hk0 | hk0
    · obtain rfl : 0 = k := hk0.symm
      have HO := Lib.hid (HP.out.out.congr (G := fun i j => limbs (mpow n (vM M) N i j)) fun i j _ _ => by have := HP.out.sum; rw [Nat.mul_zero, Nat.add_zero] at this; rw [this])
      go_wp2
      go_ret2
      exact ⟨_, _, _, _, rfl, HO.out, HP.out.bel⟩
    · have hle := HP.out.le hk0 hN hL
      obtain ⟨he4, hr4⟩ := hle
      by_cases hodd : k % 2 = 1
      · have m1 : (k : Int) % 2 = 1 := by omega
        have HODD := Lib.hid hodd; clear hodd
        have hlr := limbs_bd (bdM_pow hn HBD.out r)
        have HLR := Lib.hid hlr; clear hlr
        go_wp2_with fail
        refine (product_any a1 s n c1 cs _ S 400000 _ HP.out.out.msR HP.out.sq hn (fun i j hi hj => Nat.le_trans (HLR.out i j hi hj) hr4) (fun i j hi hj => Nat.le_trans (HP.out.len hk0 i j hi hj) he4) (Nat.le_refl _)).mono ?_; rintro e2 w2 ⟨a2, c2, rows2, its2, rfl, ho2, hb2⟩
        have hp2 := HP.out.odd HODD.out ho2 hb2
        have HP2 := Lib.hid hp2
        clear ho2 hb2 hp2 HP
        by_cases hk1 : 1 < k
        · go_wp2_with fail
          refine (product_any s s n cs cs S S 400000 _ HP2.out.sq HP2.out.sq hn (fun i j hi hj => Nat.le_trans (HP2.out.len (by omega) i j hi hj) he4) (fun i j hi hj => Nat.le_trans (HP2.out.len (by omega) i j hi hj) he4) (Nat.le_refl _)).mono ?_; rintro e3 w3 ⟨a3, c3, rows3, its3, rfl, ho3, hb3⟩
          have hp3 := HP2.out.square (by have := HODD.out; omega) (by omega) hn HBD.out ho3 hb3
          rw [show (k - 1) / 2 = k / 2 by have := HODD.out; omega] at hp3
          have HP3 := Lib.hid hp3
          clear ho3 hb3 hp3 HP2
          go_wp2
          go_roundw
          case rel => exact ⟨_, _, k / 2, _, _, _, _, _, _, _, by omega, by go_num, rfl, rfl, HP3.out⟩
          case measure => simp [intOf]; omega
        · have hp3 := HP2.out
          obtain rfl : k = 1 := by omega
          have HP3 := Lib.hid hp3
          clear hp3 HP2
          go_wp2
          go_roundw
          case rel => exact ⟨_, _, 0, _, _, _, _, _, _, _, by omega, by go_num, rfl, rfl, HP3.out⟩
          case measure => simp [intOf]
      · have m1 : (k : Int) % 2 = 0 := by omega
        have hk1 : 1 < k := by omega
        have HEV : Hid (k % 2 = 0) := by show _ = _; omega
        clear hodd
        go_wp2_with fail
        refine (product_any s s n cs cs S S 400000 _ HP.out.sq HP.out.sq hn (fun i j hi hj => Nat.le_trans (HP.out.len hk0 i j hi hj) he4) (fun i j hi hj => Nat.le_trans (HP.out.len hk0 i j hi hj) he4) (Nat.le_refl _)).mono ?_; rintro e3 w3 ⟨a3, c3, rows3, its3, rfl, ho3, hb3⟩
        have hp3 := HP.out.square HEV.out hk0 hn HBD.out ho3 hb3
        have HP3 := Lib.hid hp3
        clear ho3 hb3 hp3 HP
        go_wp2
        go_roundw
        case rel => exact ⟨_, _, k / 2, _, _, _, _, _, _, _, by omega, by go_num, rfl, rfl, HP3.out⟩
        case measure => simp [intOf]; omega

/-! ### Trace -/
theorem trc_len {n L i : Nat} {m : Mat} (h : BdM n L m) (hn : n ≤ 96) (hi : i ≤ n) : (limbs (sumTo i fun k => m k k)).length ≤ L + 1 := by
  refine limbs_len_le ?_
  have h1 : sumTo i (fun k => m k k) ≤ i * B32 ^ L := sumTo_le fun k hk => Nat.le_of_lt (h k k (by omega) (by omega))
  have h2 : i * B32 ^ L ≤ 96 * B32 ^ L := Nat.mul_le_mul_right _ (by omega)
  have h4 : 0 < B32 ^ L := Nat.pow_pos (by decide)
  rw [Nat.pow_succ]
  generalize B32 ^ L = z at *
  show _ < z * 4294967296
  omega

set_option maxHeartbeats 4000000 in
theorem mtrace_ok (a : Option Addr) (n c : Nat) (M : Nat → Nat → List Nat) (L : Nat) (W : World) (hM : MsR W a n (fun _ => n) M) (hn : n ≤ 96) (hLM : ∀ i j, i < n → j < n → (M i j).length ≤ L) (hL : L ≤ 400000) :
    Calls Tryd.prog 43 #[.slice a n c] W fun e w' => ∃ a' n' c', e = .returned (.tuple #[.slice a' n' c', .nilIface]) ∧ OwN w' W.heap.size (a', n', c') (limbs (trc n (vM M))) ∧ Below W.heap.size W w' := by
  have hbd : BdM n L (vM M) := fun i j hi hj => Nat.lt_of_lt_of_le (val_lt (hM.u32 i j hi hj)) (Nat.pow_le_pow_right (by decide) (hLM i j hi hj))
  have HBD := Lib.hid hbd; clear hbd
  have HLM := Lib.hid hLM; clear hLM
  have HM := Lib.hid hM; clear hM
  go_enter Tryd.func43, Tryd.ntmps43
  go_wp2_with fail
  refine (mcheck_ok a n c _ M _ HM.out ⟨hn, fun _ _ => rfl⟩).mono ?_; rintro e w' ⟨rfl, rfl⟩
  go_wp2_with fail
  go_loopw [5, 15] (fun sx ix wr => ∃ (i : Nat) (a1 : Option Addr) (n1 c1 : Nat), i ≤ n ∧ ix = .int .i64 i ∧ sx = .slice a1 n1 c1 ∧ OwN wr W.heap.size (a1, n1, c1) (limbs (sumTo i fun k => vM M k k)) ∧ Below W.heap.size W wr) (fun _ ix _ => n - (intOf ix).toNat)
  case atStart => exact ⟨0, none, 0, 0, by omega, rfl, rfl, OwN.nil _ _, bnil _⟩
  case round =>
    obtain ⟨i, a1, n1, c1, hi, rfl, rfl, ho, hb⟩ := hrel
    have HO := Lib.hid ho
    have HB := Lib.hid hb
    have hsm := ho.ns.small (trc_len HBD.out hn hi)
    simp only at hsm
    clear ho hb
    by_cases hin : i < n
    · obtain ⟨b, o, rfl, hbl, hc⟩ := HM.out.addr (by omega)
      obtain ⟨a2, c2, x0, _, _, _, hrow⟩ := hc i hin
      obtain ⟨b3, o3, rfl, hb3, hc3⟩ := hrow.addr (by omega)
      obtain ⟨a4, n4, c4, y0, hx⟩ := hc3 i hin
      have x1 := (HB.out.cell (p := ⟨b, o + i, none⟩) hbl).trans x0
      have y1 := (HB.out.cell (p := ⟨b3, o3 + i, none⟩) hb3).trans y0
      have n4L := hx.small (HLM.out i i hin hin)
      have HX := Lib.hid (hx.up HB.out)
      clear hc x0 hrow hc3 y0 hx
      have i0 : (0 : Int) ≤ (i : Int) := by omega
      have i1 : (i : Int) < (n : Int) := by omega
      go_wp2_with fail
      refine (add_any a1 a4 n1 n4 c1 c4 _ _ _ HO.out.ns.nr HX.out.nr (by omega) (by omega)).mono ?_; rintro e w5 ⟨a5, n5, c5, rfl, ho5, hv5, hb5⟩
      rw [val_limbs] at ho5
      have HO5 : Hid (OwN w5 W.heap.size (a5, n5, c5) (limbs (sumTo (i + 1) fun k => vM M k k))) := OwN.base ⟨ho5, limbs_u32 _⟩ HB.out.size
      have HB5 := Lib.hid (HB.out.trans (hb5.mono HB.out.size))
      clear ho5 hv5 hb5
      go_wp2
      go_roundw
      case rel => exact ⟨i + 1, _, _, _, by omega, by go_num, rfl, HO5.out, HB5.out⟩
      case measure => simp [intOf]; omega
    · obtain rfl : i = n := by omega
      go_wp2
      go_ret2
      exact ⟨_, _, _, rfl, HO.out, HB.out⟩
end Go.Proofs.YteneiianpghalaaDoor
