/- Plain: what a table's text names, byte by byte; a window's neighbours. edenlaw22.awake; a cell of the image by a table that counts (plain). edenlaw22.awake returns true. -/
import Derived.Test.YtocfkmdoalhjmaaDoorPlaP
import Derived.Test.YtocfkmdoalhjmaaDoorPlaI
import Derived.Test.YtocfkmdoalhjmaaDoorPlaF
import Derived.Test.YtocfkmdoalhjmaaDoorPlaD
import Derived.Test.YtocfkmdoalhjmaaDoorPatJ
import Derived.Test.YtocfkmdoalhjmaaDoorTrkP
namespace Go.Proofs.YtocfkmdoalhjmaaDoor
set_option linter.unusedVariables false
set_option maxRecDepth 100000

/-- is the number n named on the side own? gone through byte by byte -/
def namedF (own n : Nat) : List UInt8 → Nat → Nat → Nat
  | [], _, nm => nm
  | c :: r, side, nm => namedF own n r (if c = 47 then 1 else side) (if (if c = 47 then 1 else side) = own ∧ (c.toNat : Int) - 48 = (n : Int) then 1 else nm)
theorem bit_grow {s d n : Nat} (hs : s < 2 ^ d) : (s + 2 ^ d) / 2 ^ n % 2 = if n = d then 1 else s / 2 ^ n % 2 := by
  have hp : ∀ k, 0 < 2 ^ k := fun k => Nat.pow_pos (by omega)
  rcases Nat.lt_trichotomy n d with h | h | h
  · rw [if_neg (by omega)]
    obtain ⟨k, rfl⟩ : ∃ k, d = n + (k + 1) := ⟨d - n - 1, by omega⟩
    rw [Nat.pow_add, Nat.pow_succ, Nat.add_mul_div_left _ _ (hp n)]
    omega
  · subst h
    rw [if_pos rfl, Nat.add_div_right _ (hp n), Nat.div_eq_of_lt hs]
  · rw [if_neg (by omega)]
    have h1 : 2 ^ (d + 1) ≤ 2 ^ n := Nat.pow_le_pow_right (by omega) (by omega)
    have h2 : 2 ^ (d + 1) = 2 ^ d * 2 := Nat.pow_succ ..
    rw [Nat.div_eq_of_lt (show s + 2 ^ d < 2 ^ n by omega), Nat.div_eq_of_lt (show s < 2 ^ n by omega)]
def sideB (own s0 s1 : Nat) : Nat := if own = 1 then s1 else s0
theorem namedF_skip {own n side nm : Nat} {c : UInt8} {r : List UInt8} (h : c ≠ 47) (h2 : ¬ ((c.toNat : Int) - 48 = (n : Int))) : namedF own n (c :: r) side nm = namedF own n r side nm := by
  conv => lhs; unfold namedF
  rw [if_neg h, if_neg (by rintro ⟨_, h3⟩; exact h2 h3)]
theorem namedF_dig {own n side nm d : Nat} {c : UInt8} {r : List UInt8} (h : c ≠ 47) (h2 : (c.toNat : Int) - 48 = (d : Int)) : namedF own n (c :: r) side nm = namedF own n r side (if side = own ∧ n = d then 1 else nm) := by
  conv => lhs; unfold namedF
  rw [if_neg h, h2]
  congr 1
  by_cases h3 : side = own ∧ n = d
  · rw [if_pos h3, if_pos ⟨h3.1, by omega⟩]
  · rw [if_neg h3, if_neg (by rintro ⟨h4, h5⟩; exact h3 ⟨h4, by omega⟩)]
theorem namedF_slash {own n side nm : Nat} {r : List UInt8} : namedF own n (47 :: r) side nm = namedF own n r 1 nm := by
  conv => lhs; unfold namedF
  have h47 : ((47 : UInt8).toNat : Int) = 47 := rfl
  rw [if_pos rfl, if_neg (by rintro ⟨_, h3⟩; omega)]
theorem u8_of {c d : UInt8} (h : c.toNat = d.toNat) : c = d := UInt8.toNat_inj.1 h
theorem named_life (own n : Nat) (ho : own ≤ 1) (hn : n ≤ 8) : ∀ (L : List UInt8) (i st s0 s1 : Nat) (last : Int) (b s : Nat), RdSt st last s0 s1 → lifeRun L i st last s0 s1 = .ok (b, s) →
    namedF own n L (if 2 ≤ st then 1 else 0) (sideB own s0 s1 / 2 ^ n % 2) = sideB own b s / 2 ^ n % 2
  | [], i, st, s0, s1, last, b, s, hR, h => by
    unfold lifeRun at h
    split at h
    · cases h; rfl
    · cases h
  | c :: r, i, st, s0, s1, last, b, s, hR, h => by
    unfold lifeRun at h
    cases hq : takeF st last s0 s1 c with
    | none => rw [hq] at h; cases h
    | some q =>
      obtain ⟨st', last', s0', s1'⟩ := q
      rw [hq] at h
      have hR' := take_next hR hq
      have ih := named_life own n ho hn r (i + 1) st' s0' s1' last' b s hR' h
      have hs3 := hR.s3
      rw [← ih]
      unfold takeF at hq
      by_cases c0 : st = 0
      · subst c0
        rw [if_pos rfl] at hq
        split at hq
        · rename_i hc
          cases hq
          subst hc
          rw [namedF_skip (by decide) (by have : ((66 : UInt8).toNat : Int) = 66 := rfl; omega)]
          simp
        · cases hq
      rw [if_neg c0] at hq
      by_cases c2 : st = 2
      · subst c2
        rw [if_pos rfl] at hq
        split at hq
        · rename_i hc
          cases hq
          subst hc
          rw [namedF_skip (by decide) (by have : ((83 : UInt8).toNat : Int) = 83 := rfl; omega)]
          simp
        · cases hq
      rw [if_neg c2] at hq
      by_cases c1 : st = 1 ∧ c = 47
      · rw [if_pos c1] at hq
        obtain ⟨rfl, rfl⟩ := c1
        cases hq
        rw [namedF_slash]
        simp
      rw [if_neg c1] at hq
      split at hq
      · cases hq
      rename_i hd
      have hlo := hR.lo
      have hc47 : c ≠ 47 := by
        rintro rfl
        have h47 : ((47 : UInt8).toNat : Int) = 47 := rfl
        omega
      obtain ⟨d, hd1⟩ : ∃ d, c.toNat - 48 = d := ⟨_, rfl⟩
      have hd2 : (c.toNat : Int) - 48 = (d : Int) := by omega
      rw [namedF_dig hc47 hd2]
      rw [hd2] at hd hq
      rw [hd1] at hq
      split at hq
      · rename_i hs
        cases hq
        subst hs
        have hg := pow_grow (hR.g0 rfl) hlo (show last < (d : Int) by omega) (by omega)
        have hb := bit_grow (n := n) hg.1
        congr 1
        unfold sideB
        by_cases hown : own = 1
        · subst hown; simp
        · have : own = 0 := by omega
          subst this
          simp only [show ¬ (0 : Nat) = 1 by omega, if_false]
          rw [hb]
          by_cases hnd : n = d <;> simp [hnd]
      · rename_i hs
        cases hq
        have h3 : st = 3 := by omega
        subst h3
        have hg := pow_grow (hR.g1 rfl) hlo (show last < (d : Int) by omega) (by omega)
        have hb := bit_grow (n := n) hg.1
        congr 1
        unfold sideB
        by_cases hown : own = 1
        · subst hown
          simp only [if_true]
          rw [hb]
          by_cases hnd : n = d <;> simp [hnd]
        · have : own = 0 := by omega
          subst this
          simp
theorem win_bits : ∀ (a b c d e f g h i : Fin 2), aboutN (256 * a.val + 128 * b.val + 64 * c.val + 32 * d.val + 16 * e.val + 8 * f.val + 4 * g.val + 2 * h.val + i.val) = a.val + b.val + c.val + d.val + f.val + g.val + h.val + i.val ∧ (256 * a.val + 128 * b.val + 64 * c.val + 32 * d.val + 16 * e.val + 8 * f.val + 4 * g.val + 2 * h.val + i.val) / 16 % 2 = e.val := by decide +kernel
theorem win_bitsN {a b c d e f g h i : Nat} (ha : a ≤ 1) (hb : b ≤ 1) (hc : c ≤ 1) (hd : d ≤ 1) (he : e ≤ 1) (hf : f ≤ 1) (hg : g ≤ 1) (hh : h ≤ 1) (hi : i ≤ 1) :
    aboutN (256 * a + 128 * b + 64 * c + 32 * d + 16 * e + 8 * f + 4 * g + 2 * h + i) = a + b + c + d + f + g + h + i ∧ (256 * a + 128 * b + 64 * c + 32 * d + 16 * e + 8 * f + 4 * g + 2 * h + i) / 16 % 2 = e :=
  win_bits ⟨a, by omega⟩ ⟨b, by omega⟩ ⟨c, by omega⟩ ⟨d, by omega⟩ ⟨e, by omega⟩ ⟨f, by omega⟩ ⟨g, by omega⟩ ⟨h, by omega⟩ ⟨i, by omega⟩
end Go.Proofs.YtocfkmdoalhjmaaDoor
namespace Go.Proofs.YtocfkmdoalhjmaaDoor
open Go.RowKit
set_option linter.unusedVariables false
set_option maxRecDepth 100000

/-- the cells of a window, added up one by one -/
def nbS (w : Nat) (l : List Int) (x y : Nat) : Nat → Nat
  | 0 => 0
  | k + 1 => nbS w l x y k + (atL w l (x + k % 3) (y + k / 3)).toNat
theorem nbS_le {w h : Nat} {l : List Int} (hp : IsPatch w h l) {x y : Nat} (hx : x + 2 < w) (hy : y + 2 < h) : ∀ k, k ≤ 9 → nbS w l x y k ≤ k
  | 0, _ => by simp [nbS]
  | k + 1, hk => by
    have ih := nbS_le hp hx hy k (by omega)
    obtain ⟨c, e, hc⟩ := atL_nat hp (show x + k % 3 < w by omega) (show y + k / 3 < h by omega)
    unfold nbS
    rw [e, Int.toNat_natCast]
    omega
theorem count_cell {w h : Nat} {l : List Int} (hp : IsPatch w h l) {x y : Nat} (hx : x + 2 < w) (hy : y + 2 < h) {s : ByteArray} {b st : Nat} (hr : lifeR s = .ok (b, st)) :
    ∃ O NB : Nat, atL w l (x + 1) (y + 1) = (O : Int) ∧ O ≤ 1 ∧ nbS w l x y 9 = NB + O ∧ NB ≤ 8 ∧ stepF (tabOf b st) w l x y = ((namedF O NB s.data.toList 0 0 : Nat) : Int) := by
  obtain ⟨c1, e1, h1⟩ := atL_nat hp (show x < w by omega) (show y < h by omega)
  obtain ⟨c2, e2, h2⟩ := atL_nat hp (show x + 1 < w by omega) (show y < h by omega)
  obtain ⟨c3, e3, h3⟩ := atL_nat hp (show x + 2 < w by omega) (show y < h by omega)
  obtain ⟨c4, e4, h4⟩ := atL_nat hp (show x < w by omega) (show y + 1 < h by omega)
  obtain ⟨c5, e5, h5⟩ := atL_nat hp (show x + 1 < w by omega) (show y + 1 < h by omega)
  obtain ⟨c6, e6, h6⟩ := atL_nat hp (show x + 2 < w by omega) (show y + 1 < h by omega)
  obtain ⟨c7, e7, h7⟩ := atL_nat hp (show x < w by omega) (show y + 2 < h by omega)
  obtain ⟨c8, e8, h8⟩ := atL_nat hp (show x + 1 < w by omega) (show y + 2 < h by omega)
  obtain ⟨c9, e9, h9⟩ := atL_nat hp (show x + 2 < w by omega) (show y + 2 < h by omega)
  have hN : winN w l x y = 256 * c1 + 128 * c2 + 64 * c3 + 32 * c4 + 16 * c5 + 8 * c6 + 4 * c7 + 2 * c8 + c9 := by
    unfold winN winZ
    rw [e1, e2, e3, e4, e5, e6, e7, e8, e9]
    omega
  have hS : nbS w l x y 9 = c1 + c2 + c3 + c4 + c5 + c6 + c7 + c8 + c9 := by
    simp only [nbS, Nat.reduceMod, Nat.reduceDiv, Nat.add_zero, e1, e2, e3, e4, e5, e6, e7, e8, e9, Int.toNat_natCast]
    omega
  obtain ⟨NB, hNB⟩ : ∃ NB, c1 + c2 + c3 + c4 + c6 + c7 + c8 + c9 = NB := ⟨_, rfl⟩
  clear e1 e2 e3 e4 e6 e7 e8 e9
  have k1 : nbS w l x y 9 = NB + c5 := by rw [hS, ← hNB]; clear hN hNB hS; omega
  have k2 : NB ≤ 8 := by rw [← hNB]; clear hN hNB hS; omega
  have hlt := (winN_lt hp hx hy).1
  obtain ⟨q1, q2⟩ := win_bitsN h1 h2 h3 h4 h5 h6 h7 h8 h9
  rw [← hN] at q1 q2
  clear hN hS
  have hnl : namedF c5 NB s.data.toList (if 2 ≤ 0 then 1 else 0) (sideB c5 0 0 / 2 ^ NB % 2) = sideB c5 b st / 2 ^ NB % 2 := named_life c5 NB h5 k2 s.data.toList 0 0 0 0 0 b st RdSt.start0 hr
  refine ⟨c5, NB, e5, h5, k1, k2, ?_⟩
  have hz : sideB c5 0 0 / 2 ^ NB % 2 = 0 := by
    have : sideB c5 0 0 = 0 := by unfold sideB; split <;> rfl
    rw [this, Nat.zero_div]
  rw [hz] at hnl
  have hg : (if 2 ≤ (0 : Nat) then 1 else 0) = 0 := rfl
  rw [hg] at hnl
  unfold stepF
  rw [tabOf_get hlt, hnl]
  unfold tabF sideB
  rw [q2, q1, hNB]
theorem lifeO_ok {s : ByteArray} (h : lifeD s = none) : ∃ b st, lifeR s = .ok (b, st) ∧ lifeO s = tabOf b st := by
  cases hr : lifeR s with
  | error i =>
    unfold lifeD at h
    rw [hr] at h
    split at h <;> cases h
  | ok x => exact ⟨x.1, x.2, rfl, by unfold lifeO; rw [if_pos h, hr]⟩
def awS22 : ByteArray := ⟨#[66, 51, 47, 83, 50, 51]⟩
def awP22 : List Int := [0, 0, 0, 0, 1, 0, 0, 1, 0, 0, 1, 0, 0, 0, 0]
theorem aw22_r : lifeR awS22 = .ok (8, 12) := by kernel_rfl
theorem aw22_d : lifeD awS22 = none := (lifeD_ok (by decide) aw22_r).1
theorem aw22_o : lifeO awS22 = tabOf 8 12 := (lifeD_ok (by decide) aw22_r).2
theorem aw22_7 : (tabOf 8 12).getD 7 0 = 1 := by rw [tabOf_get (by omega)]; decide
theorem aw22_16 : (tabOf 8 12).getD 16 0 = 0 := by rw [tabOf_get (by omega)]; decide
/-- the sets of a table of two sets -/
def setsT (b s k : Nat) : Nat → Nat
  | 0 => 0
  | i + 1 => if i / 16 % 2 = k then setsT b s k i ||| (tabF b s i * 2 ^ aboutN i) else setsT b s k i
theorem setsO_tab (b s k : Nat) : ∀ i, i ≤ 512 → setsO (tabOf b s) k i = setsT b s k i
  | 0, _ => rfl
  | i + 1, h => by
    unfold setsO setsT
    rw [setsO_tab b s k i (by omega), tabOf_get (by omega), Int.toNat_natCast]
theorem isTab_tab (b s : Nat) : IsTab (tabOf b s) := ⟨tabOf_len b s, tabOf_sym b s⟩
theorem aw22_t : tabD (tabOf 8 12) = none := tabD_of (isTab_tab 8 12)
theorem aw22_sb : setB (tabOf 8 12) = 8 := (setsO_tab 8 12 0 512 (by omega)).trans (by decide +kernel)
theorem aw22_ss : setS (tabOf 8 12) = 12 := (setsO_tab 8 12 1 512 (by omega)).trans (by decide +kernel)
theorem aw22_c : counts (tabOf 8 12) = true := by unfold counts; rw [aw22_sb, aw22_ss]; exact decide_eq_true rfl
theorem aw22_s : plTextS (tabOf 8 12) = awS22 := by
  unfold plTextS
  rw [if_pos ⟨aw22_t, aw22_c⟩]
  unfold tbS
  rw [aw22_sb, aw22_ss]
  kernel_rfl
theorem aw22_b : plTextB (tabOf 8 12) = true := by unfold plTextB; rw [aw22_t, aw22_c]; rfl
theorem aw22_sd : stepD (tabOf 8 12) 3 5 awP22 = none := by
  unfold stepD
  rw [aw22_t]
  have h : patchD 3 5 awP22 = none := by kernel_rfl
  simp only [h]
  rfl
theorem aw22_so : stepO (tabOf 8 12) 3 5 awP22 = (1, 3, [0, 1, 0]) := by
  unfold stepO
  rw [if_pos aw22_sd]
  have h : stepL (tabOf 8 12) 3 5 awP22 = [0, 1, 0] := by
    have w0 : winN 3 awP22 0 0 = 16 + 2 := by decide
    have w1 : winN 3 awP22 0 1 = 128 + 16 + 2 := by decide
    have w2 : winN 3 awP22 0 2 = 128 + 16 := by decide
    have e : stepL (tabOf 8 12) 3 5 awP22 = [stepF (tabOf 8 12) 3 awP22 0 0, stepF (tabOf 8 12) 3 awP22 0 1, stepF (tabOf 8 12) 3 awP22 0 2] := rfl
    rw [e]
    unfold stepF
    rw [w0, w1, w2, tabOf_get (by omega), tabOf_get (by omega), tabOf_get (by omega)]
    decide
  show ((3 : Int) - 2, (5 : Int) - 2, stepL (tabOf 8 12) 3 5 awP22) = _
  rw [h]
  rfl
end Go.Proofs.YtocfkmdoalhjmaaDoor
namespace Go.Proofs.YtocfkmdoalhjmaaDoor
open Go.RowKit
set_option linter.unusedVariables false
set_option maxRecDepth 100000

theorem litRK (w : World) (l : List Int) : RK .i64 (w.alloc (.cells (l.map (Value.int .i64)).toArray 3)) (some ⟨w.heap.size, 0, none⟩) l.length l :=
  ⟨rfl, by simpa using rd_new (w := w) (g := w.heap.size) (m := l.length) (sz := 1) (news := (l.map (Value.int .i64)).toArray) (e := 3) (fr := (0, 0)) rfl (by simp)⟩
theorem aw22_life (W : World) (R : Nat → Addr) (hS : Sent W R) : Calls Tryd.prog 16 #[.string ⟨#[66, 51, 47, 83, 50, 51]⟩] W fun e w' => ∃ a c, e = .returned (.tuple #[.slice a 512 c, .nilIface]) ∧ OwI w' W.heap.size a 512 c (tabOf 8 12) ∧ Below W.heap.size W w' := by
  refine (life_any awS22 W R hS).mono ?_
  rintro e w' ⟨a, n, c, ev, rfl, ho, he, hb⟩
  rw [aw22_d] at he
  rw [aw22_o] at ho
  obtain rfl : n = 512 := ho.rk.len.trans (tabOf_len 8 12)
  obtain rfl : ev = .nilIface := he
  exact ⟨a, c, rfl, ho, hb⟩
theorem aw22_text (a : Option Addr) (c : Nat) (W : World) (R : Nat → Addr) (hS : Sent W R) (hR : RK .i64 W a 512 (tabOf 8 12)) : Calls Tryd.prog 30 #[.slice a 512 c] W fun e w' => e = .returned (.tuple #[.string ⟨#[66, 51, 47, 83, 50, 51]⟩, .bool true, .nilIface]) ∧ Below W.heap.size W w' := by
  refine (pltext_any a 512 c (tabOf 8 12) W R hS hR (by unfold maxLen; omega)).mono ?_
  rintro e w' ⟨ev, rfl, he, hb⟩
  rw [aw22_t] at he
  obtain rfl : ev = .nilIface := he
  rw [aw22_s, aw22_b]
  exact ⟨rfl, hb⟩
theorem aw22_step (a aT : Option Addr) (c cT : Nat) (W : World) (R : Nat → Addr) (hS : Sent W R) (hR : SlI W a 15 c awP22) (hT : RK .i64 W aT 512 (tabOf 8 12)) : Calls Tryd.prog 17 #[.slice aT 512 cT, patV 3 5 a 15 c] W fun e w' => ∃ a' c', e = .returned (.tuple #[patV 1 3 a' 3 c', .nilIface]) ∧ OwI w' W.heap.size a' 3 c' [0, 1, 0] ∧ Below W.heap.size W w' := by
  refine (plstep_any 3 5 a aT 15 c 512 cT awP22 (tabOf 8 12) W R hS hR (by intro x hx; simp [awP22] at hx; omega) hT (by unfold maxLen; omega)).mono ?_
  rintro e w' ⟨a', n', c', ev, rfl, ho, he, hb⟩
  rw [aw22_sd] at he
  rw [aw22_so] at ho ⊢
  obtain rfl : n' = 3 := ho.rk.len
  obtain rfl : ev = .nilIface := he
  exact ⟨a', c', rfl, ho, hb⟩
set_option maxHeartbeats 16000000 in
theorem awake22 (W : World) (R : Nat → Addr) (hS : Sent W R) :
    Calls Tryd.prog 15 #[] W fun e w' => e = .returned (.bool true) ∧ Below W.heap.size W w' := by
  have T0 := Tk.nil W
  have T1 := T0.add (fun wv => Below W.heap.size W wv) (bnil W)
  clear T0
  have T2 := T1.add (fun wv => Sent wv R) (hS)
  clear T1
  clear hS
  go_enter Tryd.func15, Tryd.ntmps15
  go_wp2_with fail
  refine (aw22_life W R T2.out.2).mono ?_; rintro e w1 ⟨a1, c1, rfl, ho1, hbw1⟩
  have T3 := T2.up hbw1
  clear T2
  have T4 := T3.add (fun wv => RK .i64 wv a1 512 (tabOf 8 12)) (ho1.rk)
  clear T3
  clear ho1
  go_wp2_with fail
  refine (aw22_text a1 c1 w1 R T4.out.1.2 T4.out.2).mono ?_; rintro e w2 ⟨rfl, hbw2⟩
  have T5 := T4.up hbw2
  clear T4
  obtain ⟨wl, hwl⟩ : ∃ wl, w2.alloc (.cells #[.int .i64 0, .int .i64 0, .int .i64 0, .int .i64 0, .int .i64 1, .int .i64 0, .int .i64 0, .int .i64 1, .int .i64 0, .int .i64 0, .int .i64 1, .int .i64 0, .int .i64 0, .int .i64 0, .int .i64 0] 3) = wl := ⟨_, rfl⟩
  have hbwl : Below w2.heap.size w2 wl := by rw [← hwl]; exact balloc (bnil w2) _
  have T6 := T5.up hbwl
  clear T5
  have Hwl := Lib.hid hwl
  clear hwl hbwl
  have hlit : RK .i64 wl (some ⟨w2.heap.size, 0, none⟩) 15 awP22 := by rw [← Hwl.out]; exact litRK w2 awP22
  have hsl : SlI wl (some ⟨w2.heap.size, 0, none⟩) 15 15 awP22 := ⟨hlit, Nat.le_refl _, by decide, by decide, nofun⟩
  have T7 := T6.add (fun wv => SlI wv (some ⟨w2.heap.size, 0, none⟩) 15 15 awP22) (hsl)
  clear T6
  clear hlit hsl
  go_wp2_with fail
  rw [Hwl.out]
  refine (aw22_step _ a1 15 c1 wl R T7.out.1.1.2 T7.out.2 T7.out.1.2).mono ?_; rintro e w3 ⟨a3, c3, rfl, ho3, hbw3⟩
  have T8 := T7.up hbw3
  clear T7
  have T9 := T8.add (fun wv => RK .i64 wv a3 3 [0, 1, 0]) (ho3.rk)
  clear T8
  clear ho3
  obtain ⟨wp, hwp⟩ : ∃ wp, w3.alloc (.cells #[.int .i64 1, .int .i64 3, .slice a3 3 c3] 24) = wp := ⟨_, rfl⟩
  have hbwp : Below w3.heap.size w3 wp := by rw [← hwp]; exact balloc (bnil w3) _
  have T10 := T9.up hbwp
  clear T9
  have T11 := T10.add (fun wv => wv.cell? ⟨w3.heap.size, 0, none⟩ = some (.int .i64 1) ∧ wv.cell? ⟨w3.heap.size, 1, none⟩ = some (.int .i64 3) ∧ wv.cell? ⟨w3.heap.size, 2, none⟩ = some (.slice a3 3 c3)) (by rw [← hwp]; exact ⟨cnw (by simp) rfl, cnw (by simp) rfl, cnw (by simp) rfl⟩)
  clear T10
  have Hwp := Lib.hid hwp
  clear hwp hbwp
  obtain ⟨ab, ao, hab, _, htc⟩ := (T11.out.1.1.1.2).addr (by omega)
  have x7 := htc 7 (by omega)
  have x16 := htc 16 (by omega)
  rw [aw22_7] at x7
  rw [aw22_16] at x16
  subst hab
  have y7 : (w3.alloc (.cells #[.int .i64 1, .int .i64 3, .slice a3 3 c3] 24)).cell? ⟨ab, ao + 7, none⟩ = some (.int .i64 1) := by rw [Hwp.out]; exact x7
  have y16 : (w3.alloc (.cells #[.int .i64 1, .int .i64 3, .slice a3 3 c3] 24)).cell? ⟨ab, ao + 16, none⟩ = some (.int .i64 0) := by rw [Hwp.out]; exact x16
  clear htc
  have v_q0 : (w3.alloc (.cells #[.int .i64 1, .int .i64 3, .slice a3 3 c3] 24)).cell? ⟨w3.heap.size, 0, none⟩ = some (.int .i64 1) := by rw [Hwp.out]; exact T11.out.2.1
  have v_q1 : (w3.alloc (.cells #[.int .i64 1, .int .i64 3, .slice a3 3 c3] 24)).cell? ⟨w3.heap.size, 1, none⟩ = some (.int .i64 3) := by rw [Hwp.out]; exact T11.out.2.2.1
  have v_q2 : (w3.alloc (.cells #[.int .i64 1, .int .i64 3, .slice a3 3 c3] 24)).cell? ⟨w3.heap.size, 2, none⟩ = some (.slice a3 3 c3) := by rw [Hwp.out]; exact T11.out.2.2.2
  go_wp2_with fail
  rw [Hwp.out]
  clear v_q0 v_q1 v_q2
  obtain ⟨wm, hwm⟩ : ∃ wm, wp.alloc (.cells #[.int .i64 0, .int .i64 1, .int .i64 0] 3) = wm := ⟨_, rfl⟩
  have hbwm : Below wp.heap.size wp wm := by rw [← hwm]; exact balloc (bnil wp) _
  have T12 := T11.up hbwm
  clear T11
  have Hwm := Lib.hid hwm
  clear hwm hbwm
  have hsz : w3.heap.size + 1 = wp.heap.size := by rw [← Hwp.out]; simp
  have hlit : RK .i64 wm (some ⟨w3.heap.size + 1, 0, none⟩) 3 [0, 1, 0] := by rw [hsz, ← Hwm.out]; exact litRK wp [0, 1, 0]
  clear hsz
  rw [Hwm.out]
  refine (patches_eq 1 3 a3 (some ⟨w3.heap.size + 1, 0, none⟩) 3 3 c3 3 [0, 1, 0] wm T12.out.1.2 hlit (by decide)).mono ?_; rintro e w9 ⟨rfl, hb9⟩
  have T13 := T12.up hb9
  clear T12
  clear x7 x16 y7 y16 hlit
  go_wp2
  go_ret
  exact ⟨rfl, T13.out.1.1.1.1.1.2⟩
end Go.Proofs.YtocfkmdoalhjmaaDoor
