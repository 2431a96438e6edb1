/- Plain: what a table's text names, byte by byte; a window's neighbours. edenlaw22.awake; a cell of the image by a table that counts (plain). edenlaw22.awake returns true. The turns of a patch are a group; the cells' sum stays (plain). Plain: images of pieces and of turned patches. plane.moved, plane.Even for any numbers. edenlaw22.PlanePieces returns true. -/
import Derived.Test.YtocfkmdoalhjmaaDoorPlaP
import Derived.Test.YtocfkmdoalhjmaaDoorPlaI
import Derived.Test.YtocfkmdoalhjmaaDoorPlaF
import Derived.Test.YtocfkmdoalhjmaaDoorPlaD
import Derived.Test.YtocfkmdoalhjmaaDoorPatJ
import Derived.Test.YtocfkmdoalhjmaaDoorTrkP
import Derived.Test.YtocfkmdoalhjmaaDoorPatP
import Derived.Test.YtocfkmdoalhjmaaDoorPlaG
import Derived.Test.YtocfkmdoalhjmaaDoorPlaA
import Derived.Test.YtocfkmdoalhjmaaDoorBitI
import Derived.Test.YtocfkmdoalhjmaaDoorPatE
import Derived.Deep.QuietTactic
import Derived.BigQuiet
namespace Go.Proofs.YtocfkmdoalhjmaaDoor
set_option linter.unusedVariables false
set_option maxRecDepth 100000

/-- is the number n named on the side own? gone through byte by byte -/
def namedF (own n : Nat) : List UInt8 → Nat → Nat → Nat
  | [], _, nm => nm
  | c :: r, side, nm => namedF own n r (if c = 47 then 1 else side) (if (if c = 47 then 1 else side) = own ∧ (c.toNat : Int) - 48 = (n : Int) then 1 else nm)
theorem bit_grow {s d n : Nat} (hs : s < 2 ^ d) : (s + 2 ^ d) / 2 ^ n % 2 = if n = d then 1 else s / 2 ^ n % 2 := by
  have hp : ∀ k, 0 < 2 ^ k := fun k => Nat.pow_pos (by omega)
  rcases Nat.lt_trichotomy n d with h | h | h
  · rw [if_neg (by omega)]
    obtain ⟨k, rfl⟩ : ∃ k, d = n + (k + 1) := ⟨d - n - 1, by omega⟩
    rw [Nat.pow_add, Nat.pow_succ, Nat.add_mul_div_left _ _ (hp n)]
    omega
  · subst h
    rw [if_pos rfl, Nat.add_div_right _ (hp n), Nat.div_eq_of_lt hs]
  · rw [if_neg (by omega)]
    have h1 : 2 ^ (d + 1) ≤ 2 ^ n := Nat.pow_le_pow_right (by omega) (by omega)
    have h2 : 2 ^ (d + 1) = 2 ^ d * 2 := Nat.pow_succ ..
    rw [Nat.div_eq_of_lt (show s + 2 ^ d < 2 ^ n by omega), Nat.div_eq_of_lt (show s < 2 ^ n by omega)]
def sideB (own s0 s1 : Nat) : Nat := if own = 1 then s1 else s0
theorem namedF_skip {own n side nm : Nat} {c : UInt8} {r : List UInt8} (h : c ≠ 47) (h2 : ¬ ((c.toNat : Int) - 48 = (n : Int))) : namedF own n (c :: r) side nm = namedF own n r side nm := by
  conv => lhs; unfold namedF
  rw [if_neg h, if_neg (by rintro ⟨_, h3⟩; exact h2 h3)]
theorem namedF_dig {own n side nm d : Nat} {c : UInt8} {r : List UInt8} (h : c ≠ 47) (h2 : (c.toNat : Int) - 48 = (d : Int)) : namedF own n (c :: r) side nm = namedF own n r side (if side = own ∧ n = d then 1 else nm) := by
  conv => lhs; unfold namedF
  rw [if_neg h, h2]
  congr 1
  by_cases h3 : side = own ∧ n = d
  · rw [if_pos h3, if_pos ⟨h3.1, by omega⟩]
  · rw [if_neg h3, if_neg (by rintro ⟨h4, h5⟩; exact h3 ⟨h4, by omega⟩)]
theorem namedF_slash {own n side nm : Nat} {r : List UInt8} : namedF own n (47 :: r) side nm = namedF own n r 1 nm := by
  conv => lhs; unfold namedF
  have h47 : ((47 : UInt8).toNat : Int) = 47 := rfl
  rw [if_pos rfl, if_neg (by rintro ⟨_, h3⟩; omega)]
theorem u8_of {c d : UInt8} (h : c.toNat = d.toNat) : c = d := UInt8.toNat_inj.1 h
theorem named_life (own n : Nat) (ho : own ≤ 1) (hn : n ≤ 8) : ∀ (L : List UInt8) (i st s0 s1 : Nat) (last : Int) (b s : Nat), RdSt st last s0 s1 → lifeRun L i st last s0 s1 = .ok (b, s) →
    namedF own n L (if 2 ≤ st then 1 else 0) (sideB own s0 s1 / 2 ^ n % 2) = sideB own b s / 2 ^ n % 2
  | [], i, st, s0, s1, last, b, s, hR, h => by
    unfold lifeRun at h
    split at h
    · cases h; rfl
    · cases h
  | c :: r, i, st, s0, s1, last, b, s, hR, h => by
    unfold lifeRun at h
    cases hq : takeF st last s0 s1 c with
    | none => rw [hq] at h; cases h
    | some q =>
      obtain ⟨st', last', s0', s1'⟩ := q
      rw [hq] at h
      have hR' := take_next hR hq
      have ih := named_life own n ho hn r (i + 1) st' s0' s1' last' b s hR' h
      have hs3 := hR.s3
      rw [← ih]
      unfold takeF at hq
      by_cases c0 : st = 0
      · subst c0
        rw [if_pos rfl] at hq
        split at hq
        · rename_i hc
          cases hq
          subst hc
          rw [namedF_skip (by decide) (by have : ((66 : UInt8).toNat : Int) = 66 := rfl; omega)]
          simp
        · cases hq
      rw [if_neg c0] at hq
      by_cases c2 : st = 2
      · subst c2
        rw [if_pos rfl] at hq
        split at hq
        · rename_i hc
          cases hq
          subst hc
          rw [namedF_skip (by decide) (by have : ((83 : UInt8).toNat : Int) = 83 := rfl; omega)]
          simp
        · cases hq
      rw [if_neg c2] at hq
      by_cases c1 : st = 1 ∧ c = 47
      · rw [if_pos c1] at hq
        obtain ⟨rfl, rfl⟩ := c1
        cases hq
        rw [namedF_slash]
        simp
      rw [if_neg c1] at hq
      split at hq
      · cases hq
      rename_i hd
      have hlo := hR.lo
      have hc47 : c ≠ 47 := by
        rintro rfl
        have h47 : ((47 : UInt8).toNat : Int) = 47 := rfl
        omega
      obtain ⟨d, hd1⟩ : ∃ d, c.toNat - 48 = d := ⟨_, rfl⟩
      have hd2 : (c.toNat : Int) - 48 = (d : Int) := by omega
      rw [namedF_dig hc47 hd2]
      rw [hd2] at hd hq
      rw [hd1] at hq
      split at hq
      · rename_i hs
        cases hq
        subst hs
        have hg := pow_grow (hR.g0 rfl) hlo (show last < (d : Int) by omega) (by omega)
        have hb := bit_grow (n := n) hg.1
        congr 1
        unfold sideB
        by_cases hown : own = 1
        · subst hown; simp
        · have : own = 0 := by omega
          subst this
          simp only [show ¬ (0 : Nat) = 1 by omega, if_false]
          rw [hb]
          by_cases hnd : n = d <;> simp [hnd]
      · rename_i hs
        cases hq
        have h3 : st = 3 := by omega
        subst h3
        have hg := pow_grow (hR.g1 rfl) hlo (show last < (d : Int) by omega) (by omega)
        have hb := bit_grow (n := n) hg.1
        congr 1
        unfold sideB
        by_cases hown : own = 1
        · subst hown
          simp only [if_true]
          rw [hb]
          by_cases hnd : n = d <;> simp [hnd]
        · have : own = 0 := by omega
          subst this
          simp
theorem win_bits : ∀ (a b c d e f g h i : Fin 2), aboutN (256 * a.val + 128 * b.val + 64 * c.val + 32 * d.val + 16 * e.val + 8 * f.val + 4 * g.val + 2 * h.val + i.val) = a.val + b.val + c.val + d.val + f.val + g.val + h.val + i.val ∧ (256 * a.val + 128 * b.val + 64 * c.val + 32 * d.val + 16 * e.val + 8 * f.val + 4 * g.val + 2 * h.val + i.val) / 16 % 2 = e.val := by decide +kernel
theorem win_bitsN {a b c d e f g h i : Nat} (ha : a ≤ 1) (hb : b ≤ 1) (hc : c ≤ 1) (hd : d ≤ 1) (he : e ≤ 1) (hf : f ≤ 1) (hg : g ≤ 1) (hh : h ≤ 1) (hi : i ≤ 1) :
    aboutN (256 * a + 128 * b + 64 * c + 32 * d + 16 * e + 8 * f + 4 * g + 2 * h + i) = a + b + c + d + f + g + h + i ∧ (256 * a + 128 * b + 64 * c + 32 * d + 16 * e + 8 * f + 4 * g + 2 * h + i) / 16 % 2 = e :=
  win_bits ⟨a, by omega⟩ ⟨b, by omega⟩ ⟨c, by omega⟩ ⟨d, by omega⟩ ⟨e, by omega⟩ ⟨f, by omega⟩ ⟨g, by omega⟩ ⟨h, by omega⟩ ⟨i, by omega⟩
end Go.Proofs.YtocfkmdoalhjmaaDoor
namespace Go.Proofs.YtocfkmdoalhjmaaDoor
open Go.RowKit
set_option linter.unusedVariables false
set_option maxRecDepth 100000

/-- the cells of a window, added up one by one -/
def nbS (w : Nat) (l : List Int) (x y : Nat) : Nat → Nat
  | 0 => 0
  | k + 1 => nbS w l x y k + (atL w l (x + k % 3) (y + k / 3)).toNat
theorem nbS_le {w h : Nat} {l : List Int} (hp : IsPatch w h l) {x y : Nat} (hx : x + 2 < w) (hy : y + 2 < h) : ∀ k, k ≤ 9 → nbS w l x y k ≤ k
  | 0, _ => by simp [nbS]
  | k + 1, hk => by
    have ih := nbS_le hp hx hy k (by omega)
    obtain ⟨c, e, hc⟩ := atL_nat hp (show x + k % 3 < w by omega) (show y + k / 3 < h by omega)
    unfold nbS
    rw [e, Int.toNat_natCast]
    omega
theorem count_cell {w h : Nat} {l : List Int} (hp : IsPatch w h l) {x y : Nat} (hx : x + 2 < w) (hy : y + 2 < h) {s : ByteArray} {b st : Nat} (hr : lifeR s = .ok (b, st)) :
    ∃ O NB : Nat, atL w l (x + 1) (y + 1) = (O : Int) ∧ O ≤ 1 ∧ nbS w l x y 9 = NB + O ∧ NB ≤ 8 ∧ stepF (tabOf b st) w l x y = ((namedF O NB s.data.toList 0 0 : Nat) : Int) := by
  obtain ⟨c1, e1, h1⟩ := atL_nat hp (show x < w by omega) (show y < h by omega)
  obtain ⟨c2, e2, h2⟩ := atL_nat hp (show x + 1 < w by omega) (show y < h by omega)
  obtain ⟨c3, e3, h3⟩ := atL_nat hp (show x + 2 < w by omega) (show y < h by omega)
  obtain ⟨c4, e4, h4⟩ := atL_nat hp (show x < w by omega) (show y + 1 < h by omega)
  obtain ⟨c5, e5, h5⟩ := atL_nat hp (show x + 1 < w by omega) (show y + 1 < h by omega)
  obtain ⟨c6, e6, h6⟩ := atL_nat hp (show x + 2 < w by omega) (show y + 1 < h by omega)
  obtain ⟨c7, e7, h7⟩ := atL_nat hp (show x < w by omega) (show y + 2 < h by omega)
  obtain ⟨c8, e8, h8⟩ := atL_nat hp (show x + 1 < w by omega) (show y + 2 < h by omega)
  obtain ⟨c9, e9, h9⟩ := atL_nat hp (show x + 2 < w by omega) (show y + 2 < h by omega)
  have hN : winN w l x y = 256 * c1 + 128 * c2 + 64 * c3 + 32 * c4 + 16 * c5 + 8 * c6 + 4 * c7 + 2 * c8 + c9 := by
    unfold winN winZ
    rw [e1, e2, e3, e4, e5, e6, e7, e8, e9]
    omega
  have hS : nbS w l x y 9 = c1 + c2 + c3 + c4 + c5 + c6 + c7 + c8 + c9 := by
    simp only [nbS, Nat.reduceMod, Nat.reduceDiv, Nat.add_zero, e1, e2, e3, e4, e5, e6, e7, e8, e9, Int.toNat_natCast]
    omega
  obtain ⟨NB, hNB⟩ : ∃ NB, c1 + c2 + c3 + c4 + c6 + c7 + c8 + c9 = NB := ⟨_, rfl⟩
  clear e1 e2 e3 e4 e6 e7 e8 e9
  have k1 : nbS w l x y 9 = NB + c5 := by rw [hS, ← hNB]; clear hN hNB hS; omega
  have k2 : NB ≤ 8 := by rw [← hNB]; clear hN hNB hS; omega
  have hlt := (winN_lt hp hx hy).1
  obtain ⟨q1, q2⟩ := win_bitsN h1 h2 h3 h4 h5 h6 h7 h8 h9
  rw [← hN] at q1 q2
  clear hN hS
  have hnl : namedF c5 NB s.data.toList (if 2 ≤ 0 then 1 else 0) (sideB c5 0 0 / 2 ^ NB % 2) = sideB c5 b st / 2 ^ NB % 2 := named_life c5 NB h5 k2 s.data.toList 0 0 0 0 0 b st RdSt.start0 hr
  refine ⟨c5, NB, e5, h5, k1, k2, ?_⟩
  have hz : sideB c5 0 0 / 2 ^ NB % 2 = 0 := by
    have : sideB c5 0 0 = 0 := by unfold sideB; split <;> rfl
    rw [this, Nat.zero_div]
  rw [hz] at hnl
  have hg : (if 2 ≤ (0 : Nat) then 1 else 0) = 0 := rfl
  rw [hg] at hnl
  unfold stepF
  rw [tabOf_get hlt, hnl]
  unfold tabF sideB
  rw [q2, q1, hNB]
theorem lifeO_ok {s : ByteArray} (h : lifeD s = none) : ∃ b st, lifeR s = .ok (b, st) ∧ lifeO s = tabOf b st := by
  cases hr : lifeR s with
  | error i =>
    unfold lifeD at h
    rw [hr] at h
    split at h <;> cases h
  | ok x => exact ⟨x.1, x.2, rfl, by unfold lifeO; rw [if_pos h, hr]⟩
def awS22 : ByteArray := ⟨#[66, 51, 47, 83, 50, 51]⟩
def awP22 : List Int := [0, 0, 0, 0, 1, 0, 0, 1, 0, 0, 1, 0, 0, 0, 0]
theorem aw22_r : lifeR awS22 = .ok (8, 12) := by kernel_rfl
theorem aw22_d : lifeD awS22 = none := (lifeD_ok (by decide) aw22_r).1
theorem aw22_o : lifeO awS22 = tabOf 8 12 := (lifeD_ok (by decide) aw22_r).2
theorem aw22_7 : (tabOf 8 12).getD 7 0 = 1 := by rw [tabOf_get (by omega)]; decide
theorem aw22_16 : (tabOf 8 12).getD 16 0 = 0 := by rw [tabOf_get (by omega)]; decide
/-- the sets of a table of two sets -/
def setsT (b s k : Nat) : Nat → Nat
  | 0 => 0
  | i + 1 => if i / 16 % 2 = k then setsT b s k i ||| (tabF b s i * 2 ^ aboutN i) else setsT b s k i
theorem setsO_tab (b s k : Nat) : ∀ i, i ≤ 512 → setsO (tabOf b s) k i = setsT b s k i
  | 0, _ => rfl
  | i + 1, h => by
    unfold setsO setsT
    rw [setsO_tab b s k i (by omega), tabOf_get (by omega), Int.toNat_natCast]
theorem isTab_tab (b s : Nat) : IsTab (tabOf b s) := ⟨tabOf_len b s, tabOf_sym b s⟩
theorem aw22_t : tabD (tabOf 8 12) = none := tabD_of (isTab_tab 8 12)
theorem aw22_sb : setB (tabOf 8 12) = 8 := (setsO_tab 8 12 0 512 (by omega)).trans (by decide +kernel)
theorem aw22_ss : setS (tabOf 8 12) = 12 := (setsO_tab 8 12 1 512 (by omega)).trans (by decide +kernel)
theorem aw22_c : counts (tabOf 8 12) = true := by unfold counts; rw [aw22_sb, aw22_ss]; exact decide_eq_true rfl
theorem aw22_s : plTextS (tabOf 8 12) = awS22 := by
  unfold plTextS
  rw [if_pos ⟨aw22_t, aw22_c⟩]
  unfold tbS
  rw [aw22_sb, aw22_ss]
  kernel_rfl
theorem aw22_b : plTextB (tabOf 8 12) = true := by unfold plTextB; rw [aw22_t, aw22_c]; rfl
theorem aw22_sd : stepD (tabOf 8 12) 3 5 awP22 = none := by
  unfold stepD
  rw [aw22_t]
  have h : patchD 3 5 awP22 = none := by kernel_rfl
  simp only [h]
  rfl
theorem aw22_so : stepO (tabOf 8 12) 3 5 awP22 = (1, 3, [0, 1, 0]) := by
  unfold stepO
  rw [if_pos aw22_sd]
  have h : stepL (tabOf 8 12) 3 5 awP22 = [0, 1, 0] := by
    have w0 : winN 3 awP22 0 0 = 16 + 2 := by decide
    have w1 : winN 3 awP22 0 1 = 128 + 16 + 2 := by decide
    have w2 : winN 3 awP22 0 2 = 128 + 16 := by decide
    have e : stepL (tabOf 8 12) 3 5 awP22 = [stepF (tabOf 8 12) 3 awP22 0 0, stepF (tabOf 8 12) 3 awP22 0 1, stepF (tabOf 8 12) 3 awP22 0 2] := rfl
    rw [e]
    unfold stepF
    rw [w0, w1, w2, tabOf_get (by omega), tabOf_get (by omega), tabOf_get (by omega)]
    decide
  show ((3 : Int) - 2, (5 : Int) - 2, stepL (tabOf 8 12) 3 5 awP22) = _
  rw [h]
  rfl
end Go.Proofs.YtocfkmdoalhjmaaDoor
namespace Go.Proofs.YtocfkmdoalhjmaaDoor
open Go.RowKit
set_option linter.unusedVariables false
set_option maxRecDepth 100000

theorem litRK (w : World) (l : List Int) : RK .i64 (w.alloc (.cells (l.map (Value.int .i64)).toArray 3)) (some ⟨w.heap.size, 0, none⟩) l.length l :=
  ⟨rfl, by simpa using rd_new (w := w) (g := w.heap.size) (m := l.length) (sz := 1) (news := (l.map (Value.int .i64)).toArray) (e := 3) (fr := (0, 0)) rfl (by simp)⟩
theorem aw22_life (W : World) (R : Nat → Addr) (hS : Sent W R) : Calls Tryd.prog 16 #[.string ⟨#[66, 51, 47, 83, 50, 51]⟩] W fun e w' => ∃ a c, e = .returned (.tuple #[.slice a 512 c, .nilIface]) ∧ OwI w' W.heap.size a 512 c (tabOf 8 12) ∧ Below W.heap.size W w' := by
  refine (life_any awS22 W R hS).mono ?_
  rintro e w' ⟨a, n, c, ev, rfl, ho, he, hb⟩
  rw [aw22_d] at he
  rw [aw22_o] at ho
  obtain rfl : n = 512 := ho.rk.len.trans (tabOf_len 8 12)
  obtain rfl : ev = .nilIface := he
  exact ⟨a, c, rfl, ho, hb⟩
theorem aw22_text (a : Option Addr) (c : Nat) (W : World) (R : Nat → Addr) (hS : Sent W R) (hR : RK .i64 W a 512 (tabOf 8 12)) : Calls Tryd.prog 30 #[.slice a 512 c] W fun e w' => e = .returned (.tuple #[.string ⟨#[66, 51, 47, 83, 50, 51]⟩, .bool true, .nilIface]) ∧ Below W.heap.size W w' := by
  refine (pltext_any a 512 c (tabOf 8 12) W R hS hR (by unfold maxLen; omega)).mono ?_
  rintro e w' ⟨ev, rfl, he, hb⟩
  rw [aw22_t] at he
  obtain rfl : ev = .nilIface := he
  rw [aw22_s, aw22_b]
  exact ⟨rfl, hb⟩
theorem aw22_step (a aT : Option Addr) (c cT : Nat) (W : World) (R : Nat → Addr) (hS : Sent W R) (hR : SlI W a 15 c awP22) (hT : RK .i64 W aT 512 (tabOf 8 12)) : Calls Tryd.prog 17 #[.slice aT 512 cT, patV 3 5 a 15 c] W fun e w' => ∃ a' c', e = .returned (.tuple #[patV 1 3 a' 3 c', .nilIface]) ∧ OwI w' W.heap.size a' 3 c' [0, 1, 0] ∧ Below W.heap.size W w' := by
  refine (plstep_any 3 5 a aT 15 c 512 cT awP22 (tabOf 8 12) W R hS hR (by intro x hx; simp [awP22] at hx; omega) hT (by unfold maxLen; omega)).mono ?_
  rintro e w' ⟨a', n', c', ev, rfl, ho, he, hb⟩
  rw [aw22_sd] at he
  rw [aw22_so] at ho ⊢
  obtain rfl : n' = 3 := ho.rk.len
  obtain rfl : ev = .nilIface := he
  exact ⟨a', c', rfl, ho, hb⟩
set_option maxHeartbeats 16000000 in
theorem awake22 (W : World) (R : Nat → Addr) (hS : Sent W R) :
    Calls Tryd.prog 15 #[] W fun e w' => e = .returned (.bool true) ∧ Below W.heap.size W w' := by
  have T0 := Tk.nil W
  have T1 := T0.add (fun wv => Below W.heap.size W wv) (bnil W)
  clear T0
  have T2 := T1.add (fun wv => Sent wv R) (hS)
  clear T1
  clear hS
  go_enter Tryd.func15, Tryd.ntmps15
  go_wp2_with fail
  refine (aw22_life W R T2.out.2).mono ?_; rintro e w1 ⟨a1, c1, rfl, ho1, hbw1⟩
  have T3 := T2.up hbw1
  clear T2
  have T4 := T3.add (fun wv => RK .i64 wv a1 512 (tabOf 8 12)) (ho1.rk)
  clear T3
  clear ho1
  go_wp2_with fail
  refine (aw22_text a1 c1 w1 R T4.out.1.2 T4.out.2).mono ?_; rintro e w2 ⟨rfl, hbw2⟩
  have T5 := T4.up hbw2
  clear T4
  obtain ⟨wl, hwl⟩ : ∃ wl, w2.alloc (.cells #[.int .i64 0, .int .i64 0, .int .i64 0, .int .i64 0, .int .i64 1, .int .i64 0, .int .i64 0, .int .i64 1, .int .i64 0, .int .i64 0, .int .i64 1, .int .i64 0, .int .i64 0, .int .i64 0, .int .i64 0] 3) = wl := ⟨_, rfl⟩
  have hbwl : Below w2.heap.size w2 wl := by rw [← hwl]; exact balloc (bnil w2) _
  have T6 := T5.up hbwl
  clear T5
  have Hwl := Lib.hid hwl
  clear hwl hbwl
  have hlit : RK .i64 wl (some ⟨w2.heap.size, 0, none⟩) 15 awP22 := by rw [← Hwl.out]; exact litRK w2 awP22
  have hsl : SlI wl (some ⟨w2.heap.size, 0, none⟩) 15 15 awP22 := ⟨hlit, Nat.le_refl _, by decide, by decide, nofun⟩
  have T7 := T6.add (fun wv => SlI wv (some ⟨w2.heap.size, 0, none⟩) 15 15 awP22) (hsl)
  clear T6
  clear hlit hsl
  go_wp2_with fail
  rw [Hwl.out]
  refine (aw22_step _ a1 15 c1 wl R T7.out.1.1.2 T7.out.2 T7.out.1.2).mono ?_; rintro e w3 ⟨a3, c3, rfl, ho3, hbw3⟩
  have T8 := T7.up hbw3
  clear T7
  have T9 := T8.add (fun wv => RK .i64 wv a3 3 [0, 1, 0]) (ho3.rk)
  clear T8
  clear ho3
  obtain ⟨wp, hwp⟩ : ∃ wp, w3.alloc (.cells #[.int .i64 1, .int .i64 3, .slice a3 3 c3] 24) = wp := ⟨_, rfl⟩
  have hbwp : Below w3.heap.size w3 wp := by rw [← hwp]; exact balloc (bnil w3) _
  have T10 := T9.up hbwp
  clear T9
  have T11 := T10.add (fun wv => wv.cell? ⟨w3.heap.size, 0, none⟩ = some (.int .i64 1) ∧ wv.cell? ⟨w3.heap.size, 1, none⟩ = some (.int .i64 3) ∧ wv.cell? ⟨w3.heap.size, 2, none⟩ = some (.slice a3 3 c3)) (by rw [← hwp]; exact ⟨cnw (by simp) rfl, cnw (by simp) rfl, cnw (by simp) rfl⟩)
  clear T10
  have Hwp := Lib.hid hwp
  clear hwp hbwp
  obtain ⟨ab, ao, hab, _, htc⟩ := (T11.out.1.1.1.2).addr (by omega)
  have x7 := htc 7 (by omega)
  have x16 := htc 16 (by omega)
  rw [aw22_7] at x7
  rw [aw22_16] at x16
  subst hab
  have y7 : (w3.alloc (.cells #[.int .i64 1, .int .i64 3, .slice a3 3 c3] 24)).cell? ⟨ab, ao + 7, none⟩ = some (.int .i64 1) := by rw [Hwp.out]; exact x7
  have y16 : (w3.alloc (.cells #[.int .i64 1, .int .i64 3, .slice a3 3 c3] 24)).cell? ⟨ab, ao + 16, none⟩ = some (.int .i64 0) := by rw [Hwp.out]; exact x16
  clear htc
  have v_q0 : (w3.alloc (.cells #[.int .i64 1, .int .i64 3, .slice a3 3 c3] 24)).cell? ⟨w3.heap.size, 0, none⟩ = some (.int .i64 1) := by rw [Hwp.out]; exact T11.out.2.1
  have v_q1 : (w3.alloc (.cells #[.int .i64 1, .int .i64 3, .slice a3 3 c3] 24)).cell? ⟨w3.heap.size, 1, none⟩ = some (.int .i64 3) := by rw [Hwp.out]; exact T11.out.2.2.1
  have v_q2 : (w3.alloc (.cells #[.int .i64 1, .int .i64 3, .slice a3 3 c3] 24)).cell? ⟨w3.heap.size, 2, none⟩ = some (.slice a3 3 c3) := by rw [Hwp.out]; exact T11.out.2.2.2
  go_wp2_with fail
  rw [Hwp.out]
  clear v_q0 v_q1 v_q2
  obtain ⟨wm, hwm⟩ : ∃ wm, wp.alloc (.cells #[.int .i64 0, .int .i64 1, .int .i64 0] 3) = wm := ⟨_, rfl⟩
  have hbwm : Below wp.heap.size wp wm := by rw [← hwm]; exact balloc (bnil wp) _
  have T12 := T11.up hbwm
  clear T11
  have Hwm := Lib.hid hwm
  clear hwm hbwm
  have hsz : w3.heap.size + 1 = wp.heap.size := by rw [← Hwp.out]; simp
  have hlit : RK .i64 wm (some ⟨w3.heap.size + 1, 0, none⟩) 3 [0, 1, 0] := by rw [hsz, ← Hwm.out]; exact litRK wp [0, 1, 0]
  clear hsz
  rw [Hwm.out]
  refine (patches_eq 1 3 a3 (some ⟨w3.heap.size + 1, 0, none⟩) 3 3 c3 3 [0, 1, 0] wm T12.out.1.2 hlit (by decide)).mono ?_; rintro e w9 ⟨rfl, hb9⟩
  have T13 := T12.up hb9
  clear T12
  clear x7 x16 y7 y16 hlit
  go_wp2
  go_ret
  exact ⟨rfl, T13.out.1.1.1.1.1.2⟩
end Go.Proofs.YtocfkmdoalhjmaaDoor
namespace Go.Proofs.YtocfkmdoalhjmaaDoor
set_option linter.unusedVariables false

/-- one turn behind another -/
def bothT (S T : Nat) : Nat := (if 4 ≤ S then (S + 8 - T) % 4 else (S + T) % 4) + (if decide (4 ≤ S) = decide (4 ≤ T) then 0 else 4)
theorem lt8 {S : Nat} (h : S < 8) : S = 0 ∨ S = 1 ∨ S = 2 ∨ S = 3 ∨ S = 4 ∨ S = 5 ∨ S = 6 ∨ S = 7 := by omega
theorem atL_congr {w : Nat} {l : List Int} {x y x' y' : Nat} (h1 : x = x') (h2 : y = y') : atL w l x y = atL w l x' y' := by rw [h1, h2]
set_option maxHeartbeats 4000000 in
theorem turn_turn {w h S T : Nat} {l : List Int} (hw : 1 ≤ w) (hh : 1 ≤ h) (hS : S < 8) (hT : T < 8) :
    turnW (turnW w h S) (turnW h w S) T = turnW w h (bothT S T) ∧ turnW (turnW h w S) (turnW w h S) T = turnW h w (bothT S T) ∧ turnL (turnW w h S) (turnW h w S) (turnL w h l S) T = turnL w h l (bothT S T) := by
  have hc : turnW (turnW w h S) (turnW h w S) T = turnW w h (bothT S T) ∧ turnW (turnW h w S) (turnW w h S) T = turnW h w (bothT S T) := by
    rcases lt8 hS with rfl | rfl | rfl | rfl | rfl | rfl | rfl | rfl <;> rcases lt8 hT with rfl | rfl | rfl | rfl | rfl | rfl | rfl | rfl <;> exact ⟨rfl, rfl⟩
  refine ⟨hc.1, hc.2, ?_⟩
  unfold turnL
  rw [hc.1, hc.2]
  refine madeL_congr (by unfold turnW; split <;> omega) fun x y hx hy => ?_
  clear hc
  rcases lt8 hS with rfl | rfl | rfl | rfl | rfl | rfl | rfl | rfl <;> rcases lt8 hT with rfl | rfl | rfl | rfl | rfl | rfl | rfl | rfl <;>
    (simp [turnF, turnW, bothT] at hx hy ⊢; rw [atL_made (by omega) (by omega)]; try simp [turnF, turnW]; try exact atL_congr (by omega) (by omega))

/-! ### sums -/
def sumR (n : Nat) (f : Nat → Int) : Int := ((List.range n).map f).sum
theorem sumR_zero (f : Nat → Int) : sumR 0 f = 0 := rfl
theorem sumR_succ (n : Nat) (f : Nat → Int) : sumR (n + 1) f = sumR n f + f n := by simp [sumR, List.range_succ]
theorem sumR_congr {n : Nat} {f g : Nat → Int} (h : ∀ i, i < n → f i = g i) : sumR n f = sumR n g := by
  unfold sumR
  rw [List.map_congr_left fun i hi => h i (List.mem_range.1 hi)]
theorem sumR_add (n : Nat) (f g : Nat → Int) : sumR n (fun i => f i + g i) = sumR n f + sumR n g := by
  induction n with
  | zero => rfl
  | succ n ih => rw [sumR_succ, sumR_succ, sumR_succ, ih]; omega
theorem sumR_const0 (n : Nat) : sumR n (fun _ => 0) = 0 := by
  induction n with
  | zero => rfl
  | succ n ih => rw [sumR_succ, ih]; rfl
theorem sumR_swap (n m : Nat) (f : Nat → Nat → Int) : sumR n (fun i => sumR m (fun j => f i j)) = sumR m (fun j => sumR n (fun i => f i j)) := by
  induction n with
  | zero => exact (sumR_const0 m).symm
  | succ n ih =>
    rw [sumR_succ, ih, ← sumR_add]
    exact sumR_congr fun j _ => (sumR_succ n _).symm
theorem sumR_front (n : Nat) (f : Nat → Int) : sumR (n + 1) f = f 0 + sumR n (fun i => f (i + 1)) := by
  induction n with
  | zero => simp [sumR]
  | succ n ih => rw [sumR_succ, ih, sumR_succ]; omega
theorem sumR_flip (n : Nat) (f : Nat → Int) : sumR n (fun i => f (n - 1 - i)) = sumR n f := by
  induction n generalizing f with
  | zero => rfl
  | succ n ih =>
    rw [sumR_front n f, sumR_succ]
    have h1 : sumR n (fun i => f (n + 1 - 1 - i)) = sumR n (fun i => f (i + 1)) := by
      rw [← ih fun i => f (i + 1)]
      exact sumR_congr fun i hi => by rw [show n + 1 - 1 - i = n - 1 - i + 1 by omega]
    rw [h1, show n + 1 - 1 - n = 0 by omega]
    omega
theorem sumR_rows (w h : Nat) (hw : 0 < w) (f : Nat → Nat → Int) : sumR (w * h) (fun i => f (i % w) (i / w)) = sumR h (fun y => sumR w (fun x => f x y)) := by
  induction h with
  | zero => rfl
  | succ h ih =>
    rw [sumR_succ, ← ih, Nat.mul_succ]
    have key : ∀ k, k ≤ w → sumR (w * h + k) (fun i => f (i % w) (i / w)) = sumR (w * h) (fun i => f (i % w) (i / w)) + sumR k (fun x => f x h) := by
      intro k
      induction k with
      | zero => intro _; simp [sumR_zero]
      | succ k ihk =>
        intro hk
        rw [← Nat.add_assoc, sumR_succ, ihk (by omega), sumR_succ]
        have e1 : (w * h + k) % w = k := by rw [Nat.mul_add_mod, Nat.mod_eq_of_lt (by omega)]
        have e2 : (w * h + k) / w = h := by rw [Nat.mul_add_div hw, Nat.div_eq_of_lt (by omega)]; omega
        rw [e1, e2]
        omega
    exact key w (Nat.le_refl _)
theorem madeL_sum {w h : Nat} (hw : 0 < w) (f : Nat → Nat → Int) : (madeL w h f).sum = sumR h (fun y => sumR w (fun x => f x y)) := (sumR_rows w h hw f)
theorem turn_sum {w h S : Nat} {l : List Int} (hp : IsPatch w h l) (hS : S < 8) : (turnL w h l S).sum = l.sum := by
  have hw := hp.w1
  have hh := hp.h1
  have e0 : l.sum = sumR h (fun y => sumR w (fun x => atL w l x y)) := by rw [← madeL_sum (by omega), made_atL (by omega) hp.len]
  unfold turnL
  rw [madeL_sum (by unfold turnW; split <;> omega), e0]
  rcases lt8 hS with rfl | rfl | rfl | rfl | rfl | rfl | rfl | rfl
  · rfl
  · show sumR w (fun y => sumR h (fun x => atL w l y (h - 1 - x))) = _
    rw [sumR_swap w h, sumR_flip h fun x => sumR w fun i => atL w l i x]
  · show sumR h (fun y => sumR w (fun x => atL w l (w - 1 - x) (h - 1 - y))) = _
    rw [sumR_flip h fun y => sumR w (fun x => atL w l (w - 1 - x) y)]
    exact sumR_congr fun y _ => sumR_flip w fun x => atL w l x y
  · show sumR w (fun y => sumR h (fun x => atL w l (w - 1 - y) x)) = _
    rw [sumR_swap w h]
    exact sumR_congr fun y _ => sumR_flip w fun x => atL w l x y
  · show sumR h (fun y => sumR w (fun x => atL w l (w - 1 - x) y)) = _
    exact sumR_congr fun y _ => sumR_flip w fun x => atL w l x y
  · show sumR w (fun y => sumR h (fun x => atL w l y (h - 1 - (h - 1 - x)))) = _
    rw [sumR_swap w h]
    refine sumR_congr fun y hy => sumR_congr fun x _ => ?_
    rw [show h - 1 - (h - 1 - y) = y by omega]
  · show sumR h (fun y => sumR w (fun x => atL w l (w - 1 - (w - 1 - x)) (h - 1 - y))) = _
    rw [sumR_flip h fun y => sumR w (fun x => atL w l (w - 1 - (w - 1 - x)) y)]
    refine sumR_congr fun y _ => sumR_congr fun x hx => ?_
    rw [show w - 1 - (w - 1 - x) = x by omega]
  · show sumR w (fun y => sumR h (fun x => atL w l (w - 1 - y) (h - 1 - x))) = _
    rw [sumR_swap w h, sumR_flip h fun x => sumR w fun i => atL w l (w - 1 - i) x]
    exact sumR_congr fun y _ => sumR_flip w fun x => atL w l x y
end Go.Proofs.YtocfkmdoalhjmaaDoor
namespace Go.Proofs.YtocfkmdoalhjmaaDoor
set_option linter.unusedVariables false
set_option maxRecDepth 100000

theorem winN_eq {w w' : Nat} {l l' : List Int} {x y x' y' : Nat} (h : ∀ i j, i < 3 → j < 3 → atL w l (x + i) (y + j) = atL w' l' (x' + i) (y' + j)) : winN w l x y = winN w' l' x' y' := by
  have h00 := h 0 0 (by omega) (by omega)
  have h10 := h 1 0 (by omega) (by omega)
  have h20 := h 2 0 (by omega) (by omega)
  have h01 := h 0 1 (by omega) (by omega)
  have h11 := h 1 1 (by omega) (by omega)
  have h21 := h 2 1 (by omega) (by omega)
  have h02 := h 0 2 (by omega) (by omega)
  have h12 := h 1 2 (by omega) (by omega)
  have h22 := h 2 2 (by omega) (by omega)
  simp only [Nat.add_zero] at h00 h10 h20 h01 h11 h21 h02 h12 h22
  unfold winN winZ
  rw [h00, h10, h20, h01, h11, h21, h02, h12, h22]
/-- the image of a piece is a piece of the image -/
theorem step_cut {w h x y p q : Nat} {l t : List Int} (hp : 1 ≤ p) (hx : x + p + 2 ≤ w) (hy : y + q + 2 ≤ h) : stepL t (p + 2) (q + 2) (cutL w l x y (p + 2) (q + 2)) = cutL (w - 2) (stepL t w h l) x y p q := by
  unfold stepL
  show madeL p q _ = _
  unfold cutL
  refine madeL_congr (by omega) fun i j hi hj => ?_
  rw [atL_made (by omega) (by omega)]
  unfold stepF
  congr 1
  refine winN_eq fun a b ha hb => ?_
  rw [atL_made (by omega) (by omega), Nat.add_assoc, Nat.add_assoc]
/-- a window's number, its cells taken from other places -/
def mvT (f : Nat → Nat) (win : Nat) : Nat → Nat
  | 0 => 0
  | k + 1 => 2 * mvT f win k + win / 2 ^ (8 - f k) % 2
def qF (k : Nat) : Nat := [6, 3, 0, 7, 4, 1, 8, 5, 2].getD k 0
def mF (k : Nat) : Nat := [2, 1, 0, 5, 4, 3, 8, 7, 6].getD k 0
theorem mvT_lt (f : Nat → Nat) (win : Nat) : ∀ k, mvT f win k < 2 ^ k
  | 0 => by simp [mvT]
  | k + 1 => by
    have ih := mvT_lt f win k
    unfold mvT
    rw [Nat.pow_succ]
    omega
theorem mv_bits : ∀ (a b c d e f g h i : Fin 2), mvT qF (256 * a.val + 128 * b.val + 64 * c.val + 32 * d.val + 16 * e.val + 8 * f.val + 4 * g.val + 2 * h.val + i.val) 9 = 256 * g.val + 128 * d.val + 64 * a.val + 32 * h.val + 16 * e.val + 8 * b.val + 4 * i.val + 2 * f.val + c.val ∧ mvT mF (256 * a.val + 128 * b.val + 64 * c.val + 32 * d.val + 16 * e.val + 8 * f.val + 4 * g.val + 2 * h.val + i.val) 9 = 256 * c.val + 128 * b.val + 64 * a.val + 32 * f.val + 16 * e.val + 8 * d.val + 4 * i.val + 2 * h.val + g.val := by decide +kernel
/-- do a quarter turn and the mirror leave the table? -/
def evOk (t : List Int) (i : Nat) : Prop := t.getD (mvT qF i 9) 0 = t.getD i 0 ∧ t.getD (mvT mF i 9) 0 = t.getD i 0
instance (t : List Int) (i : Nat) : Decidable (evOk t i) := by unfold evOk; exact inferInstance
def evB (t : List Int) : Bool := (List.range 512).all fun i => decide (evOk t i)
theorem evB_true {t : List Int} (h : ∀ i, i < 512 → evOk t i) : evB t = true := by
  unfold evB
  rw [List.all_eq_true]
  intro i hi
  exact decide_eq_true (h i (List.mem_range.1 hi))
theorem evB_of {t : List Int} (h : evB t = true) {i : Nat} (hi : i < 512) : evOk t i := by
  unfold evB at h
  rw [List.all_eq_true] at h
  exact of_decide_eq_true (h i (List.mem_range.2 hi))
theorem evB_false {t : List Int} {i : Nat} (hi : i < 512) (h : ¬ evOk t i) : evB t = false := by
  cases hq : evB t with
  | false => rfl
  | true => exact absurd (evB_of hq hi) h
theorem win_move {w h : Nat} {l : List Int} (hp : IsPatch w h l) {x y : Nat} (hx : x + 2 < w) (hy : y + 2 < h) {w' : Nat} {l' : List Int} {x' y' : Nat} :
    ((∀ i j, i < 3 → j < 3 → atL w' l' (x' + i) (y' + j) = atL w l (x + j) (y + (2 - i))) → winN w' l' x' y' = mvT qF (winN w l x y) 9) ∧
    ((∀ i j, i < 3 → j < 3 → atL w' l' (x' + i) (y' + j) = atL w l (x + (2 - i)) (y + j)) → winN w' l' x' y' = mvT mF (winN w l x y) 9) := by
  obtain ⟨c1, e1, h1⟩ := atL_nat hp (show x < w by omega) (show y < h by omega)
  obtain ⟨c2, e2, h2⟩ := atL_nat hp (show x + 1 < w by omega) (show y < h by omega)
  obtain ⟨c3, e3, h3⟩ := atL_nat hp (show x + 2 < w by omega) (show y < h by omega)
  obtain ⟨c4, e4, h4⟩ := atL_nat hp (show x < w by omega) (show y + 1 < h by omega)
  obtain ⟨c5, e5, h5⟩ := atL_nat hp (show x + 1 < w by omega) (show y + 1 < h by omega)
  obtain ⟨c6, e6, h6⟩ := atL_nat hp (show x + 2 < w by omega) (show y + 1 < h by omega)
  obtain ⟨c7, e7, h7⟩ := atL_nat hp (show x < w by omega) (show y + 2 < h by omega)
  obtain ⟨c8, e8, h8⟩ := atL_nat hp (show x + 1 < w by omega) (show y + 2 < h by omega)
  obtain ⟨c9, e9, h9⟩ := atL_nat hp (show x + 2 < w by omega) (show y + 2 < h by omega)
  have hN : winN w l x y = 256 * c1 + 128 * c2 + 64 * c3 + 32 * c4 + 16 * c5 + 8 * c6 + 4 * c7 + 2 * c8 + c9 := by
    unfold winN winZ
    rw [e1, e2, e3, e4, e5, e6, e7, e8, e9]
    omega
  obtain ⟨b1, b2⟩ := mv_bits ⟨c1, by omega⟩ ⟨c2, by omega⟩ ⟨c3, by omega⟩ ⟨c4, by omega⟩ ⟨c5, by omega⟩ ⟨c6, by omega⟩ ⟨c7, by omega⟩ ⟨c8, by omega⟩ ⟨c9, by omega⟩
  simp only at b1 b2
  rw [hN, b1, b2]
  clear b1 b2 hN
  constructor
  · intro hA
    have a00 := hA 0 0 (by omega) (by omega)
    have a10 := hA 1 0 (by omega) (by omega)
    have a20 := hA 2 0 (by omega) (by omega)
    have a01 := hA 0 1 (by omega) (by omega)
    have a11 := hA 1 1 (by omega) (by omega)
    have a21 := hA 2 1 (by omega) (by omega)
    have a02 := hA 0 2 (by omega) (by omega)
    have a12 := hA 1 2 (by omega) (by omega)
    have a22 := hA 2 2 (by omega) (by omega)
    simp only [Nat.add_zero, Nat.sub_zero, Nat.reduceSub, Nat.sub_self] at a00 a10 a20 a01 a11 a21 a02 a12 a22
    clear hA
    unfold winN winZ
    rw [a00, a10, a20, a01, a11, a21, a02, a12, a22, e1, e2, e3, e4, e5, e6, e7, e8, e9]
    clear a00 a10 a20 a01 a11 a21 a02 a12 a22 e1 e2 e3 e4 e5 e6 e7 e8 e9
    omega
  · intro hA
    have a00 := hA 0 0 (by omega) (by omega)
    have a10 := hA 1 0 (by omega) (by omega)
    have a20 := hA 2 0 (by omega) (by omega)
    have a01 := hA 0 1 (by omega) (by omega)
    have a11 := hA 1 1 (by omega) (by omega)
    have a21 := hA 2 1 (by omega) (by omega)
    have a02 := hA 0 2 (by omega) (by omega)
    have a12 := hA 1 2 (by omega) (by omega)
    have a22 := hA 2 2 (by omega) (by omega)
    simp only [Nat.add_zero, Nat.sub_zero, Nat.reduceSub, Nat.sub_self] at a00 a10 a20 a01 a11 a21 a02 a12 a22
    clear hA
    unfold winN winZ
    rw [a00, a10, a20, a01, a11, a21, a02, a12, a22, e1, e2, e3, e4, e5, e6, e7, e8, e9]
    clear a00 a10 a20 a01 a11 a21 a02 a12 a22 e1 e2 e3 e4 e5 e6 e7 e8 e9
    omega
theorem step_q {w h : Nat} {l t : List Int} (hp : IsPatch w h l) (hw : 3 ≤ w) (hh : 3 ≤ h) (he : evB t = true) : stepL t h w (turnL w h l 1) = turnL (w - 2) (h - 2) (stepL t w h l) 1 := by
  unfold stepL
  show madeL (h - 2) (w - 2) _ = madeL (h - 2) (w - 2) _
  refine madeL_congr (by omega) fun x y hx hy => ?_
  have e1 : turnF (w - 2) (h - 2) (madeL (w - 2) (h - 2) (stepF t w l)) 1 x y = stepF t w l y (h - 2 - 1 - x) := by
    show atL (w - 2) _ y (h - 2 - 1 - x) = _
    rw [atL_made (by omega) (by omega)]
  rw [e1]
  unfold stepF
  have hlt := (winN_lt hp (show y + 2 < w by omega) (show h - 2 - 1 - x + 2 < h by omega)).1
  rw [(win_move hp (show y + 2 < w by omega) (show h - 2 - 1 - x + 2 < h by omega)).1 fun i j hi hj => ?_]
  · exact (evB_of he hlt).1
  · show atL h (madeL h w _) (x + i) (y + j) = _
    rw [atL_made (by omega) (by omega)]
    show atL w l (y + j) (h - 1 - (x + i)) = _
    exact atL_congr rfl (by omega)
theorem step_m {w h : Nat} {l t : List Int} (hp : IsPatch w h l) (hw : 3 ≤ w) (hh : 3 ≤ h) (he : evB t = true) : stepL t w h (turnL w h l 4) = turnL (w - 2) (h - 2) (stepL t w h l) 4 := by
  unfold stepL
  show madeL (w - 2) (h - 2) _ = madeL (w - 2) (h - 2) _
  refine madeL_congr (by omega) fun x y hx hy => ?_
  have e1 : turnF (w - 2) (h - 2) (madeL (w - 2) (h - 2) (stepF t w l)) 4 x y = stepF t w l (w - 2 - 1 - x) y := by
    show atL (w - 2) _ (w - 2 - 1 - x) y = _
    rw [atL_made (by omega) (by omega)]
  rw [e1]
  unfold stepF
  have hlt := (winN_lt hp (show w - 2 - 1 - x + 2 < w by omega) (show y + 2 < h by omega)).1
  rw [(win_move hp (show w - 2 - 1 - x + 2 < w by omega) (show y + 2 < h by omega)).2 fun i j hi hj => ?_]
  · exact (evB_of he hlt).2
  · show atL w (madeL w h _) (x + i) (y + j) = _
    rw [atL_made (by omega) (by omega)]
    show atL w l (w - 1 - (x + i)) (y + j) = _
    exact atL_congr (by omega) rfl
theorem stepL_patch {w h : Nat} {l t : List Int} (hp : IsPatch w h l) (ht : t.length = 512) (hs : ∀ x ∈ t, x = 0 ∨ x = 1) (hw : 3 ≤ w) (hh : 3 ≤ h) : IsPatch (w - 2) (h - 2) (stepL t w h l) := by
  have := hp.w2
  have := hp.h2
  refine ⟨by omega, by omega, by omega, by omega, madeL_len _ _ _, madeL_mem (P := fun x => x = 0 ∨ x = 1) (by omega) fun x y hx hy => ?_⟩
  have hlt := (winN_lt hp (show x + 2 < w by omega) (show y + 2 < h by omega)).1
  unfold stepF
  rw [show t.getD (winN w l x y) 0 = t[winN w l x y]'(by omega) by simp [show winN w l x y < t.length by omega]]
  exact hs _ (List.getElem_mem _)
/-- the image of a turned patch, where turns don't matter -/
theorem step_turn {w h T : Nat} {l t : List Int} (hp : IsPatch w h l) (ht : t.length = 512) (hs : ∀ x ∈ t, x = 0 ∨ x = 1) (hw : 3 ≤ w) (hh : 3 ≤ h) (he : evB t = true) (hT : T < 8) :
    stepL t (turnW w h T) (turnW h w T) (turnL w h l T) = turnL (w - 2) (h - 2) (stepL t w h l) T := by
  have hi := stepL_patch hp ht hs hw hh
  have q0 : stepL t (turnW w h 0) (turnW h w 0) (turnL w h l 0) = turnL (w - 2) (h - 2) (stepL t w h l) 0 := by
    have e1 : turnL w h l 0 = l := made_atL hp.w1 hp.len
    have e2 : turnL (w - 2) (h - 2) (stepL t w h l) 0 = stepL t w h l := made_atL hi.w1 hi.len
    rw [e1, e2]
    rfl
  have next : ∀ S, S < 3 → stepL t (turnW w h S) (turnW h w S) (turnL w h l S) = turnL (w - 2) (h - 2) (stepL t w h l) S → stepL t (turnW w h (S + 1)) (turnW h w (S + 1)) (turnL w h l (S + 1)) = turnL (w - 2) (h - 2) (stepL t w h l) (S + 1) := by
    intro S hS ih
    have hb : bothT S 1 = S + 1 := by
      have : S = 0 ∨ S = 1 ∨ S = 2 := by omega
      rcases this with rfl | rfl | rfl <;> rfl
    have h1 := turn_turn (w := w) (h := h) (l := l) hp.w1 hp.h1 (show S < 8 by omega) (show 1 < 8 by omega)
    have h2 := turn_turn (w := w - 2) (h := h - 2) (l := stepL t w h l) hi.w1 hi.h1 (show S < 8 by omega) (show 1 < 8 by omega)
    rw [hb] at h1 h2
    have hq := step_q (t := t) (turn_patch (t := S) hp) (by unfold turnW; split <;> omega) (by unfold turnW; split <;> omega) he
    rw [h1.2.2, ih] at hq
    have e1 : turnW w h S - 2 = turnW (w - 2) (h - 2) S := by unfold turnW; split <;> rfl
    have e2 : turnW h w S - 2 = turnW (h - 2) (w - 2) S := by unfold turnW; split <;> rfl
    rw [e1, e2, h2.2.2] at hq
    rw [← hq]
    have e3 : turnW w h (S + 1) = turnW h w S := h1.1.symm
    have e4 : turnW h w (S + 1) = turnW w h S := h1.2.1.symm
    rw [e3, e4]
  have mir : ∀ S, S < 4 → stepL t (turnW w h S) (turnW h w S) (turnL w h l S) = turnL (w - 2) (h - 2) (stepL t w h l) S → stepL t (turnW w h (S + 4)) (turnW h w (S + 4)) (turnL w h l (S + 4)) = turnL (w - 2) (h - 2) (stepL t w h l) (S + 4) := by
    intro S hS ih
    have hb : bothT S 4 = S + 4 := by
      have : S = 0 ∨ S = 1 ∨ S = 2 ∨ S = 3 := by omega
      rcases this with rfl | rfl | rfl | rfl <;> rfl
    have h1 := turn_turn (w := w) (h := h) (l := l) hp.w1 hp.h1 (show S < 8 by omega) (show 4 < 8 by omega)
    have h2 := turn_turn (w := w - 2) (h := h - 2) (l := stepL t w h l) hi.w1 hi.h1 (show S < 8 by omega) (show 4 < 8 by omega)
    rw [hb] at h1 h2
    have hq := step_m (t := t) (turn_patch (t := S) hp) (by unfold turnW; split <;> omega) (by unfold turnW; split <;> omega) he
    rw [h1.2.2, ih] at hq
    have e1 : turnW w h S - 2 = turnW (w - 2) (h - 2) S := by unfold turnW; split <;> rfl
    have e2 : turnW h w S - 2 = turnW (h - 2) (w - 2) S := by unfold turnW; split <;> rfl
    rw [e1, e2, h2.2.2] at hq
    rw [← hq]
    have e3 : turnW w h (S + 4) = turnW w h S := h1.1.symm
    have e4 : turnW h w (S + 4) = turnW h w S := h1.2.1.symm
    rw [e3, e4]
  have q1 := next 0 (by omega) q0
  have q2 := next 1 (by omega) q1
  have q3 := next 2 (by omega) q2
  have hc : T = 0 ∨ T = 1 ∨ T = 2 ∨ T = 3 ∨ T = 4 ∨ T = 5 ∨ T = 6 ∨ T = 7 := by omega
  rcases hc with rfl | rfl | rfl | rfl | rfl | rfl | rfl | rfl
  · exact q0
  · exact q1
  · exact q2
  · exact q3
  · exact mir 0 (by omega) q0
  · exact mir 1 (by omega) q1
  · exact mir 2 (by omega) q2
  · exact mir 3 (by omega) q3
end Go.Proofs.YtocfkmdoalhjmaaDoor
namespace Go.Proofs.YtocfkmdoalhjmaaDoor
open Go.RowKit
set_option linter.unusedVariables false
set_option maxRecDepth 100000

theorem idx9 (k : Nat) (hk : k < 9) (f0 f1 f2 f3 f4 f5 f6 f7 f8 : Nat) (w : World) :
    (Instr.index 111 (.agg #[.int .i64 (f0 : Nat), .int .i64 (f1 : Nat), .int .i64 (f2 : Nat), .int .i64 (f3 : Nat), .int .i64 (f4 : Nat), .int .i64 (f5 : Nat), .int .i64 (f6 : Nat), .int .i64 (f7 : Nat), .int .i64 (f8 : Nat)]) (.int .i64 (k : Int))).run Tryd.prog w = .ok (.int .i64 ((([f0, f1, f2, f3, f4, f5, f6, f7, f8] : List Nat).getD k 0 : Nat) : Int)) w := by
  have h : Tryd.prog.underlying 111 = some (.array 9 3) := by kernel_rfl
  have hj : k = 0 ∨ k = 1 ∨ k = 2 ∨ k = 3 ∨ k = 4 ∨ k = 5 ∨ k = 6 ∨ k = 7 ∨ k = 8 := by omega
  rcases hj with rfl | rfl | rfl | rfl | rfl | rfl | rfl | rfl | rfl
  all_goals simp [Instr.index, run_underlying h, asIntOf, go_sem]
theorem get9 {f0 f1 f2 f3 f4 f5 f6 f7 f8 : Nat} (h0 : f0 ≤ 8) (h1 : f1 ≤ 8) (h2 : f2 ≤ 8) (h3 : f3 ≤ 8) (h4 : f4 ≤ 8) (h5 : f5 ≤ 8) (h6 : f6 ≤ 8) (h7 : f7 ≤ 8) (h8 : f8 ≤ 8) {k : Nat} (hk : k < 9) : ([f0, f1, f2, f3, f4, f5, f6, f7, f8] : List Nat).getD k 0 ≤ 8 := by
  have hj : k = 0 ∨ k = 1 ∨ k = 2 ∨ k = 3 ∨ k = 4 ∨ k = 5 ∨ k = 6 ∨ k = 7 ∨ k = 8 := by omega
  rcases hj with rfl | rfl | rfl | rfl | rfl | rfl | rfl | rfl | rfl <;> assumption
set_option maxHeartbeats 4000000 in
theorem moved_any (win : Nat) (hw : win < 512) (f0 f1 f2 f3 f4 f5 f6 f7 f8 : Nat) (h0 : f0 ≤ 8) (h1 : f1 ≤ 8) (h2 : f2 ≤ 8) (h3 : f3 ≤ 8) (h4 : f4 ≤ 8) (h5 : f5 ≤ 8) (h6 : f6 ≤ 8) (h7 : f7 ≤ 8) (h8 : f8 ≤ 8) (W : World) :
    Calls Tryd.prog 63 #[.int .i64 (win : Nat), .agg #[.int .i64 (f0 : Nat), .int .i64 (f1 : Nat), .int .i64 (f2 : Nat), .int .i64 (f3 : Nat), .int .i64 (f4 : Nat), .int .i64 (f5 : Nat), .int .i64 (f6 : Nat), .int .i64 (f7 : Nat), .int .i64 (f8 : Nat)]] W fun e w' => e = .returned (.int .i64 (mvT (fun k => ([f0, f1, f2, f3, f4, f5, f6, f7, f8] : List Nat).getD k 0) win 9 : Nat)) ∧ Below W.heap.size W w' := by
  have HG : Hid (∀ k : Nat, k < 9 → ([f0, f1, f2, f3, f4, f5, f6, f7, f8] : List Nat).getD k 0 ≤ 8) := fun k hk => get9 h0 h1 h2 h3 h4 h5 h6 h7 h8 hk
  clear h0 h1 h2 h3 h4 h5 h6 h7 h8
  go_enter Tryd.func63, Tryd.ntmps63
  go_wp2
  obtain ⟨Wb, hWb⟩ : ∃ Wb, W.alloc (.cells #[.int .i64 (f0 : Nat), .int .i64 (f1 : Nat), .int .i64 (f2 : Nat), .int .i64 (f3 : Nat), .int .i64 (f4 : Nat), .int .i64 (f5 : Nat), .int .i64 (f6 : Nat), .int .i64 (f7 : Nat), .int .i64 (f8 : Nat)] 111) = Wb := ⟨_, rfl⟩
  have HB : Hid (Below W.heap.size W Wb) := by rw [← hWb]; exact balloc (bnil W) _
  rw [hWb]
  clear hWb
  go_loop [5, 9] (fun nx ix => ∃ k : Nat, k ≤ 9 ∧ ix = .int .i64 (k : Nat) ∧ nx = .int .i64 (mvT (fun k => ([f0, f1, f2, f3, f4, f5, f6, f7, f8] : List Nat).getD k 0) win k : Nat)) (fun _ ix => 9 - (intOf ix).toNat)
  case atStart => exact ⟨0, by omega, rfl, rfl⟩
  case round =>
    obtain ⟨k, hk, rfl, rfl⟩ := hrel
    by_cases hlt : k < 9
    · have eix := idx9 k hlt f0 f1 f2 f3 f4 f5 f6 f7 f8 Wb
      have hf := HG.out k hlt
      have HM : Hid (mvT (fun k => ([f0, f1, f2, f3, f4, f5, f6, f7, f8] : List Nat).getD k 0) win (k + 1) = 2 * mvT (fun k => ([f0, f1, f2, f3, f4, f5, f6, f7, f8] : List Nat).getD k 0) win k + win / 2 ^ (8 - ([f0, f1, f2, f3, f4, f5, f6, f7, f8] : List Nat).getD k 0) % 2) := rfl
      have hb := mvT_lt (fun k => ([f0, f1, f2, f3, f4, f5, f6, f7, f8] : List Nat).getD k 0) win k
      have hp : 2 ^ k ≤ 256 := by
        have := Nat.pow_le_pow_right (n := 2) (by omega) (show k ≤ 8 by omega)
        have h9 : (2 : Nat) ^ 8 = 256 := by decide
        omega
      have hb2 : mvT (fun k => ([f0, f1, f2, f3, f4, f5, f6, f7, f8] : List Nat).getD k 0) win k ≤ 256 := by omega
      generalize ([f0, f1, f2, f3, f4, f5, f6, f7, f8] : List Nat).getD k 0 = P at *
      generalize mvT (fun k => ([f0, f1, f2, f3, f4, f5, f6, f7, f8] : List Nat).getD k 0) win k = N at *
      obtain ⟨E, hE⟩ : ∃ E, 8 - P = E := ⟨_, rfl⟩
      rw [hE] at HM
      have hEI : (8 : Int) - (P : Int) = (E : Int) := by omega
      have hEw : IntKind.i64.wrap (E : Int) = (E : Int) := IntWalk.i64_in _ (by omega)
      have e0 : (0 : Int) ≤ (E : Int) := by omega
      have e1 : (E : Int) ≤ 64 := by omega
      obtain ⟨v, hv⟩ : ∃ v, win / 2 ^ E = v := ⟨_, rfl⟩
      have hvI : (win : Int) / 2 ^ E = (v : Int) := by rw [← hv, Int.natCast_ediv, Int.natCast_pow]; rfl
      have hv2 : v < 512 := by rw [← hv]; exact Nat.lt_of_le_of_lt (Nat.div_le_self _ _) hw
      rw [hv] at HM
      have ha := and1_i64 (a := v) (by omega)
      have hz : v % 2 ≤ 1 := by omega
      generalize v % 2 = z at *
      clear hv hE hb hp hf
      go_wp2
      go_round
      case rel => exact ⟨k + 1, by omega, by go_num, by rw [HM.out]; go_num⟩
      case measure => simp [intOf]; omega
    · obtain rfl : k = 9 := by omega
      go_wp2
      go_ret
      exact ⟨rfl, HB.out⟩
theorem moved_q (win : Nat) (hw : win < 512) (W : World) : Calls Tryd.prog 63 #[.int .i64 (win : Nat), .agg #[.int .i64 6, .int .i64 3, .int .i64 0, .int .i64 7, .int .i64 4, .int .i64 1, .int .i64 8, .int .i64 5, .int .i64 2]] W fun e w' => e = .returned (.int .i64 (mvT qF win 9 : Nat)) ∧ Below W.heap.size W w' :=
  moved_any win hw 6 3 0 7 4 1 8 5 2 (by omega) (by omega) (by omega) (by omega) (by omega) (by omega) (by omega) (by omega) (by omega) W
theorem moved_m (win : Nat) (hw : win < 512) (W : World) : Calls Tryd.prog 63 #[.int .i64 (win : Nat), .agg #[.int .i64 2, .int .i64 1, .int .i64 0, .int .i64 5, .int .i64 4, .int .i64 3, .int .i64 8, .int .i64 7, .int .i64 6]] W fun e w' => e = .returned (.int .i64 (mvT mF win 9 : Nat)) ∧ Below W.heap.size W w' :=
  moved_any win hw 2 1 0 5 4 3 8 7 6 (by omega) (by omega) (by omega) (by omega) (by omega) (by omega) (by omega) (by omega) (by omega) W
def evenO (t : List Int) : Bool := decide (tabD t = none) && evB t
def EvRet (R : Nat → Addr) (W : World) (b : Bool) (x : ErrD) (e : Ending) (w' : World) : Prop := ∃ ev, e = .returned (.tuple #[.bool b, ev]) ∧ EC R w' ev x ∧ Below W.heap.size W w'
theorem evenO_er {t : List Int} (h : tabD t ≠ none) : evenO t = false := by unfold evenO; rw [decide_eq_false h]; rfl
theorem evenO_ok {t : List Int} (h : tabD t = none) : evenO t = evB t := by unfold evenO; rw [decide_eq_true h]; rfl
set_option maxHeartbeats 16000000 in
theorem even_any (a : Option Addr) (n c : Nat) (t : List Int) (W : World) (R : Nat → Addr) (hS : Sent W R) (hT : RK .i64 W a n t) (hm : n ≤ maxLen) :
    Calls Tryd.prog 24 #[.slice a n c] W (EvRet R W (evenO t) (tabD t)) := by
  have T0 := Tk.nil W
  have T1 := T0.add (fun wv => Below W.heap.size W wv) (bnil W)
  clear T0
  have T2 := T1.add (fun wv => Sent wv R) (hS)
  clear T1
  have T3 := T2.add (fun wv => RK .i64 wv a n t) (hT)
  clear T2
  clear hS hT
  by_cases htd : tabD t ≠ none
  · skip
    have HO := Lib.hid (evenO_er htd)
    have HTD := Lib.hid htd
    clear htd
    go_enter Tryd.func24, Tryd.ntmps24
    go_wp2_with fail
    refine (plcheck_er a n c t W R T3.out.1.2 T3.out.2 hm HTD.out).mono ?_; rintro e w1 ⟨g, rfl, he, hbw1⟩
    have T4 := T3.up hbw1
    clear T3
    have HEC := Lib.hid he
    clear he
    go_wp2
    go_ret2
    rw [HO.out]
    exact ⟨_, rfl, HEC.out, T4.out.1.1.2⟩
  have ht0 : tabD t = none := Decidable.byContradiction htd
  have HO := Lib.hid (evenO_ok ht0)
  have HT := Lib.hid (tabD_none ht0)
  have HT0 := Lib.hid ht0
  clear htd ht0
  obtain rfl : n = 512 := (T3.out.2).len.trans HT.out.len
  go_enter Tryd.func24, Tryd.ntmps24
  go_wp2_with fail
  refine (plcheck_ok a 512 c t W R T3.out.1.2 T3.out.2 hm HT.out).mono ?_; rintro e w1 ⟨rfl, hbw1⟩
  have T4 := T3.up hbw1
  clear T3
  go_wp2_with fail
  go_loopw [14] (fun ix wr => ∃ i : Nat, i ≤ 512 ∧ ix = .int .i64 (i : Nat) ∧ (∀ j, j < i → evOk t j) ∧ Below w1.heap.size w1 wr) (fun ix _ => 512 - (intOf ix).toNat)
  case atStart => exact ⟨0, by omega, rfl, (fun j hj => absurd hj (by omega)), bnil w1⟩
  case round =>
    obtain ⟨i, hi, rfl, hall, hbx⟩ := hrel
    have HALL := Lib.hid hall
    have HBX := Lib.hid hbx
    clear hall
    have T5 := T4.up hbx
    clear T4
    generalize wr = wx at *
    clear hbx
    by_cases hlt : i < 512
    · skip
      obtain ⟨ab, ao, hab, _, hcell⟩ := (T5.out.2).addr (by omega)
      subst hab
      have z0 := hcell i hlt
      obtain ⟨Q, hQ⟩ : ∃ Q, mvT qF i 9 = Q := ⟨_, rfl⟩
      obtain ⟨M, hM⟩ : ∃ M, mvT mF i 9 = M := ⟨_, rfl⟩
      have hQ5 : Q < 512 := by rw [← hQ]; exact mvT_lt qF i 9
      have hM5 : M < 512 := by rw [← hM]; exact mvT_lt mF i 9
      have HZ : Hid (wx.cell? ⟨ab, ao + Q, none⟩ = some (.int .i64 (t.getD Q 0)) ∧ wx.cell? ⟨ab, ao + M, none⟩ = some (.int .i64 (t.getD M 0))) := ⟨hcell Q hQ5, hcell M hM5⟩
      have HQM := Lib.hid (And.intro hQ hM)
      obtain ⟨x, hx⟩ : ∃ x, t.getD i 0 = x := ⟨_, rfl⟩
      obtain ⟨y, hy⟩ : ∃ y, t.getD Q 0 = y := ⟨_, rfl⟩
      obtain ⟨u, hu⟩ : ∃ u, t.getD M 0 = u := ⟨_, rfl⟩
      rw [hx] at z0
      rw [hy, hu] at HZ
      have HV : Hid (t.getD i 0 = x ∧ t.getD (mvT qF i 9) 0 = y ∧ t.getD (mvT mF i 9) 0 = u) := by rw [hQ, hM]; exact ⟨hx, hy, hu⟩
      have i0 : (0 : Int) ≤ (i : Int) := by omega
      have i1 : (i : Int) < ((512 : Nat) : Int) := by omega
      have i2 : (i : Int) < 512 := by omega
      have q0 : (0 : Int) ≤ (Q : Int) := by omega
      have q1 : (Q : Int) < ((512 : Nat) : Int) := by omega
      have q2 : (Q : Int) < 512 := by omega
      have m0 : (0 : Int) ≤ (M : Int) := by omega
      have m1 : (M : Int) < ((512 : Nat) : Int) := by omega
      have m2 : (M : Int) < 512 := by omega
      clear hcell hQ hM hx hy hu
      go_wp2_with fail
      refine (moved_q i hlt wx).mono ?_; rintro e w3 ⟨rfl, hbw3⟩
      rw [HQM.out.1]
      have c1 : w3.cell? ⟨ab, ao + Q, none⟩ = some (.int .i64 y) := cpa hbw3 HZ.out.1
      have HB3 := Lib.hid (bstep HBX.out hbw3)
      have HZ3 := Lib.hid (cpa hbw3 HZ.out.2)
      have T6 := T5.up hbw3
      clear T5
      clear hbw3 z0
      by_cases hyx : y = x
      · skip
        subst hyx
        go_wp2_with fail
        refine (moved_m i hlt w3).mono ?_; rintro e w4 ⟨rfl, hbw4⟩
        rw [HQM.out.2]
        have c2 : w4.cell? ⟨ab, ao + M, none⟩ = some (.int .i64 u) := cpa hbw4 HZ3.out
        have HB4 := Lib.hid (bstep HB3.out hbw4)
        have T7 := T6.up hbw4
        clear T6
        clear hbw4 c1
        by_cases huy : u = y
        · skip
          subst huy
          have HA2 : Hid (∀ j, j < i + 1 → evOk t j) := by
            intro j hj
            rcases Nat.lt_or_ge j i with h | h
            · exact HALL.out j h
            · obtain rfl : j = i := by omega
              exact ⟨HV.out.2.1.trans HV.out.1.symm, HV.out.2.2.trans HV.out.1.symm⟩
          go_wp2
          go_roundw
          case rel => exact ⟨i + 1, by omega, by go_num, HA2.out, HB4.out⟩
          case measure => simp [intOf]; omega
        · skip
          have hne : (u != y) = true := by simpa using huy
          have HF : Hid (evB t = false) := evB_false hlt (fun h => huy (HV.out.2.2.symm.trans (h.2.trans HV.out.1)))
          go_wp2
          go_ret2
          rw [HO.out, HF.out, HT0.out]
          exact ⟨_, rfl, rfl, T7.out.1.1.2⟩
      · skip
        have hne : (y != x) = true := by simpa using hyx
        have HF : Hid (evB t = false) := evB_false hlt (fun h => hyx (HV.out.2.1.symm.trans (h.1.trans HV.out.1)))
        go_wp2
        go_ret2
        rw [HO.out, HF.out, HT0.out]
        exact ⟨_, rfl, rfl, T6.out.1.1.2⟩
    obtain rfl : i = 512 := by omega
    have HF := Lib.hid (evB_true HALL.out)
    go_wp2
    go_ret2
    rw [HO.out, HF.out, HT0.out]
    exact ⟨_, rfl, rfl, T5.out.1.1.2⟩
end Go.Proofs.YtocfkmdoalhjmaaDoor
namespace Go.Proofs.YtocfkmdoalhjmaaDoor
open Go.RowKit
set_option linter.unusedVariables false
set_option maxRecDepth 100000

theorem plstep_okQP (w h WN HN K : Nat) (a aT : Option Addr) (n c nT cT : Nat) (l t LL : List Int) (W : World) (R : Nat → Addr) (hS : Sent W R) (hR : SlI W a n c l) (hT : RK .i64 W aT nT t) (hmT : nT ≤ maxLen) (ht : IsTab t) (hp : IsPatch w h l) (hw3 : 3 ≤ w) (hh3 : 3 ≤ h) (e1 : w - 2 = WN) (e2 : h - 2 = HN) (e3 : WN * HN = K) (e4 : stepL t w h l = LL) :
    Calls Tryd.prog 17 #[.slice aT nT cT, patV w h a n c] W fun e w' => ∃ a' c', e = .returned (.tuple #[patV WN HN a' K c', .nilIface]) ∧ OwI w' W.heap.size a' K c' LL ∧ Below W.heap.size W w' := by
  refine (plstep_ok w h a aT n c nT cT l t W R hS hR hT hmT ht hp hw3 hh3).mono ?_
  rintro e w' ⟨a', n', c', rfl, ho, hb⟩
  have hn := ho.rk.len
  rw [show (stepL t w h l).length = (w - 2) * (h - 2) from madeL_len _ _ _] at hn
  subst e1 e2 e3 e4 hn
  exact ⟨a', c', rfl, ho, hb⟩
theorem modNP (s : Int) (m : Nat) (hm : 0 < m) : ∃ (r : Int) (X : Nat), s.tmod (m : Int) = r ∧ -(m : Int) < r ∧ r < (m : Int) ∧ (r + m).tmod m = (X : Int) ∧ (r + m) % (m : Int) = (X : Int) ∧ X < m := by
  have h1 := Int.lt_tmod_of_pos s (show (0 : Int) < (m : Int) by omega)
  have h2 := Int.tmod_lt_of_pos s (show (0 : Int) < (m : Int) by omega)
  have h3 := Int.emod_nonneg (s.tmod m + m) (show (m : Int) ≠ 0 by omega)
  have h4 := Int.emod_lt_of_pos (s.tmod m + m) (show (0 : Int) < (m : Int) by omega)
  have e : (s.tmod m + m) % (m : Int) = (((s.tmod m + m) % (m : Int)).toNat : Int) := by omega
  refine ⟨s.tmod m, ((s.tmod m + m) % (m : Int)).toNat, rfl, by omega, h2, ?_, e, by omega⟩
  rw [Int.tmod_eq_emod_of_nonneg (by omega)]
  exact e
theorem wr1P {x : Int} (h1 : -100000 ≤ x) (h2 : x ≤ 100000) : IntKind.i64.wrap x = x := IntWalk.i64_in _ (by omega)
theorem mulIP {a b Q : Nat} (h : a * b = Q) : (a : Int) * (b : Int) = (Q : Int) := by rw [← h, Int.natCast_mul]
theorem plstep_erZ (w h : Int) (a aT : Option Addr) (n c nT cT : Nat) (l t : List Int) (W : World) (R : Nat → Addr) (hS : Sent W R) (hR : SlI W a n c l) (hx : I64 l) (hT : RK .i64 W aT nT t) (hmT : nT ≤ maxLen) (hd : stepD t w h l ≠ none) :
    Calls Tryd.prog 17 #[.slice aT nT cT, patV w h a n c] W fun e w' => ∃ a' c' t p, e = .returned (.tuple #[patV 0 0 a' 0 c', .iface t p]) ∧ Below W.heap.size W w' := by
  refine (plstep_any w h a aT n c nT cT l t W R hS hR hx hT hmT).mono ?_
  rintro e w' ⟨a', n', c', ev, rfl, ho, he, hb⟩
  cases hq : stepD t w h l with
  | none => exact absurd hq hd
  | some x =>
    rw [stepO_er hq] at ho ⊢
    obtain rfl : n' = 0 := ho.rk.len
    rw [hq] at he
    obtain ⟨t, p, rfl⟩ := Chain.iface he
    exact ⟨a', c', t, _, rfl, hb⟩
theorem cut_okI (w h x y p q K : Nat) (pI qI : Int) (a : Option Addr) (n c : Nat) (l LC : List Int) (W : World) (R : Nat → Addr) (hS : Sent W R) (hR : RK .i64 W a n l) (hm : n ≤ maxLen) (hp : IsPatch w h l) (p1 : 1 ≤ p) (q1 : 1 ≤ q) (h3 : x + p ≤ w) (h4 : y + q ≤ h) (e1 : pI = (p : Int)) (e2 : qI = (q : Int)) (hK : p * q = K) (hL : cutL w l x y p q = LC) :
    Calls Tryd.prog 22 #[patV w h a n c, .int .i64 x, .int .i64 y, .int .i64 pI, .int .i64 qI] W fun e w' => ∃ g c', e = .returned (.tuple #[patV p q (some ⟨g, 0, none⟩) K c', .nilIface]) ∧ OwI w' W.heap.size (some ⟨g, 0, none⟩) K c' LC ∧ Below W.heap.size W w' := by
  subst e1 e2 hK hL
  exact cut_okP w h x y p q a n c l W R hS hR hm (fun u hu => by have := hp.sym u hu; omega) hp p1 q1 h3 h4
theorem turn_okI (w h T tw th K : Nat) (t : Int) (a : Option Addr) (n c : Nat) (l LT : List Int) (W : World) (R : Nat → Addr) (hS : Sent W R) (hR : RK .i64 W a n l) (hm : n ≤ maxLen) (hp : IsPatch w h l) (hT : t % 8 = (T : Int)) (e1 : turnW w h T = tw) (e2 : turnW h w T = th) (hK : tw * th = K) (hL : turnL w h l T = LT) :
    Calls Tryd.prog 25 #[patV w h a n c, .int .i64 t] W fun e w' => ∃ g c', e = .returned (.tuple #[patV tw th (some ⟨g, 0, none⟩) K c', .nilIface]) ∧ OwI w' W.heap.size (some ⟨g, 0, none⟩) K c' LT ∧ Below W.heap.size W w' := by
  subst e1 e2 hK hL
  exact turn_okP w h t a n c l W R hS hR hm (fun u hu => by have := hp.sym u hu; omega) hp T hT
theorem even_okQ (a : Option Addr) (n c : Nat) (t : List Int) (b : Bool) (W : World) (R : Nat → Addr) (hS : Sent W R) (hT : RK .i64 W a n t) (hm : n ≤ maxLen) (ht : IsTab t) (hb : evB t = b) :
    Calls Tryd.prog 24 #[.slice a n c] W fun e w' => e = .returned (.tuple #[.bool b, .nilIface]) ∧ Below W.heap.size W w' := by
  refine (even_any a n c t W R hS hT hm).mono ?_
  rintro e w' ⟨ev, rfl, he, hb2⟩
  have h0 := tabD_of ht
  rw [h0] at he
  obtain rfl : ev = .nilIface := he
  rw [evenO_ok h0, hb]
  exact ⟨rfl, hb2⟩
theorem own_sl {w : World} {B : Nat} {a : Option Addr} {n c : Nat} {l : List Int} (h : OwI w B a n c l) (hn : n ≤ 100000) : SlI w a n c l := h.sl (by omega)
theorem mul64 {a b K : Nat} (h : a * b = K) (ha : a ≤ 66) (hb : b ≤ 66) : K ≤ 100000 := by
  have : a * b ≤ 66 * 66 := Nat.mul_le_mul ha hb
  omega
set_option maxHeartbeats 16000000 in
theorem plane_pieces (w h : Int) (a aT : Option Addr) (n c nT cT : Nat) (l t : List Int) (x y tn : Int) (W : World) (R : Nat → Addr) (hS : Sent W R) (hR : SlI W a n c l) (hx : I64 l) (hT : RK .i64 W aT nT t) (hmT : nT ≤ maxLen) :
    Calls Tryd.prog 5 #[.slice aT nT cT, patV w h a n c, .int .i64 x, .int .i64 y, .int .i64 tn] W (TrueBelow W) := by
  have hnm := hR.nm
  have HI6 := Lib.hid hx
  have T0 := Tk.nil W
  have T1 := T0.add (fun wv => Below W.heap.size W wv) (bnil W)
  clear T0
  have T2 := T1.add (fun wv => Sent wv R) (hS)
  clear T1
  have T3 := T2.add (fun wv => SlI wv a n c l) (hR)
  clear T2
  have T4 := T3.add (fun wv => RK .i64 wv aT nT t) (hT)
  clear T3
  clear hS hR hx hT
  obtain ⟨Wb, hWb⟩ : ∃ Wb, W.alloc (.cells #[.int .i64 w, .int .i64 h, .slice a n c] 24) = Wb := ⟨_, rfl⟩
  have hbWb : Below W.heap.size W Wb := by rw [← hWb]; exact balloc (bnil W) _
  have T5 := T4.up hbWb
  clear T4
  have T6 := T5.add (fun wv => wv.cell? ⟨W.heap.size, 0, none⟩ = some (.int .i64 w) ∧ wv.cell? ⟨W.heap.size, 1, none⟩ = some (.int .i64 h) ∧ wv.cell? ⟨W.heap.size, 2, none⟩ = some (.slice a n c)) (by rw [← hWb]; exact ⟨cnw (by simp) rfl, cnw (by simp) rfl, cnw (by simp) rfl⟩)
  clear T5
  have HWb := Lib.hid hWb
  clear hWb hbWb
  go_enter Tryd.func5, Tryd.ntmps5
  go_wp2_with fail
  rw [HWb.out]
  refine (awake22 Wb R T6.out.1.1.1.2).mono ?_; rintro e w1 ⟨rfl, hbw1⟩
  have T7 := T6.up hbw1
  clear T6
  by_cases hsd : stepD t w h l ≠ none
  · skip
    have v_p0 : w1.cell? ⟨W.heap.size, 0, none⟩ = some (.int .i64 w) := T7.out.2.1
    have v_p1 : w1.cell? ⟨W.heap.size, 1, none⟩ = some (.int .i64 h) := T7.out.2.2.1
    have v_p2 : w1.cell? ⟨W.heap.size, 2, none⟩ = some (.slice a n c) := T7.out.2.2.2
    go_wp2_with fail
    refine (plstep_erZ w h a aT n c nT cT l t w1 R T7.out.1.1.1.2 T7.out.1.1.2 HI6.out T7.out.1.2 hmT hsd).mono ?_; rintro e w2 ⟨a3, c3, t3, p3, rfl, hbw2⟩
    clear v_p0 v_p1 v_p2
    have T8 := T7.up hbw2
    clear T7
    obtain ⟨wa, hwa⟩ : ∃ wa, w2.alloc (.cells #[.int .i64 0, .int .i64 0, .slice a3 0 c3] 24) = wa := ⟨_, rfl⟩
    have hbwa : Below w2.heap.size w2 wa := by rw [← hwa]; exact balloc (bnil w2) _
    have T9 := T8.up hbwa
    clear T8
    have T10 := T9.add (fun wv => wv.cell? ⟨w2.heap.size, 0, none⟩ = some (.int .i64 0) ∧ wv.cell? ⟨w2.heap.size, 1, none⟩ = some (.int .i64 0) ∧ wv.cell? ⟨w2.heap.size, 2, none⟩ = some (.slice a3 0 c3)) (by rw [← hwa]; exact ⟨cnw (by simp) rfl, cnw (by simp) rfl, cnw (by simp) rfl⟩)
    clear T9
    have Hwa := Lib.hid hwa
    clear hwa hbwa
    have v_p0 : (w2.alloc (.cells #[.int .i64 0, .int .i64 0, .slice a3 0 c3] 24)).cell? ⟨W.heap.size, 0, none⟩ = some (.int .i64 w) := by rw [Hwa.out]; exact T10.out.1.2.1
    have v_p1 : (w2.alloc (.cells #[.int .i64 0, .int .i64 0, .slice a3 0 c3] 24)).cell? ⟨W.heap.size, 1, none⟩ = some (.int .i64 h) := by rw [Hwa.out]; exact T10.out.1.2.2.1
    have v_p2 : (w2.alloc (.cells #[.int .i64 0, .int .i64 0, .slice a3 0 c3] 24)).cell? ⟨W.heap.size, 2, none⟩ = some (.slice a n c) := by rw [Hwa.out]; exact T10.out.1.2.2.2
    have v_a0 : (w2.alloc (.cells #[.int .i64 0, .int .i64 0, .slice a3 0 c3] 24)).cell? ⟨w2.heap.size, 0, none⟩ = some (.int .i64 0) := by rw [Hwa.out]; exact T10.out.2.1
    have v_a1 : (w2.alloc (.cells #[.int .i64 0, .int .i64 0, .slice a3 0 c3] 24)).cell? ⟨w2.heap.size, 1, none⟩ = some (.int .i64 0) := by rw [Hwa.out]; exact T10.out.2.2.1
    have v_a2 : (w2.alloc (.cells #[.int .i64 0, .int .i64 0, .slice a3 0 c3] 24)).cell? ⟨w2.heap.size, 2, none⟩ = some (.slice a3 0 c3) := by rw [Hwa.out]; exact T10.out.2.2.2
    go_wp2
    go_ret
    rw [Hwa.out]
    exact ⟨rfl, T10.out.1.1.1.1.1.2⟩
  obtain ⟨w, h, rfl, rfl, hp, ht, hw3, hh3⟩ := stepD_none (Decidable.byContradiction hsd)
  obtain ⟨WN, hWN⟩ : ∃ WN, w - 2 = WN := ⟨_, rfl⟩
  obtain ⟨HN, hHN⟩ : ∃ HN, h - 2 = HN := ⟨_, rfl⟩
  obtain ⟨K, hK⟩ : ∃ K, WN * HN = K := ⟨_, rfl⟩
  obtain ⟨LL, hLL⟩ : ∃ LL, stepL t w h l = LL := ⟨_, rfl⟩
  have hw2 := hp.w2
  have hh2 := hp.h2
  have hK4 : K ≤ 4096 := by rw [← hK]; exact Nat.mul_le_mul (show WN ≤ 64 by omega) (show HN ≤ 64 by omega)
  have hp2 : IsPatch WN HN LL := by rw [← hWN, ← hHN, ← hLL]; exact stepL_patch hp ht.len ht.sym hw3 hh3
  have HPP := Lib.hid hp
  have HP2 := Lib.hid hp2
  have HTT := Lib.hid ht
  have HEQ := Lib.hid (And.intro hWN (And.intro hHN (And.intro hK hLL)))
  have HW2 : Hid (WN + 2 = w ∧ HN + 2 = h) := ⟨by omega, by omega⟩
  clear hsd hp ht hp2 hWN hHN hK hLL
  obtain rfl : nT = 512 := (T7.out.1.2).len.trans HTT.out.len
  have v_p0 : w1.cell? ⟨W.heap.size, 0, none⟩ = some (.int .i64 w) := T7.out.2.1
  have v_p1 : w1.cell? ⟨W.heap.size, 1, none⟩ = some (.int .i64 h) := T7.out.2.2.1
  have v_p2 : w1.cell? ⟨W.heap.size, 2, none⟩ = some (.slice a n c) := T7.out.2.2.2
  go_wp2_with fail
  refine (plstep_okQP w h WN HN K a aT n c 512 cT l t LL w1 R T7.out.1.1.1.2 T7.out.1.1.2 T7.out.1.2 (by unfold maxLen; omega) HTT.out HPP.out hw3 hh3 HEQ.out.1 HEQ.out.2.1 HEQ.out.2.2.1 HEQ.out.2.2.2).mono ?_; rintro e w3 ⟨a3, c3, rfl, ho3, hbw3⟩
  clear v_p0 v_p1 v_p2
  have T8 := T7.up hbw3
  clear T7
  have T9 := T8.add (fun wv => RK .i64 wv a3 K LL) (ho3.rk)
  clear T8
  clear ho3
  obtain ⟨wa, hwa⟩ : ∃ wa, w3.alloc (.cells #[.int .i64 WN, .int .i64 HN, .slice a3 K c3] 24) = wa := ⟨_, rfl⟩
  have hbwa : Below w3.heap.size w3 wa := by rw [← hwa]; exact balloc (bnil w3) _
  have T10 := T9.up hbwa
  clear T9
  have T11 := T10.add (fun wv => wv.cell? ⟨w3.heap.size, 0, none⟩ = some (.int .i64 WN) ∧ wv.cell? ⟨w3.heap.size, 1, none⟩ = some (.int .i64 HN) ∧ wv.cell? ⟨w3.heap.size, 2, none⟩ = some (.slice a3 K c3)) (by rw [← hwa]; exact ⟨cnw (by simp) rfl, cnw (by simp) rfl, cnw (by simp) rfl⟩)
  clear T10
  have Hwa := Lib.hid hwa
  clear hwa hbwa
  have hn := (T11.out.1.1.1.1.2).rk.len
  have hwh : w * h = n := by rw [hn]; exact HPP.out.len.symm
  have hn4 : n ≤ 4096 := by rw [← hwh]; exact Nat.mul_le_mul hw2 hh2
  have hwhI := mulIP hwh
  have hnw : IntKind.i64.wrap (n : Int) = (n : Int) := wr1P (by omega) (by omega)
  clear hn
  by_cases hbig : 400 < n
  · skip
    have hbI : (400 : Int) < (n : Int) := by omega
    have v_p0 : (w3.alloc (.cells #[.int .i64 WN, .int .i64 HN, .slice a3 K c3] 24)).cell? ⟨W.heap.size, 0, none⟩ = some (.int .i64 w) := by rw [Hwa.out]; exact T11.out.1.1.2.1
    have v_p1 : (w3.alloc (.cells #[.int .i64 WN, .int .i64 HN, .slice a3 K c3] 24)).cell? ⟨W.heap.size, 1, none⟩ = some (.int .i64 h) := by rw [Hwa.out]; exact T11.out.1.1.2.2.1
    have v_p2 : (w3.alloc (.cells #[.int .i64 WN, .int .i64 HN, .slice a3 K c3] 24)).cell? ⟨W.heap.size, 2, none⟩ = some (.slice a n c) := by rw [Hwa.out]; exact T11.out.1.1.2.2.2
    have v_a0 : (w3.alloc (.cells #[.int .i64 WN, .int .i64 HN, .slice a3 K c3] 24)).cell? ⟨w3.heap.size, 0, none⟩ = some (.int .i64 WN) := by rw [Hwa.out]; exact T11.out.2.1
    have v_a1 : (w3.alloc (.cells #[.int .i64 WN, .int .i64 HN, .slice a3 K c3] 24)).cell? ⟨w3.heap.size, 1, none⟩ = some (.int .i64 HN) := by rw [Hwa.out]; exact T11.out.2.2.1
    have v_a2 : (w3.alloc (.cells #[.int .i64 WN, .int .i64 HN, .slice a3 K c3] 24)).cell? ⟨w3.heap.size, 2, none⟩ = some (.slice a3 K c3) := by rw [Hwa.out]; exact T11.out.2.2.2
    go_wp2
    go_ret
    rw [Hwa.out]
    exact ⟨rfl, T11.out.1.1.1.1.1.1.2⟩
  have hbI : ¬ (400 : Int) < (n : Int) := by omega
  have hbB : decide ((400 : Int) < (n : Int)) = false := decide_eq_false hbI
  have hwn3 : 1 ≤ WN := by have := HW2.out; omega
  have hhn3 : 1 ≤ HN := by have := HW2.out; omega
  have hw2I : (w : Int) - 2 = (WN : Int) := by have := HW2.out; omega
  have hh2I : (h : Int) - 2 = (HN : Int) := by have := HW2.out; omega
  have hwn4 : WN ≤ 64 := by have := HW2.out; omega
  have hhn4 : HN ≤ 64 := by have := HW2.out; omega
  have hWw : IntKind.i64.wrap (WN : Int) = (WN : Int) := wr1P (by omega) (by omega)
  have hHw : IntKind.i64.wrap (HN : Int) = (HN : Int) := wr1P (by omega) (by omega)
  obtain ⟨rx, X, mx1, mx2, mx3, mx4, mx5, hX⟩ := modNP x WN (by omega)
  obtain ⟨ry, Y, my1, my2, my3, my4, my5, hY⟩ := modNP y HN (by omega)
  have z1 : ((WN : Int) == 0) = false := by rw [beq_eq_false_iff_ne]; omega
  have z2 : ((HN : Int) == 0) = false := by rw [beq_eq_false_iff_ne]; omega
  have z3 : ¬ WN = 0 := by omega
  have z4 : ¬ HN = 0 := by omega
  have ww1 : IntKind.i64.wrap rx = rx := wr1P (by omega) (by omega)
  have ww2 : IntKind.i64.wrap (rx + (WN : Int)) = rx + (WN : Int) := wr1P (by omega) (by omega)
  have ww3 : IntKind.i64.wrap (X : Int) = (X : Int) := wr1P (by omega) (by omega)
  have ww4 : IntKind.i64.wrap ry = ry := wr1P (by omega) (by omega)
  have ww5 : IntKind.i64.wrap (ry + (HN : Int)) = ry + (HN : Int) := wr1P (by omega) (by omega)
  have ww6 : IntKind.i64.wrap (Y : Int) = (Y : Int) := wr1P (by omega) (by omega)
  clear hwh
  have v_p0 : (w3.alloc (.cells #[.int .i64 WN, .int .i64 HN, .slice a3 K c3] 24)).cell? ⟨W.heap.size, 0, none⟩ = some (.int .i64 w) := by rw [Hwa.out]; exact T11.out.1.1.2.1
  have v_p1 : (w3.alloc (.cells #[.int .i64 WN, .int .i64 HN, .slice a3 K c3] 24)).cell? ⟨W.heap.size, 1, none⟩ = some (.int .i64 h) := by rw [Hwa.out]; exact T11.out.1.1.2.2.1
  have v_p2 : (w3.alloc (.cells #[.int .i64 WN, .int .i64 HN, .slice a3 K c3] 24)).cell? ⟨W.heap.size, 2, none⟩ = some (.slice a n c) := by rw [Hwa.out]; exact T11.out.1.1.2.2.2
  have v_a0 : (w3.alloc (.cells #[.int .i64 WN, .int .i64 HN, .slice a3 K c3] 24)).cell? ⟨w3.heap.size, 0, none⟩ = some (.int .i64 WN) := by rw [Hwa.out]; exact T11.out.2.1
  have v_a1 : (w3.alloc (.cells #[.int .i64 WN, .int .i64 HN, .slice a3 K c3] 24)).cell? ⟨w3.heap.size, 1, none⟩ = some (.int .i64 HN) := by rw [Hwa.out]; exact T11.out.2.2.1
  have v_a2 : (w3.alloc (.cells #[.int .i64 WN, .int .i64 HN, .slice a3 K c3] 24)).cell? ⟨w3.heap.size, 2, none⟩ = some (.slice a3 K c3) := by rw [Hwa.out]; exact T11.out.2.2.2
  go_upto_region 8 with (fail)
  rw [Hwa.out]
  clear v_p0 v_p1 v_p2 v_a0 v_a1 v_a2
  have v_a0 : wa.cell? ⟨w3.heap.size, 0, none⟩ = some (.int .i64 WN) := T11.out.2.1
  go_quiet (fail)
  go_wp2_with fail
  clear v_a0
  obtain ⟨wc, hwc⟩ : ∃ x, wa.drewN nq = x := ⟨_, rfl⟩
  have hbwc : Below wa.heap.size wa wc := by rw [← hwc]; exact bdrewN (bnil wa) nq
  rw [hwc]
  clear hwc
  have T12 := T11.up hbwc
  clear T11
  have v_a1 : wc.cell? ⟨w3.heap.size, 1, none⟩ = some (.int .i64 HN) := T12.out.2.2.1
  go_quiet (fail)
  go_wp2_with fail
  clear v_a1
  obtain ⟨wd, hwd⟩ : ∃ x, wc.drewN nq = x := ⟨_, rfl⟩
  have hbwd : Below wc.heap.size wc wd := by rw [← hwd]; exact bdrewN (bnil wc) nq
  rw [hwd]
  clear hwd
  have T13 := T12.up hbwd
  clear T12
  clear mx1 mx4 mx5 my1 my4 my5 ww1 ww2 ww4 ww5 z1 z2 z3 z4 hw2I hh2I mx2 mx3 my2 my3 hwhI hnw hbI hbB
  obtain ⟨XW, hXW⟩ : ∃ XW, WN - X = XW := ⟨_, rfl⟩
  obtain ⟨HY, hHY⟩ : ∃ HY, HN - Y = HY := ⟨_, rfl⟩
  have hXI : (WN : Int) - (X : Int) = (XW : Int) := by omega
  have hYI : (HN : Int) - (Y : Int) = (HY : Int) := by omega
  have hx4 : XW ≤ 64 := by omega
  have hy4 : HY ≤ 64 := by omega
  have hy1 : 1 ≤ HY := by omega
  have hXw : IntKind.i64.wrap (XW : Int) = (XW : Int) := wr1P (by omega) (by omega)
  have hYw : IntKind.i64.wrap (HY : Int) = (HY : Int) := wr1P (by omega) (by omega)
  have HXY : Hid (X + XW = WN ∧ Y + HY = HN) := ⟨by omega, by omega⟩
  clear hXW hHY
  go_loopw [13] (fun ix wr => ∃ q : Nat, 1 ≤ q ∧ q ≤ 4 ∧ ix = .int .i64 (q : Nat) ∧ Below wd.heap.size wd wr) (fun ix _ => 4 - (intOf ix).toNat)
  case atStart => exact ⟨1, by omega, by omega, rfl, bnil wd⟩
  case round =>
    obtain ⟨q, hq1, hq4, rfl, hbx⟩ := hrel
    have HBX := Lib.hid hbx
    have T14 := T13.up hbx
    clear T13
    generalize wr = wx at *
    clear hbx
    by_cases hqx : q ≤ XW
    · skip
      have i1 : (q : Int) ≤ (XW : Int) := by omega
      by_cases hq3 : q ≤ 3
      · skip
        have i2 : (q : Int) ≤ 3 := by omega
        obtain ⟨P2, hP2⟩ : ∃ x, q + 2 = x := ⟨_, rfl⟩
        obtain ⟨H2, hH2⟩ : ∃ x, HY + 2 = x := ⟨_, rfl⟩
        obtain ⟨K1, hK1⟩ : ∃ x, P2 * H2 = x := ⟨_, rfl⟩
        obtain ⟨K2, hK2⟩ : ∃ x, q * HY = x := ⟨_, rfl⟩
        obtain ⟨L1, hL1⟩ : ∃ x, cutL w l X Y P2 H2 = x := ⟨_, rfl⟩
        obtain ⟨L2, hL2⟩ : ∃ x, cutL WN LL X Y q HY = x := ⟨_, rfl⟩
        have hk1 := mul64 hK1 (by omega) (by omega)
        have hk2 := mul64 hK2 (by omega) (by omega)
        have c1 : X + P2 ≤ w := by have := HW2.out; have := HXY.out; omega
        have c2 : Y + H2 ≤ h := by have := HW2.out; have := HXY.out; omega
        have c3' : X + q ≤ WN := by have := HXY.out; omega
        have c4 : Y + HY ≤ HN := by have := HXY.out; omega
        have hp1 : IsPatch P2 H2 L1 := by rw [← hL1]; exact cut_patch HPP.out (by omega) (by omega) c1 c2
        have hst : stepL t P2 H2 L1 = L2 := by
          rw [← hL1, ← hL2, ← hP2, ← hH2, step_cut (h := h) (by omega) (by omega) (by omega), HEQ.out.1, HEQ.out.2.2.2]
        have hl2 : L2.length ≤ maxLen := by
          have : L2.length = K2 := by rw [← hL2, ← hK2]; exact madeL_len _ _ _
          unfold maxLen
          omega
        have q1 : (q : Int) + 2 = (P2 : Int) := by omega
        have q2 : (HY : Int) + 2 = (H2 : Int) := by omega
        have q3 : P2 - 2 = q := by omega
        have q4 : H2 - 2 = HY := by omega
        have q5 : 3 ≤ P2 := by omega
        have q6 : 3 ≤ H2 := by omega
        have q7 : 1 ≤ P2 := by omega
        have q8 : 1 ≤ H2 := by omega
        have q9 : IntKind.i64.wrap (P2 : Int) = (P2 : Int) := wr1P (by omega) (by omega)
        have q10 : IntKind.i64.wrap (H2 : Int) = (H2 : Int) := wr1P (by omega) (by omega)
        have HC1 := Lib.hid (And.intro hK1 (And.intro hL1 (And.intro c1 (And.intro c2 hp1))))
        have HC2 := Lib.hid (And.intro hK2 (And.intro hL2 (And.intro c3' (And.intro c4 hst))))
        have HC3 := Lib.hid (And.intro q3 q4)
        clear hP2 hH2 hK1 hK2 hL1 hL2 c1 c2 c3' c4 hp1 hst q3 q4
        have v_a0 : wx.cell? ⟨w3.heap.size, 0, none⟩ = some (.int .i64 WN) := T14.out.2.1
        have v_a1 : wx.cell? ⟨w3.heap.size, 1, none⟩ = some (.int .i64 HN) := T14.out.2.2.1
        have v_p0 : wx.cell? ⟨W.heap.size, 0, none⟩ = some (.int .i64 w) := T14.out.1.1.2.1
        have v_p1 : wx.cell? ⟨W.heap.size, 1, none⟩ = some (.int .i64 h) := T14.out.1.1.2.2.1
        have v_p2 : wx.cell? ⟨W.heap.size, 2, none⟩ = some (.slice a n c) := T14.out.1.1.2.2.2
        have v_a2 : wx.cell? ⟨w3.heap.size, 2, none⟩ = some (.slice a3 K c3) := T14.out.2.2.2
        go_wp2_with fail
        refine (cut_okI w h X Y P2 H2 K1 _ _ a n c l L1 wx R T14.out.1.1.1.1.1.2 (T14.out.1.1.1.1.2).rk hnm HPP.out q7 q8 HC1.out.2.2.1 HC1.out.2.2.2.1 rfl rfl HC1.out.1 HC1.out.2.1).mono ?_; rintro e y2 ⟨g5, c5, rfl, ho5, hby2⟩
        clear v_a0 v_a1 v_p0 v_p1 v_p2 v_a2
        have T15 := T14.up hby2
        clear T14
        have T16 := T15.add (fun wv => SlI wv (some ⟨g5, 0, none⟩) K1 c5 L1) (own_sl ho5 hk1)
        clear T15
        clear ho5
        obtain ⟨y3, hy3⟩ : ∃ y3, y2.alloc (.cells #[.int .i64 P2, .int .i64 H2, .slice (some ⟨g5, 0, none⟩) K1 c5] 24) = y3 := ⟨_, rfl⟩
        have hby3 : Below y2.heap.size y2 y3 := by rw [← hy3]; exact balloc (bnil y2) _
        have T17 := T16.up hby3
        clear T16
        have T18 := T17.add (fun wv => wv.cell? ⟨y2.heap.size, 0, none⟩ = some (.int .i64 P2) ∧ wv.cell? ⟨y2.heap.size, 1, none⟩ = some (.int .i64 H2) ∧ wv.cell? ⟨y2.heap.size, 2, none⟩ = some (.slice (some ⟨g5, 0, none⟩) K1 c5)) (by rw [← hy3]; exact ⟨cnw (by simp) rfl, cnw (by simp) rfl, cnw (by simp) rfl⟩)
        clear T17
        have Hy3 := Lib.hid hy3
        clear hy3 hby3
        have v_tq0 : (y2.alloc (.cells #[.int .i64 P2, .int .i64 H2, .slice (some ⟨g5, 0, none⟩) K1 c5] 24)).cell? ⟨y2.heap.size, 0, none⟩ = some (.int .i64 P2) := by rw [Hy3.out]; exact T18.out.2.1
        have v_tq1 : (y2.alloc (.cells #[.int .i64 P2, .int .i64 H2, .slice (some ⟨g5, 0, none⟩) K1 c5] 24)).cell? ⟨y2.heap.size, 1, none⟩ = some (.int .i64 H2) := by rw [Hy3.out]; exact T18.out.2.2.1
        have v_tq2 : (y2.alloc (.cells #[.int .i64 P2, .int .i64 H2, .slice (some ⟨g5, 0, none⟩) K1 c5] 24)).cell? ⟨y2.heap.size, 2, none⟩ = some (.slice (some ⟨g5, 0, none⟩) K1 c5) := by rw [Hy3.out]; exact T18.out.2.2.2
        go_wp2_with fail
        rw [Hy3.out]
        refine (plstep_okQP P2 H2 q HY K2 (some ⟨g5, 0, none⟩) aT K1 c5 512 cT L1 t L2 y3 R T18.out.1.1.1.1.1.1.1.2 T18.out.1.2 T18.out.1.1.1.1.1.2 (by unfold maxLen; omega) HTT.out HC1.out.2.2.2.2 q5 q6 HC3.out.1 HC3.out.2 HC2.out.1 HC2.out.2.2.2.2).mono ?_; rintro e y4 ⟨a7, c7, rfl, ho7, hby4⟩
        clear v_tq0 v_tq1 v_tq2
        have T19 := T18.up hby4
        clear T18
        have T20 := T19.add (fun wv => RK .i64 wv a7 K2 L2) (ho7.rk)
        clear T19
        clear ho7
        obtain ⟨y5, hy5⟩ : ∃ y5, y4.alloc (.cells #[.int .i64 q, .int .i64 HY, .slice a7 K2 c7] 24) = y5 := ⟨_, rfl⟩
        have hby5 : Below y4.heap.size y4 y5 := by rw [← hy5]; exact balloc (bnil y4) _
        have T21 := T20.up hby5
        clear T20
        have T22 := T21.add (fun wv => wv.cell? ⟨y4.heap.size, 0, none⟩ = some (.int .i64 q) ∧ wv.cell? ⟨y4.heap.size, 1, none⟩ = some (.int .i64 HY) ∧ wv.cell? ⟨y4.heap.size, 2, none⟩ = some (.slice a7 K2 c7)) (by rw [← hy5]; exact ⟨cnw (by simp) rfl, cnw (by simp) rfl, cnw (by simp) rfl⟩)
        clear T21
        have Hy5 := Lib.hid hy5
        clear hy5 hby5
        have v_a0 : (y4.alloc (.cells #[.int .i64 q, .int .i64 HY, .slice a7 K2 c7] 24)).cell? ⟨w3.heap.size, 0, none⟩ = some (.int .i64 WN) := by rw [Hy5.out]; exact T22.out.1.1.1.1.2.1
        have v_a1 : (y4.alloc (.cells #[.int .i64 q, .int .i64 HY, .slice a7 K2 c7] 24)).cell? ⟨w3.heap.size, 1, none⟩ = some (.int .i64 HN) := by rw [Hy5.out]; exact T22.out.1.1.1.1.2.2.1
        have v_a2 : (y4.alloc (.cells #[.int .i64 q, .int .i64 HY, .slice a7 K2 c7] 24)).cell? ⟨w3.heap.size, 2, none⟩ = some (.slice a3 K c3) := by rw [Hy5.out]; exact T22.out.1.1.1.1.2.2.2
        go_wp2_with fail
        rw [Hy5.out]
        refine (cut_okI WN HN X Y q HY K2 _ _ a3 K c3 LL L2 y5 R T22.out.1.1.1.1.1.1.1.1.1.2 T22.out.1.1.1.1.1.2 (by unfold maxLen; omega) HP2.out hq1 hy1 HC2.out.2.2.1 HC2.out.2.2.2.1 rfl rfl HC2.out.1 HC2.out.2.1).mono ?_; rintro e y6 ⟨g8, c8, rfl, ho8, hby6⟩
        clear v_a0 v_a1 v_a2
        have T23 := T22.up hby6
        clear T22
        have T24 := T23.add (fun wv => RK .i64 wv (some ⟨g8, 0, none⟩) K2 L2) (ho8.rk)
        clear T23
        clear ho8
        obtain ⟨y7, hy7⟩ : ∃ y7, y6.alloc (.cells #[.int .i64 q, .int .i64 HY, .slice (some ⟨g8, 0, none⟩) K2 c8] 24) = y7 := ⟨_, rfl⟩
        have hby7 : Below y6.heap.size y6 y7 := by rw [← hy7]; exact balloc (bnil y6) _
        have T25 := T24.up hby7
        clear T24
        have T26 := T25.add (fun wv => wv.cell? ⟨y6.heap.size, 0, none⟩ = some (.int .i64 q) ∧ wv.cell? ⟨y6.heap.size, 1, none⟩ = some (.int .i64 HY) ∧ wv.cell? ⟨y6.heap.size, 2, none⟩ = some (.slice (some ⟨g8, 0, none⟩) K2 c8)) (by rw [← hy7]; exact ⟨cnw (by simp) rfl, cnw (by simp) rfl, cnw (by simp) rfl⟩)
        clear T25
        have Hy7 := Lib.hid hy7
        clear hy7 hby7
        have T27 := T26.add (fun wv => Below wd.heap.size wd wv) (by rw [← Hy7.out]; exact balloc (bstep (by have hb5 : Below y4.heap.size y4 y5 := (by rw [← Hy5.out]; exact balloc (bnil y4) _); have hb3 : Below y2.heap.size y2 y3 := (by rw [← Hy3.out]; exact balloc (bnil y2) _); exact bstep (bstep (bstep (bstep HBX.out hby2) hb3) hby4) hb5) hby6) _)
        clear T26
        have v_tb0 : (y6.alloc (.cells #[.int .i64 q, .int .i64 HY, .slice (some ⟨g8, 0, none⟩) K2 c8] 24)).cell? ⟨y4.heap.size, 0, none⟩ = some (.int .i64 q) := by rw [Hy7.out]; exact T27.out.1.1.1.2.1
        have v_tb1 : (y6.alloc (.cells #[.int .i64 q, .int .i64 HY, .slice (some ⟨g8, 0, none⟩) K2 c8] 24)).cell? ⟨y4.heap.size, 1, none⟩ = some (.int .i64 HY) := by rw [Hy7.out]; exact T27.out.1.1.1.2.2.1
        have v_tb2 : (y6.alloc (.cells #[.int .i64 q, .int .i64 HY, .slice (some ⟨g8, 0, none⟩) K2 c8] 24)).cell? ⟨y4.heap.size, 2, none⟩ = some (.slice a7 K2 c7) := by rw [Hy7.out]; exact T27.out.1.1.1.2.2.2
        have v_tc0 : (y6.alloc (.cells #[.int .i64 q, .int .i64 HY, .slice (some ⟨g8, 0, none⟩) K2 c8] 24)).cell? ⟨y6.heap.size, 0, none⟩ = some (.int .i64 q) := by rw [Hy7.out]; exact T27.out.1.2.1
        have v_tc1 : (y6.alloc (.cells #[.int .i64 q, .int .i64 HY, .slice (some ⟨g8, 0, none⟩) K2 c8] 24)).cell? ⟨y6.heap.size, 1, none⟩ = some (.int .i64 HY) := by rw [Hy7.out]; exact T27.out.1.2.2.1
        have v_tc2 : (y6.alloc (.cells #[.int .i64 q, .int .i64 HY, .slice (some ⟨g8, 0, none⟩) K2 c8] 24)).cell? ⟨y6.heap.size, 2, none⟩ = some (.slice (some ⟨g8, 0, none⟩) K2 c8) := by rw [Hy7.out]; exact T27.out.1.2.2.2
        go_wp2_with fail
        rw [Hy7.out]
        refine (patches_eq q HY a7 (some ⟨g8, 0, none⟩) K2 K2 c7 c8 L2 y7 T27.out.1.1.1.1.2 T27.out.1.1.2 hl2).mono ?_; rintro e y8 ⟨rfl, hby8⟩
        clear v_tb0 v_tb1 v_tb2 v_tc0 v_tc1 v_tc2
        have T28 := T27.up hby8
        clear T27
        have HBD := Lib.hid (T28.out.2)
        clear q1 q2 q9 q10
        go_wp2
        go_roundw
        case rel => exact ⟨q + 1, by omega, by omega, by go_num, HBD.out⟩
        case measure => simp [intOf]; omega
      · skip
        have i2 : ¬ (q : Int) ≤ 3 := by omega
        have v_a0 : wx.cell? ⟨w3.heap.size, 0, none⟩ = some (.int .i64 WN) := T14.out.2.1
        cases hev : evB t with
        | false =>
          have HEV := Lib.hid hev
          clear hev
          go_wp2_with fail
          refine (even_okQ aT 512 cT t false wx R T14.out.1.1.1.1.1.2 T14.out.1.1.1.2 (by unfold maxLen; omega) HTT.out HEV.out).mono ?_; rintro e y1 ⟨rfl, hby1⟩
          clear v_a0
          have T15 := T14.up hby1
          clear T14
          go_wp2
          go_ret
          exact ⟨rfl, T15.out.1.1.1.1.1.1.2⟩
        | true =>
          obtain ⟨TT, hTT⟩ : ∃ TT : Nat, tn % 8 = (TT : Int) := ⟨(tn % 8).toNat, by omega⟩
          have hT8 : TT < 8 := by omega
          obtain ⟨tw, htw⟩ : ∃ x, turnW w h TT = x := ⟨_, rfl⟩
          obtain ⟨th, hth⟩ : ∃ x, turnW h w TT = x := ⟨_, rfl⟩
          obtain ⟨aw, haw⟩ : ∃ x, turnW WN HN TT = x := ⟨_, rfl⟩
          obtain ⟨ah, hah⟩ : ∃ x, turnW HN WN TT = x := ⟨_, rfl⟩
          obtain ⟨K5, hK5⟩ : ∃ x, tw * th = x := ⟨_, rfl⟩
          obtain ⟨K6, hK6⟩ : ∃ x, aw * ah = x := ⟨_, rfl⟩
          obtain ⟨L5, hL5⟩ : ∃ x, turnL w h l TT = x := ⟨_, rfl⟩
          obtain ⟨L6, hL6⟩ : ∃ x, turnL WN HN LL TT = x := ⟨_, rfl⟩
          have q1 : tw - 2 = aw := by rw [← htw, ← haw]; have := HW2.out; unfold turnW; split <;> omega
          have q2 : th - 2 = ah := by rw [← hth, ← hah]; have := HW2.out; unfold turnW; split <;> omega
          have q3 : 3 ≤ tw := by rw [← htw]; unfold turnW; split <;> omega
          have q4 : 3 ≤ th := by rw [← hth]; unfold turnW; split <;> omega
          have q5 : tw ≤ 64 := by rw [← htw]; unfold turnW; split <;> omega
          have q6 : th ≤ 64 := by rw [← hth]; unfold turnW; split <;> omega
          have hp5 : IsPatch tw th L5 := by rw [← htw, ← hth, ← hL5]; exact turn_patch HPP.out
          have hst : stepL t tw th L5 = L6 := by
            rw [← htw, ← hth, ← hL5, step_turn HPP.out HTT.out.len HTT.out.sym hw3 hh3 hev hT8, ← hL6, HEQ.out.1, HEQ.out.2.1, HEQ.out.2.2.2]
          have hk5 := mul64 hK5 (by omega) (by omega)
          have hk6 := mul64 hK6 (by omega) (by omega)
          have hl6 : L6.length ≤ maxLen := by
            have : L6.length = K6 := by rw [← hL6, ← hK6, ← haw, ← hah]; exact madeL_len _ _ _
            unfold maxLen
            omega
          have HEV := Lib.hid hev
          have HTN := Lib.hid (And.intro hTT (And.intro htw (And.intro hth (And.intro hK5 hL5))))
          have HTA := Lib.hid (And.intro haw (And.intro hah (And.intro hK6 hL6)))
          have HST := Lib.hid (And.intro hst (And.intro hp5 (And.intro q1 q2)))
          clear hev hTT htw hth hK5 hL5 haw hah hK6 hL6 hst hp5 q1 q2 hT8
          go_wp2_with fail
          refine (even_okQ aT 512 cT t true wx R T14.out.1.1.1.1.1.2 T14.out.1.1.1.2 (by unfold maxLen; omega) HTT.out HEV.out).mono ?_; rintro e y1 ⟨rfl, hby1⟩
          clear v_a0
          have T15 := T14.up hby1
          clear T14
          have v_p0 : y1.cell? ⟨W.heap.size, 0, none⟩ = some (.int .i64 w) := T15.out.1.1.2.1
          have v_p1 : y1.cell? ⟨W.heap.size, 1, none⟩ = some (.int .i64 h) := T15.out.1.1.2.2.1
          have v_p2 : y1.cell? ⟨W.heap.size, 2, none⟩ = some (.slice a n c) := T15.out.1.1.2.2.2
          go_wp2_with fail
          refine (turn_okI w h TT tw th K5 tn a n c l L5 y1 R T15.out.1.1.1.1.1.2 (T15.out.1.1.1.1.2).rk hnm HPP.out HTN.out.1 HTN.out.2.1 HTN.out.2.2.1 HTN.out.2.2.2.1 HTN.out.2.2.2.2).mono ?_; rintro e y2 ⟨g5, c5, rfl, ho5, hby2⟩
          clear v_p0 v_p1 v_p2
          have T16 := T15.up hby2
          clear T15
          have T17 := T16.add (fun wv => SlI wv (some ⟨g5, 0, none⟩) K5 c5 L5) (own_sl ho5 hk5)
          clear T16
          clear ho5
          obtain ⟨y3, hy3⟩ : ∃ y3, y2.alloc (.cells #[.int .i64 tw, .int .i64 th, .slice (some ⟨g5, 0, none⟩) K5 c5] 24) = y3 := ⟨_, rfl⟩
          have hby3 : Below y2.heap.size y2 y3 := by rw [← hy3]; exact balloc (bnil y2) _
          have T18 := T17.up hby3
          clear T17
          have T19 := T18.add (fun wv => wv.cell? ⟨y2.heap.size, 0, none⟩ = some (.int .i64 tw) ∧ wv.cell? ⟨y2.heap.size, 1, none⟩ = some (.int .i64 th) ∧ wv.cell? ⟨y2.heap.size, 2, none⟩ = some (.slice (some ⟨g5, 0, none⟩) K5 c5)) (by rw [← hy3]; exact ⟨cnw (by simp) rfl, cnw (by simp) rfl, cnw (by simp) rfl⟩)
          clear T18
          have Hy3 := Lib.hid hy3
          clear hy3 hby3
          have v_tq0 : (y2.alloc (.cells #[.int .i64 tw, .int .i64 th, .slice (some ⟨g5, 0, none⟩) K5 c5] 24)).cell? ⟨y2.heap.size, 0, none⟩ = some (.int .i64 tw) := by rw [Hy3.out]; exact T19.out.2.1
          have v_tq1 : (y2.alloc (.cells #[.int .i64 tw, .int .i64 th, .slice (some ⟨g5, 0, none⟩) K5 c5] 24)).cell? ⟨y2.heap.size, 1, none⟩ = some (.int .i64 th) := by rw [Hy3.out]; exact T19.out.2.2.1
          have v_tq2 : (y2.alloc (.cells #[.int .i64 tw, .int .i64 th, .slice (some ⟨g5, 0, none⟩) K5 c5] 24)).cell? ⟨y2.heap.size, 2, none⟩ = some (.slice (some ⟨g5, 0, none⟩) K5 c5) := by rw [Hy3.out]; exact T19.out.2.2.2
          go_wp2_with fail
          rw [Hy3.out]
          refine (plstep_okQP tw th aw ah K6 (some ⟨g5, 0, none⟩) aT K5 c5 512 cT L5 t L6 y3 R T19.out.1.1.1.1.1.1.1.2 T19.out.1.2 T19.out.1.1.1.1.1.2 (by unfold maxLen; omega) HTT.out HST.out.2.1 q3 q4 HST.out.2.2.1 HST.out.2.2.2 HTA.out.2.2.1 HST.out.1).mono ?_; rintro e y4 ⟨a7, c7, rfl, ho7, hby4⟩
          clear v_tq0 v_tq1 v_tq2
          have T20 := T19.up hby4
          clear T19
          have T21 := T20.add (fun wv => RK .i64 wv a7 K6 L6) (ho7.rk)
          clear T20
          clear ho7
          obtain ⟨y5, hy5⟩ : ∃ y5, y4.alloc (.cells #[.int .i64 aw, .int .i64 ah, .slice a7 K6 c7] 24) = y5 := ⟨_, rfl⟩
          have hby5 : Below y4.heap.size y4 y5 := by rw [← hy5]; exact balloc (bnil y4) _
          have T22 := T21.up hby5
          clear T21
          have T23 := T22.add (fun wv => wv.cell? ⟨y4.heap.size, 0, none⟩ = some (.int .i64 aw) ∧ wv.cell? ⟨y4.heap.size, 1, none⟩ = some (.int .i64 ah) ∧ wv.cell? ⟨y4.heap.size, 2, none⟩ = some (.slice a7 K6 c7)) (by rw [← hy5]; exact ⟨cnw (by simp) rfl, cnw (by simp) rfl, cnw (by simp) rfl⟩)
          clear T22
          have Hy5 := Lib.hid hy5
          clear hy5 hby5
          have v_a0 : (y4.alloc (.cells #[.int .i64 aw, .int .i64 ah, .slice a7 K6 c7] 24)).cell? ⟨w3.heap.size, 0, none⟩ = some (.int .i64 WN) := by rw [Hy5.out]; exact T23.out.1.1.1.1.2.1
          have v_a1 : (y4.alloc (.cells #[.int .i64 aw, .int .i64 ah, .slice a7 K6 c7] 24)).cell? ⟨w3.heap.size, 1, none⟩ = some (.int .i64 HN) := by rw [Hy5.out]; exact T23.out.1.1.1.1.2.2.1
          have v_a2 : (y4.alloc (.cells #[.int .i64 aw, .int .i64 ah, .slice a7 K6 c7] 24)).cell? ⟨w3.heap.size, 2, none⟩ = some (.slice a3 K c3) := by rw [Hy5.out]; exact T23.out.1.1.1.1.2.2.2
          go_wp2_with fail
          rw [Hy5.out]
          refine (turn_okI WN HN TT aw ah K6 tn a3 K c3 LL L6 y5 R T23.out.1.1.1.1.1.1.1.1.1.2 T23.out.1.1.1.1.1.2 (by unfold maxLen; omega) HP2.out HTN.out.1 HTA.out.1 HTA.out.2.1 HTA.out.2.2.1 HTA.out.2.2.2).mono ?_; rintro e y6 ⟨g8, c8, rfl, ho8, hby6⟩
          clear v_a0 v_a1 v_a2
          have T24 := T23.up hby6
          clear T23
          have T25 := T24.add (fun wv => RK .i64 wv (some ⟨g8, 0, none⟩) K6 L6) (ho8.rk)
          clear T24
          clear ho8
          obtain ⟨y7, hy7⟩ : ∃ y7, y6.alloc (.cells #[.int .i64 aw, .int .i64 ah, .slice (some ⟨g8, 0, none⟩) K6 c8] 24) = y7 := ⟨_, rfl⟩
          have hby7 : Below y6.heap.size y6 y7 := by rw [← hy7]; exact balloc (bnil y6) _
          have T26 := T25.up hby7
          clear T25
          have T27 := T26.add (fun wv => wv.cell? ⟨y6.heap.size, 0, none⟩ = some (.int .i64 aw) ∧ wv.cell? ⟨y6.heap.size, 1, none⟩ = some (.int .i64 ah) ∧ wv.cell? ⟨y6.heap.size, 2, none⟩ = some (.slice (some ⟨g8, 0, none⟩) K6 c8)) (by rw [← hy7]; exact ⟨cnw (by simp) rfl, cnw (by simp) rfl, cnw (by simp) rfl⟩)
          clear T26
          have Hy7 := Lib.hid hy7
          clear hy7 hby7
          have v_tb0 : (y6.alloc (.cells #[.int .i64 aw, .int .i64 ah, .slice (some ⟨g8, 0, none⟩) K6 c8] 24)).cell? ⟨y4.heap.size, 0, none⟩ = some (.int .i64 aw) := by rw [Hy7.out]; exact T27.out.1.1.2.1
          have v_tb1 : (y6.alloc (.cells #[.int .i64 aw, .int .i64 ah, .slice (some ⟨g8, 0, none⟩) K6 c8] 24)).cell? ⟨y4.heap.size, 1, none⟩ = some (.int .i64 ah) := by rw [Hy7.out]; exact T27.out.1.1.2.2.1
          have v_tb2 : (y6.alloc (.cells #[.int .i64 aw, .int .i64 ah, .slice (some ⟨g8, 0, none⟩) K6 c8] 24)).cell? ⟨y4.heap.size, 2, none⟩ = some (.slice a7 K6 c7) := by rw [Hy7.out]; exact T27.out.1.1.2.2.2
          have v_tc0 : (y6.alloc (.cells #[.int .i64 aw, .int .i64 ah, .slice (some ⟨g8, 0, none⟩) K6 c8] 24)).cell? ⟨y6.heap.size, 0, none⟩ = some (.int .i64 aw) := by rw [Hy7.out]; exact T27.out.2.1
          have v_tc1 : (y6.alloc (.cells #[.int .i64 aw, .int .i64 ah, .slice (some ⟨g8, 0, none⟩) K6 c8] 24)).cell? ⟨y6.heap.size, 1, none⟩ = some (.int .i64 ah) := by rw [Hy7.out]; exact T27.out.2.2.1
          have v_tc2 : (y6.alloc (.cells #[.int .i64 aw, .int .i64 ah, .slice (some ⟨g8, 0, none⟩) K6 c8] 24)).cell? ⟨y6.heap.size, 2, none⟩ = some (.slice (some ⟨g8, 0, none⟩) K6 c8) := by rw [Hy7.out]; exact T27.out.2.2.2
          go_wp2_with fail
          rw [Hy7.out]
          refine (patches_eq aw ah a7 (some ⟨g8, 0, none⟩) K6 K6 c7 c8 L6 y7 T27.out.1.1.1.2 T27.out.1.2 hl6).mono ?_; rintro e y8 ⟨rfl, hby8⟩
          clear v_tb0 v_tb1 v_tb2 v_tc0 v_tc1 v_tc2
          have T28 := T27.up hby8
          clear T27
          go_wp2
          go_ret
          exact ⟨rfl, T28.out.1.1.1.1.1.1.1.1.1.1.1.1.2⟩
    · skip
      have i1 : ¬ (q : Int) ≤ (XW : Int) := by omega
      have v_a0 : wx.cell? ⟨w3.heap.size, 0, none⟩ = some (.int .i64 WN) := T14.out.2.1
      cases hev : evB t with
      | false =>
        have HEV := Lib.hid hev
        clear hev
        go_wp2_with fail
        refine (even_okQ aT 512 cT t false wx R T14.out.1.1.1.1.1.2 T14.out.1.1.1.2 (by unfold maxLen; omega) HTT.out HEV.out).mono ?_; rintro e y1 ⟨rfl, hby1⟩
        clear v_a0
        have T15 := T14.up hby1
        clear T14
        go_wp2
        go_ret
        exact ⟨rfl, T15.out.1.1.1.1.1.1.2⟩
      | true =>
        obtain ⟨TT, hTT⟩ : ∃ TT : Nat, tn % 8 = (TT : Int) := ⟨(tn % 8).toNat, by omega⟩
        have hT8 : TT < 8 := by omega
        obtain ⟨tw, htw⟩ : ∃ x, turnW w h TT = x := ⟨_, rfl⟩
        obtain ⟨th, hth⟩ : ∃ x, turnW h w TT = x := ⟨_, rfl⟩
        obtain ⟨aw, haw⟩ : ∃ x, turnW WN HN TT = x := ⟨_, rfl⟩
        obtain ⟨ah, hah⟩ : ∃ x, turnW HN WN TT = x := ⟨_, rfl⟩
        obtain ⟨K5, hK5⟩ : ∃ x, tw * th = x := ⟨_, rfl⟩
        obtain ⟨K6, hK6⟩ : ∃ x, aw * ah = x := ⟨_, rfl⟩
        obtain ⟨L5, hL5⟩ : ∃ x, turnL w h l TT = x := ⟨_, rfl⟩
        obtain ⟨L6, hL6⟩ : ∃ x, turnL WN HN LL TT = x := ⟨_, rfl⟩
        have q1 : tw - 2 = aw := by rw [← htw, ← haw]; have := HW2.out; unfold turnW; split <;> omega
        have q2 : th - 2 = ah := by rw [← hth, ← hah]; have := HW2.out; unfold turnW; split <;> omega
        have q3 : 3 ≤ tw := by rw [← htw]; unfold turnW; split <;> omega
        have q4 : 3 ≤ th := by rw [← hth]; unfold turnW; split <;> omega
        have q5 : tw ≤ 64 := by rw [← htw]; unfold turnW; split <;> omega
        have q6 : th ≤ 64 := by rw [← hth]; unfold turnW; split <;> omega
        have hp5 : IsPatch tw th L5 := by rw [← htw, ← hth, ← hL5]; exact turn_patch HPP.out
        have hst : stepL t tw th L5 = L6 := by
          rw [← htw, ← hth, ← hL5, step_turn HPP.out HTT.out.len HTT.out.sym hw3 hh3 hev hT8, ← hL6, HEQ.out.1, HEQ.out.2.1, HEQ.out.2.2.2]
        have hk5 := mul64 hK5 (by omega) (by omega)
        have hk6 := mul64 hK6 (by omega) (by omega)
        have hl6 : L6.length ≤ maxLen := by
          have : L6.length = K6 := by rw [← hL6, ← hK6, ← haw, ← hah]; exact madeL_len _ _ _
          unfold maxLen
          omega
        have HEV := Lib.hid hev
        have HTN := Lib.hid (And.intro hTT (And.intro htw (And.intro hth (And.intro hK5 hL5))))
        have HTA := Lib.hid (And.intro haw (And.intro hah (And.intro hK6 hL6)))
        have HST := Lib.hid (And.intro hst (And.intro hp5 (And.intro q1 q2)))
        clear hev hTT htw hth hK5 hL5 haw hah hK6 hL6 hst hp5 q1 q2 hT8
        go_wp2_with fail
        refine (even_okQ aT 512 cT t true wx R T14.out.1.1.1.1.1.2 T14.out.1.1.1.2 (by unfold maxLen; omega) HTT.out HEV.out).mono ?_; rintro e y1 ⟨rfl, hby1⟩
        clear v_a0
        have T15 := T14.up hby1
        clear T14
        have v_p0 : y1.cell? ⟨W.heap.size, 0, none⟩ = some (.int .i64 w) := T15.out.1.1.2.1
        have v_p1 : y1.cell? ⟨W.heap.size, 1, none⟩ = some (.int .i64 h) := T15.out.1.1.2.2.1
        have v_p2 : y1.cell? ⟨W.heap.size, 2, none⟩ = some (.slice a n c) := T15.out.1.1.2.2.2
        go_wp2_with fail
        refine (turn_okI w h TT tw th K5 tn a n c l L5 y1 R T15.out.1.1.1.1.1.2 (T15.out.1.1.1.1.2).rk hnm HPP.out HTN.out.1 HTN.out.2.1 HTN.out.2.2.1 HTN.out.2.2.2.1 HTN.out.2.2.2.2).mono ?_; rintro e y2 ⟨g5, c5, rfl, ho5, hby2⟩
        clear v_p0 v_p1 v_p2
        have T16 := T15.up hby2
        clear T15
        have T17 := T16.add (fun wv => SlI wv (some ⟨g5, 0, none⟩) K5 c5 L5) (own_sl ho5 hk5)
        clear T16
        clear ho5
        obtain ⟨y3, hy3⟩ : ∃ y3, y2.alloc (.cells #[.int .i64 tw, .int .i64 th, .slice (some ⟨g5, 0, none⟩) K5 c5] 24) = y3 := ⟨_, rfl⟩
        have hby3 : Below y2.heap.size y2 y3 := by rw [← hy3]; exact balloc (bnil y2) _
        have T18 := T17.up hby3
        clear T17
        have T19 := T18.add (fun wv => wv.cell? ⟨y2.heap.size, 0, none⟩ = some (.int .i64 tw) ∧ wv.cell? ⟨y2.heap.size, 1, none⟩ = some (.int .i64 th) ∧ wv.cell? ⟨y2.heap.size, 2, none⟩ = some (.slice (some ⟨g5, 0, none⟩) K5 c5)) (by rw [← hy3]; exact ⟨cnw (by simp) rfl, cnw (by simp) rfl, cnw (by simp) rfl⟩)
        clear T18
        have Hy3 := Lib.hid hy3
        clear hy3 hby3
        have v_tq0 : (y2.alloc (.cells #[.int .i64 tw, .int .i64 th, .slice (some ⟨g5, 0, none⟩) K5 c5] 24)).cell? ⟨y2.heap.size, 0, none⟩ = some (.int .i64 tw) := by rw [Hy3.out]; exact T19.out.2.1
        have v_tq1 : (y2.alloc (.cells #[.int .i64 tw, .int .i64 th, .slice (some ⟨g5, 0, none⟩) K5 c5] 24)).cell? ⟨y2.heap.size, 1, none⟩ = some (.int .i64 th) := by rw [Hy3.out]; exact T19.out.2.2.1
        have v_tq2 : (y2.alloc (.cells #[.int .i64 tw, .int .i64 th, .slice (some ⟨g5, 0, none⟩) K5 c5] 24)).cell? ⟨y2.heap.size, 2, none⟩ = some (.slice (some ⟨g5, 0, none⟩) K5 c5) := by rw [Hy3.out]; exact T19.out.2.2.2
        go_wp2_with fail
        rw [Hy3.out]
        refine (plstep_okQP tw th aw ah K6 (some ⟨g5, 0, none⟩) aT K5 c5 512 cT L5 t L6 y3 R T19.out.1.1.1.1.1.1.1.2 T19.out.1.2 T19.out.1.1.1.1.1.2 (by unfold maxLen; omega) HTT.out HST.out.2.1 q3 q4 HST.out.2.2.1 HST.out.2.2.2 HTA.out.2.2.1 HST.out.1).mono ?_; rintro e y4 ⟨a7, c7, rfl, ho7, hby4⟩
        clear v_tq0 v_tq1 v_tq2
        have T20 := T19.up hby4
        clear T19
        have T21 := T20.add (fun wv => RK .i64 wv a7 K6 L6) (ho7.rk)
        clear T20
        clear ho7
        obtain ⟨y5, hy5⟩ : ∃ y5, y4.alloc (.cells #[.int .i64 aw, .int .i64 ah, .slice a7 K6 c7] 24) = y5 := ⟨_, rfl⟩
        have hby5 : Below y4.heap.size y4 y5 := by rw [← hy5]; exact balloc (bnil y4) _
        have T22 := T21.up hby5
        clear T21
        have T23 := T22.add (fun wv => wv.cell? ⟨y4.heap.size, 0, none⟩ = some (.int .i64 aw) ∧ wv.cell? ⟨y4.heap.size, 1, none⟩ = some (.int .i64 ah) ∧ wv.cell? ⟨y4.heap.size, 2, none⟩ = some (.slice a7 K6 c7)) (by rw [← hy5]; exact ⟨cnw (by simp) rfl, cnw (by simp) rfl, cnw (by simp) rfl⟩)
        clear T22
        have Hy5 := Lib.hid hy5
        clear hy5 hby5
        have v_a0 : (y4.alloc (.cells #[.int .i64 aw, .int .i64 ah, .slice a7 K6 c7] 24)).cell? ⟨w3.heap.size, 0, none⟩ = some (.int .i64 WN) := by rw [Hy5.out]; exact T23.out.1.1.1.1.2.1
        have v_a1 : (y4.alloc (.cells #[.int .i64 aw, .int .i64 ah, .slice a7 K6 c7] 24)).cell? ⟨w3.heap.size, 1, none⟩ = some (.int .i64 HN) := by rw [Hy5.out]; exact T23.out.1.1.1.1.2.2.1
        have v_a2 : (y4.alloc (.cells #[.int .i64 aw, .int .i64 ah, .slice a7 K6 c7] 24)).cell? ⟨w3.heap.size, 2, none⟩ = some (.slice a3 K c3) := by rw [Hy5.out]; exact T23.out.1.1.1.1.2.2.2
        go_wp2_with fail
        rw [Hy5.out]
        refine (turn_okI WN HN TT aw ah K6 tn a3 K c3 LL L6 y5 R T23.out.1.1.1.1.1.1.1.1.1.2 T23.out.1.1.1.1.1.2 (by unfold maxLen; omega) HP2.out HTN.out.1 HTA.out.1 HTA.out.2.1 HTA.out.2.2.1 HTA.out.2.2.2).mono ?_; rintro e y6 ⟨g8, c8, rfl, ho8, hby6⟩
        clear v_a0 v_a1 v_a2
        have T24 := T23.up hby6
        clear T23
        have T25 := T24.add (fun wv => RK .i64 wv (some ⟨g8, 0, none⟩) K6 L6) (ho8.rk)
        clear T24
        clear ho8
        obtain ⟨y7, hy7⟩ : ∃ y7, y6.alloc (.cells #[.int .i64 aw, .int .i64 ah, .slice (some ⟨g8, 0, none⟩) K6 c8] 24) = y7 := ⟨_, rfl⟩
        have hby7 : Below y6.heap.size y6 y7 := by rw [← hy7]; exact balloc (bnil y6) _
        have T26 := T25.up hby7
        clear T25
        have T27 := T26.add (fun wv => wv.cell? ⟨y6.heap.size, 0, none⟩ = some (.int .i64 aw) ∧ wv.cell? ⟨y6.heap.size, 1, none⟩ = some (.int .i64 ah) ∧ wv.cell? ⟨y6.heap.size, 2, none⟩ = some (.slice (some ⟨g8, 0, none⟩) K6 c8)) (by rw [← hy7]; exact ⟨cnw (by simp) rfl, cnw (by simp) rfl, cnw (by simp) rfl⟩)
        clear T26
        have Hy7 := Lib.hid hy7
        clear hy7 hby7
        have v_tb0 : (y6.alloc (.cells #[.int .i64 aw, .int .i64 ah, .slice (some ⟨g8, 0, none⟩) K6 c8] 24)).cell? ⟨y4.heap.size, 0, none⟩ = some (.int .i64 aw) := by rw [Hy7.out]; exact T27.out.1.1.2.1
        have v_tb1 : (y6.alloc (.cells #[.int .i64 aw, .int .i64 ah, .slice (some ⟨g8, 0, none⟩) K6 c8] 24)).cell? ⟨y4.heap.size, 1, none⟩ = some (.int .i64 ah) := by rw [Hy7.out]; exact T27.out.1.1.2.2.1
        have v_tb2 : (y6.alloc (.cells #[.int .i64 aw, .int .i64 ah, .slice (some ⟨g8, 0, none⟩) K6 c8] 24)).cell? ⟨y4.heap.size, 2, none⟩ = some (.slice a7 K6 c7) := by rw [Hy7.out]; exact T27.out.1.1.2.2.2
        have v_tc0 : (y6.alloc (.cells #[.int .i64 aw, .int .i64 ah, .slice (some ⟨g8, 0, none⟩) K6 c8] 24)).cell? ⟨y6.heap.size, 0, none⟩ = some (.int .i64 aw) := by rw [Hy7.out]; exact T27.out.2.1
        have v_tc1 : (y6.alloc (.cells #[.int .i64 aw, .int .i64 ah, .slice (some ⟨g8, 0, none⟩) K6 c8] 24)).cell? ⟨y6.heap.size, 1, none⟩ = some (.int .i64 ah) := by rw [Hy7.out]; exact T27.out.2.2.1
        have v_tc2 : (y6.alloc (.cells #[.int .i64 aw, .int .i64 ah, .slice (some ⟨g8, 0, none⟩) K6 c8] 24)).cell? ⟨y6.heap.size, 2, none⟩ = some (.slice (some ⟨g8, 0, none⟩) K6 c8) := by rw [Hy7.out]; exact T27.out.2.2.2
        go_wp2_with fail
        rw [Hy7.out]
        refine (patches_eq aw ah a7 (some ⟨g8, 0, none⟩) K6 K6 c7 c8 L6 y7 T27.out.1.1.1.2 T27.out.1.2 hl6).mono ?_; rintro e y8 ⟨rfl, hby8⟩
        clear v_tb0 v_tb1 v_tb2 v_tc0 v_tc1 v_tc2
        have T28 := T27.up hby8
        clear T27
        go_wp2
        go_ret
        exact ⟨rfl, T28.out.1.1.1.1.1.1.1.1.1.1.1.1.2⟩
theorem plane_pieces_row (aT : Option Addr) (cT : Nat) (t : List Int) (w h : Int) (a : Option Addr) (n c : Nat) (l : List Int) (x y tn : Int) (W : World) (R : Nat → Addr) (hS : Sent W R) (hR0 : Rd W aT t.length 1 (t.map (Value.int .i64))) (hl0 : t.length ≤ cT) (hz0 : cT * 8 ≤ 140737488351232) (hn0 : aT = none → cT = 0) (hx0 : ∀ x ∈ t, -9223372036854775808 ≤ x ∧ x ≤ 9223372036854775807) (hM : SlI W a n c l) (hx : I64 l) :
    Calls Tryd.prog 5 #[.slice aT t.length cT, patV w h a n c, .int .i64 x, .int .i64 y, .int .i64 tn] W (TrueBelow W) :=
  plane_pieces w h a aT n c t.length cT l t x y tn W R hS hM hx ⟨rfl, hR0⟩ (by unfold maxLen; omega)
end Go.Proofs.YtocfkmdoalhjmaaDoor
