/- edenlaw06.RingOrbits returns true. -/
import Derived.Test.YtjgblanpaanglaaDoorAwk06
import Derived.Test.YtjgblanpaanglaaDoorRfO
import Derived.Deep.QuietTactic
import Derived.BigQuiet
namespace Go.Proofs.YtjgblanpaanglaaDoor
open Go.RowKit
set_option linter.unusedVariables false
set_option maxRecDepth 100000

instance monoEnvO {R : Nat → Addr} : Mono (fun w => Env w R) := ⟨⟨fun hb h => h.up hb⟩⟩
instance monoECO {R : Nat → Addr} {v : Value} {f : ErrD} : Mono (fun w => EC R w v f) := ⟨⟨fun hb h => h.up hb⟩⟩
theorem ringD_cons {k r : Int} {tb wl : List Int} {x} (h : ringD k r tb wl = some x) : ∃ y es n, x = (y :: es, n) := by
  unfold ringD at h
  split at h
  · cases h; exact ⟨_, _, _, rfl⟩
  · cases hq : ringE k wl with
    | none => rw [hq] at h; cases h
    | some y => rw [hq] at h; cases h; exact ⟨_, _, _, rfl⟩
theorem orbD_cons {k r : Int} {tb wl : List Int} {x} (h : orbD k r tb wl = some x) : ∃ y es n, x = (y :: es, n) := by
  unfold orbD at h
  split at h
  · rename_i hr
    cases h
    exact ringD_cons hr
  · split at h
    · cases h; exact ⟨_, _, _, rfl⟩
    · split at h
      · cases h
      · cases h; exact ⟨_, _, _, rfl⟩
theorem ec_orb {R : Nat → Addr} {w : World} {v : Value} {x} (h : EC R w v (some x)) (hx : ∃ y es n, x = (y :: es, n)) : ∃ g, v = .iface 72 (.pointer (some ⟨g, 0, none⟩)) := by
  obtain ⟨y, es, n, rfl⟩ := hx
  obtain ⟨g, x, hv, _⟩ := h
  exact ⟨g, hv⟩
theorem orbit_pp (k r : Int) (m p : Nat) (a : Option Addr) (n c : Nat) (l : List Int) (aw : Option Addr) (nw cw : Nat) (wl : List Int) (W : World) (R : Nat → Addr) (hS : Sent W R) (hR : RK .i64 W a n l) (hm : n ≤ maxLen) (hW : SlI W aw nw cw wl) (hmp : orbV k r l wl = (m, p)) :
    Calls Tryd.prog 22 #[ruleV k r a n c, .slice aw nw cw] W fun e w' => ∃ ev, e = .returned (.tuple #[.int .i64 (m : Nat), .int .i64 (p : Nat), ev]) ∧ EC R w' ev (orbD k r l wl) ∧ Below W.heap.size W w' := by
  have h := orbit_anyE k r a n c l aw nw cw wl W R hS hR hm hW
  rw [hmp] at h
  exact h
theorem reforbit_pp (k r : Int) (m p : Nat) (a : Option Addr) (n c : Nat) (l : List Int) (aw : Option Addr) (nw cw : Nat) (wl : List Int) (W : World) (hR : RK .i64 W a n l) (hm : n ≤ maxLen) (hW : SlI W aw nw cw wl) (hmp : orbV k r l wl = (m, p)) :
    Calls Tryd.prog 23 #[ruleV k r a n c, .slice aw nw cw] W fun e w' => ∃ N a1 n1 c1 a2 n2 c2, e = .returned (.tuple #[.int .i64 (m : Nat), .int .i64 (p : Nat), .agg #[.int .i64 N, .slice a1 n1 c1, .slice a2 n2 c2]]) ∧ WC w' (.agg #[.int .i64 N, .slice a1 n1 c1, .slice a2 n2 c2]) (orbD k r l wl) ∧ Below W.heap.size W w' := by
  have h := reforbit_any k r a n c l aw nw cw wl W hR hm hW
  rw [hmp] at h
  exact h
set_option maxHeartbeats 16000000 in
theorem ring_orbits (k r : Int) (a : Option Addr) (n c : Nat) (l : List Int) (aw : Option Addr) (nw cw : Nat) (wl : List Int) (W : World) (R : Nat → Addr) (hE : Env W R) (hR : RK .i64 W a n l) (hnm : n ≤ maxLen) (hW : SlI W aw nw cw wl) :
    Calls Tryd.prog 6 #[ruleV k r a n c, .slice aw nw cw] W (TrueBelow W) := by
  have hmw := hW.nm
  have HLW : Hid (nw = wl.length) := hW.rk.len
  obtain ⟨m, p, hmp⟩ : ∃ m p, orbV k r l wl = (m, p) := ⟨_, _, rfl⟩
  have HMP := Lib.hid hmp
  clear hmp
  have T0 := Tk.nil W
  have T1 := T0.add (fun wv => Below W.heap.size W wv) (bnil W)
  clear T0
  have T2 := T1.add (fun wv => Env wv R) (hE)
  clear T1
  have T3 := T2.add (fun wv => RK .i64 wv a n l) (hR)
  clear T2
  have T4 := T3.add (fun wv => SlI wv aw nw cw wl) (hW)
  clear T3
  clear hE hR hW
  obtain ⟨Wb, hWb⟩ : ∃ Wb, W.alloc (.cells #[.int .i64 k, .int .i64 r, .slice a n c] 24) = Wb := ⟨_, rfl⟩
  have hbWb : Below W.heap.size W Wb := by rw [← hWb]; exact balloc (bnil W) _
  have T5 := T4.up hbWb
  clear T4
  have T6 := T5.add (fun wv => wv.cell? ⟨W.heap.size, 0, none⟩ = some (.int .i64 k) ∧ wv.cell? ⟨W.heap.size, 1, none⟩ = some (.int .i64 r) ∧ wv.cell? ⟨W.heap.size, 2, none⟩ = some (.slice a n c)) (by rw [← hWb]; exact ⟨cnw (by simp) rfl, cnw (by simp) rfl, cnw (by simp) rfl⟩)
  clear T5
  have HWb := Lib.hid hWb
  clear hWb hbWb
  go_enter Tryd.func6, Tryd.ntmps6
  go_wp2_with fail
  rw [HWb.out]
  refine (awake06_any Wb R (T6.out.1.1.1.2).sent.glob).mono ?_; rintro e w0 ⟨rfl, hbw0⟩
  have T7 := T6.up hbw0
  clear T6
  have v_p0 : w0.cell? ⟨W.heap.size, 0, none⟩ = some (.int .i64 k) := T7.out.2.1
  have v_p1 : w0.cell? ⟨W.heap.size, 1, none⟩ = some (.int .i64 r) := T7.out.2.2.1
  have v_p2 : w0.cell? ⟨W.heap.size, 2, none⟩ = some (.slice a n c) := T7.out.2.2.2
  go_wp2_with fail
  refine (orbit_pp k r m p a n c l aw nw cw wl w0 R (T7.out.1.1.1.2).sent T7.out.1.1.2 hnm T7.out.1.2 HMP.out).mono ?_; rintro e w1 ⟨ev, rfl, he, hbw1⟩
  clear v_p0 v_p1 v_p2
  have T8 := T7.up hbw1
  clear T7
  have T9 := T8.add (fun wv => EC R wv ev (orbD k r l wl)) (he)
  clear T8
  clear he
  have v_p0 : w1.cell? ⟨W.heap.size, 0, none⟩ = some (.int .i64 k) := T9.out.1.2.1
  have v_p1 : w1.cell? ⟨W.heap.size, 1, none⟩ = some (.int .i64 r) := T9.out.1.2.2.1
  have v_p2 : w1.cell? ⟨W.heap.size, 2, none⟩ = some (.slice a n c) := T9.out.1.2.2.2
  go_wp2_with fail
  refine (reforbit_pp k r m p a n c l aw nw cw wl w1 T9.out.1.1.1.2 hnm T9.out.1.1.2 HMP.out).mono ?_; rintro e w2 ⟨N, a1, n1, c1, a2, n2, c2, rfl, hw, hbw2⟩
  clear v_p0 v_p1 v_p2
  have T10 := T9.up hbw2
  clear T9
  have T11 := T10.add (fun wv => WC wv (.agg #[.int .i64 N, .slice a1 n1 c1, .slice a2 n2 c2]) (orbD k r l wl)) (hw)
  clear T10
  clear hw
  obtain ⟨we, hwe⟩ : ∃ we, w2.alloc (.cells #[.int .i64 N, .slice a1 n1 c1, .slice a2 n2 c2] 43) = we := ⟨_, rfl⟩
  have hbwe : Below w2.heap.size w2 we := by rw [← hwe]; exact balloc (bnil w2) _
  have T12 := T11.up hbwe
  clear T11
  have T13 := T12.add (fun wv => wv.cell? ⟨w2.heap.size, 0, none⟩ = some (.int .i64 N) ∧ wv.cell? ⟨w2.heap.size, 1, none⟩ = some (.slice a1 n1 c1) ∧ wv.cell? ⟨w2.heap.size, 2, none⟩ = some (.slice a2 n2 c2)) (by rw [← hwe]; exact ⟨cnw (by simp) rfl, cnw (by simp) rfl, cnw (by simp) rfl⟩)
  clear T12
  have Hwe := Lib.hid hwe
  clear hwe hbwe
  have v_e0 : (w2.alloc (.cells #[.int .i64 N, .slice a1 n1 c1, .slice a2 n2 c2] 43)).cell? ⟨w2.heap.size, 0, none⟩ = some (.int .i64 N) := by rw [Hwe.out]; exact T13.out.2.1
  have v_e1 : (w2.alloc (.cells #[.int .i64 N, .slice a1 n1 c1, .slice a2 n2 c2] 43)).cell? ⟨w2.heap.size, 1, none⟩ = some (.slice a1 n1 c1) := by rw [Hwe.out]; exact T13.out.2.2.1
  have v_e2 : (w2.alloc (.cells #[.int .i64 N, .slice a1 n1 c1, .slice a2 n2 c2] 43)).cell? ⟨w2.heap.size, 2, none⟩ = some (.slice a2 n2 c2) := by rw [Hwe.out]; exact T13.out.2.2.2
  go_wp2_with fail
  rw [Hwe.out]
  refine (rawIs_ch ev _ (orbD k r l wl) we R T13.out.1.1.1.1.1.1.2 T13.out.1.1.2 T13.out.1.2).mono ?_; rintro e w3 ⟨rfl, hbw3⟩
  clear v_e0 v_e1 v_e2
  have T14 := T13.up hbw3
  clear T13
  cases hd : orbD k r l wl with
  | some x =>
    have hmp := HMP.out
    rw [orbV_err hd] at hmp
    obtain ⟨hm0, hp0⟩ : 0 = m ∧ 0 = p := by cases hmp; exact ⟨rfl, rfl⟩
    subst hm0 hp0
    obtain ⟨g, hg⟩ := ec_orb (by have q := T14.out.1.1.2; rw [hd] at q; exact q) (orbD_cons hd)
    subst hg
    clear hmp hd
    go_wp2
    go_ret
    exact ⟨rfl, T14.out.1.1.1.1.1.1.1.2⟩
  | none =>
    have hev : ev = .nilIface := (by have q := T14.out.1.1.2; rw [hd] at q; exact q)
    subst hev
    obtain ⟨⟨ho1, ho2⟩, hr, h64⟩ := orb_of hd
    rw [HMP.out] at ho1 ho2
    have ho1 : m + p ≤ 4096 := ho1
    obtain ⟨hp1, hrep, hdis⟩ : 1 ≤ p ∧ itR k.toNat r.toNat l (m + p) wl = itR k.toNat r.toNat l m wl ∧ ∀ i j, i < j → j < m + p → itR k.toNat r.toNat l i wl ≠ itR k.toNat r.toNat l j wl := ho2
    obtain ⟨kn, rn, ek, er, hI, hG⟩ := ringD_none hr
    have ek2 : k.toNat = kn := by rw [ek]; rfl
    have er2 : r.toNat = rn := by rw [er]; rfl
    rw [ek2, er2] at hrep hdis
    have HRU := Lib.hid hI
    have HRG := Lib.hid hG
    have HREP := Lib.hid hrep
    have HDIS := Lib.hid hdis
    have h64n : nw ≤ 64 := by rw [HLW.out]; exact h64
    have hb : ∀ q, q ≤ 4096 → q * nw ≤ 262144 := fun q hq => Nat.le_trans (Nat.mul_le_mul hq h64n) (by omega)
    have hbm := hb m (by omega)
    have hbmp := hb (m + p) ho1
    clear hd hr hrep hdis hI hG ek2 er2 HMP h64
    subst ek er
    have bsum : IntKind.i64.wrap ((m : Int) + (p : Int)) = ((m + p : Nat) : Int) := by rw [show ((m + p : Nat) : Int) = (m : Int) + (p : Int) by omega]; exact IntWalk.i64_in _ (by omega)
    have v_p0 : w3.cell? ⟨W.heap.size, 0, none⟩ = some (.int .i64 kn) := T14.out.1.1.1.2.1
    have v_p1 : w3.cell? ⟨W.heap.size, 1, none⟩ = some (.int .i64 rn) := T14.out.1.1.1.2.2.1
    have v_p2 : w3.cell? ⟨W.heap.size, 2, none⟩ = some (.slice a n c) := T14.out.1.1.1.2.2.2
    go_wp2_with fail
    refine (rafter_ok kn rn m a n c l aw nw cw wl w3 T14.out.1.1.1.1.1.2 T14.out.1.1.1.1.2 HRU.out HRG.out hbm).mono ?_; rintro e w4 ⟨b1, d1, rfl, ho3, hbw4⟩
    clear v_p0 v_p1 v_p2
    have T15 := T14.up hbw4
    clear T14
    have hrm : RK .i64 w4 b1 nw (itR kn rn l m wl) := ho3.rk
    have T16 := T15.add (fun wv => RK .i64 wv b1 nw (itR kn rn l m wl)) (hrm)
    clear T15
    clear ho3 hrm
    have v_p0 : w4.cell? ⟨W.heap.size, 0, none⟩ = some (.int .i64 kn) := T16.out.1.1.1.1.2.1
    have v_p1 : w4.cell? ⟨W.heap.size, 1, none⟩ = some (.int .i64 rn) := T16.out.1.1.1.1.2.2.1
    have v_p2 : w4.cell? ⟨W.heap.size, 2, none⟩ = some (.slice a n c) := T16.out.1.1.1.1.2.2.2
    go_wp2_with fail
    refine (rafter_ok kn rn (m + p) a n c l aw nw cw wl w4 T16.out.1.1.1.1.1.1.2 T16.out.1.1.1.1.1.2 HRU.out HRG.out hbmp).mono ?_; rintro e w5 ⟨b2, d2, rfl, ho4, hbw5⟩
    clear v_p0 v_p1 v_p2
    have T17 := T16.up hbw5
    clear T16
    have hrm : RK .i64 w5 b2 nw (itR kn rn l m wl) := by rw [← HREP.out]; exact ho4.rk
    have T18 := T17.add (fun wv => RK .i64 wv b2 nw (itR kn rn l m wl)) (hrm)
    clear T17
    clear ho4 hrm
    go_wp2_with fail
    refine (ints_eqB b1 b2 nw nw d1 d2 (itR kn rn l m wl) w5 T18.out.1.2 T18.out.2 (by rw [itR_len, ← HLW.out]; exact hmw)).mono ?_; rintro e w6 ⟨rfl, hbw6⟩
    have T19 := T18.up hbw6
    clear T18
    have p1 : ¬ (p : Int) < 1 := by omega
    have m1 : ¬ (m : Int) < 0 := by omega
    by_cases hm0 : (0 : Int) < (m : Int)
    · skip
      obtain ⟨m, rfl⟩ : ∃ q, m = q + 1 := ⟨m - 1, by omega⟩
      have b1' : IntKind.i64.wrap (((m + 1 : Nat) : Int) - 1) = (m : Int) := by rw [show ((m + 1 : Nat) : Int) - 1 = (m : Int) by omega]; exact IntWalk.i64_in _ (by omega)
      have b2' : IntKind.i64.wrap (((m + 1 + p : Nat) : Int) - 1) = ((m + p : Nat) : Int) := by rw [show ((m + 1 + p : Nat) : Int) - 1 = ((m + p : Nat) : Int) by omega]; exact IntWalk.i64_in _ (by omega)
      have hcm := hb m (by omega)
      have hcmp := hb (m + p) (by omega)
      have hne : itR kn rn l m wl ≠ itR kn rn l (m + p) wl := HDIS.out m (m + p) (by omega) (by omega)
      have hde := decide_eq_false hne
      have HDE := Lib.hid hde
      generalize hM : m + 1 = M at *
      generalize hMP : M + p = MP at *
      clear hne hde hM hMP
      have v_p0 : w6.cell? ⟨W.heap.size, 0, none⟩ = some (.int .i64 kn) := T19.out.1.1.1.1.1.2.1
      have v_p1 : w6.cell? ⟨W.heap.size, 1, none⟩ = some (.int .i64 rn) := T19.out.1.1.1.1.1.2.2.1
      have v_p2 : w6.cell? ⟨W.heap.size, 2, none⟩ = some (.slice a n c) := T19.out.1.1.1.1.1.2.2.2
      go_wp2_with fail
      refine (rafter_ok kn rn m a n c l aw nw cw wl w6 T19.out.1.1.1.1.1.1.1.2 T19.out.1.1.1.1.1.1.2 HRU.out HRG.out hcm).mono ?_; rintro e w7 ⟨b3, d3, rfl, ho5, hbw7⟩
      clear v_p0 v_p1 v_p2
      have T20 := T19.up hbw7
      clear T19
      have hrm : RK .i64 w7 b3 nw (itR kn rn l m wl) := ho5.rk
      have T21 := T20.add (fun wv => RK .i64 wv b3 nw (itR kn rn l m wl)) (hrm)
      clear T20
      clear ho5 hrm
      have v_p0 : w7.cell? ⟨W.heap.size, 0, none⟩ = some (.int .i64 kn) := T21.out.1.1.1.1.1.1.2.1
      have v_p1 : w7.cell? ⟨W.heap.size, 1, none⟩ = some (.int .i64 rn) := T21.out.1.1.1.1.1.1.2.2.1
      have v_p2 : w7.cell? ⟨W.heap.size, 2, none⟩ = some (.slice a n c) := T21.out.1.1.1.1.1.1.2.2.2
      go_wp2_with fail
      refine (rafter_ok kn rn (m + p) a n c l aw nw cw wl w7 T21.out.1.1.1.1.1.1.1.1.2 T21.out.1.1.1.1.1.1.1.2 HRU.out HRG.out hcmp).mono ?_; rintro e w8 ⟨b4, d4, rfl, ho6, hbw8⟩
      clear v_p0 v_p1 v_p2
      have T22 := T21.up hbw8
      clear T21
      have hrm : RK .i64 w8 b4 nw (itR kn rn l (m + p) wl) := ho6.rk
      have T23 := T22.add (fun wv => RK .i64 wv b4 nw (itR kn rn l (m + p) wl)) (hrm)
      clear T22
      clear ho6 hrm
      go_wp2_with fail
      refine (ints_dec b3 b4 nw nw d3 d4 (itR kn rn l m wl) (itR kn rn l (m + p) wl) false w8 T23.out.1.2 T23.out.2 hmw hmw HDE.out).mono ?_; rintro e w9 ⟨rfl, hbw9⟩
      have T24 := T23.up hbw9
      clear T23
      go_wp2
      go_ret
      exact ⟨rfl, T24.out.1.1.1.1.1.1.1.1.1.1.1.2⟩
    · skip
      go_wp2
      go_ret
      exact ⟨rfl, T19.out.1.1.1.1.1.1.1.1.1.2⟩
theorem ring_orbits_row (k r : Int) (a : Option Addr) (n c : Nat) (l : List Int) (aw : Option Addr) (cw : Nat) (wl : List Int) (W : World) (R : Nat → Addr) (hE : Env W R) (hM : SlI W a n c l)
    (hR1 : Rd W aw wl.length 1 (wl.map (Value.int .i64))) (hl1 : wl.length ≤ cw) (hz1 : cw * 8 ≤ 140737488351232) (hn1 : aw = none → cw = 0) (hx1 : ∀ x ∈ wl, -9223372036854775808 ≤ x ∧ x ≤ 9223372036854775807) :
    Calls Tryd.prog 6 #[ruleV k r a n c, .slice aw wl.length cw] W (TrueBelow W) :=
  ring_orbits k r a n c l aw wl.length cw wl W R hE hM.rk hM.nm ⟨⟨rfl, hR1⟩, hl1, by omega, by unfold maxLen; omega, hn1⟩
end Go.Proofs.YtjgblanpaanglaaDoor
