/- edenlaw25.EveTells returns true. -/
import Derived.Test.YtoaooblodgejdaaDoorAwk25
import Derived.Test.YtoaooblodgejdaaDoorEvE
import Derived.Test.YtoaooblodgejdaaDoorESelf
import Derived.Test.YtoaooblodgejdaaDoorRfAsk
import Derived.Test.YtoaooblodgejdaaDoorRjJ
import Derived.Test.YtoaooblodgejdaaDoorLentQ
import Derived.Test.YtoaooblodgejdaaDoorLentN
import Derived.Test.YtoaooblodgejdaaDoorPlnB
import Derived.Test.YtoaooblodgejdaaDoorNatE
import Derived.Test.YtoaooblodgejdaaDoorMst
import Derived.Deep.RegionHeld3
import Derived.Deep.Cut
import Derived.Deep.QuietTactic
import Derived.BigQuiet
namespace Go.Proofs.YtoaooblodgejdaaDoor
open Go.RowKit
set_option linter.unusedVariables false
set_option maxRecDepth 100000

set_option maxHeartbeats 4000000 in
theorem found_none (W : World) : Calls Tryd.prog 38 #[fndV 0 0 0 none 0 0 none 0 0] W fun e w' => e = .returned (.bool true) ∧ Below W.heap.size W w' := by
  go_enter Tryd.func38, Tryd.ntmps38
  go_wp2
  go_ret
  exact ⟨rfl, balloc (bnil W) _⟩
set_option maxHeartbeats 4000000 in
theorem enough_any (w h M EN : Nat) (a : Option Addr) (n c : Nat) (W : World) (w8 : w ≤ 8) (h4 : h ≤ 4) (hM : 4 * 2 ^ h = M) (hEN : w * M * M * M = EN) :
    Calls Tryd.prog 39 #[patV w h a n c] W fun e w' => e = .returned (.int .i64 (EN : Nat)) ∧ Below W.heap.size W w' := by
  have hm64 := (m_le h4).1
  rw [hM] at hm64
  have c_m := fun W => most24_any h h4 W
  simp only [hM] at c_m
  have HMO := Lib.hid c_m
  have hb : Below W.heap.size W (W.alloc (.cells #[.int .i64 (w : Nat), .int .i64 (h : Nat), .slice a n c] 24)) := balloc (bnil W) _
  obtain ⟨P1, hP1⟩ : ∃ P1, w * M = P1 := ⟨_, rfl⟩
  obtain ⟨P2, hP2⟩ : ∃ P2, P1 * M = P2 := ⟨_, rfl⟩
  rw [hP1, hP2] at hEN
  have b1 : P1 ≤ 512 := by rw [← hP1]; exact Nat.mul_le_mul w8 hm64
  have b2 : P2 ≤ 32768 := by rw [← hP2]; exact Nat.mul_le_mul b1 hm64
  have b3 : EN ≤ 2097152 := by rw [← hEN]; exact Nat.mul_le_mul b2 hm64
  have e1 : (w : Int) * (M : Int) = (P1 : Int) := by rw [← hP1]; exact (Int.natCast_mul _ _).symm
  have e2 : (P1 : Int) * (M : Int) = (P2 : Int) := by rw [← hP2]; exact (Int.natCast_mul _ _).symm
  have e3 : (P2 : Int) * (M : Int) = (EN : Int) := by rw [← hEN]; exact (Int.natCast_mul _ _).symm
  have x1 : IntKind.i64.wrap (P1 : Int) = (P1 : Int) := IntWalk.i64_in _ (by omega)
  have x2 : IntKind.i64.wrap (P2 : Int) = (P2 : Int) := IntWalk.i64_in _ (by omega)
  have x3 : IntKind.i64.wrap (EN : Int) = (EN : Int) := IntWalk.i64_in _ (by omega)
  clear hP1 hP2 hEN c_m hM hm64 b1 b2 b3
  go_enter Tryd.func39, Tryd.ntmps39
  go_wp2_with fail
  refine (HMO.out _).mono ?_; rintro e w1 ⟨rfl, rfl⟩
  go_wp2
  go_ret
  exact ⟨rfl, hb⟩
instance monoLentN {g n : Nat} {l : List Nat} : Mono (fun w => LentNM w g n l) := ⟨⟨fun hb h => h.up hb⟩⟩
theorem ofN_toNatE : ∀ {l : List Int}, (∀ x ∈ l, 0 ≤ x ∧ x ≤ 4294967295) → ofN (l.map Int.toNat) = l ∧ U32 (l.map Int.toNat)
  | [], _ => ⟨rfl, nofun⟩
  | x :: r, h => by
    obtain ⟨e, u⟩ := ofN_toNatE (l := r) fun y hy => h y (List.mem_cons_of_mem _ hy)
    have hx := h x (List.mem_cons_self ..)
    refine ⟨?_, fun y hy => ?_⟩
    · have e1 : ((x.toNat : Nat) : Int) = x := by omega
      have e2 : ofN ((x :: r).map Int.toNat) = ((x.toNat : Nat) : Int) :: ofN (r.map Int.toNat) := rfl
      rw [e2, e1, e]
    · rw [List.map_cons] at hy
      rcases List.mem_cons.1 hy with rfl | hy
      · show x.toNat < 4294967296
        omega
      · exact u y hy
theorem nr_rowE {W : World} {aB : Option Addr} {bs : List Int} (hR2 : Rd W aB bs.length 1 (bs.map (Value.int .u32))) (hx2 : ∀ x ∈ bs, 0 ≤ x ∧ x ≤ 4294967295) : NR W aB bs.length (bs.map Int.toNat) := by
  obtain ⟨e, u⟩ := ofN_toNatE hx2
  exact ⟨by rw [e]; exact ⟨rfl, hR2⟩, u⟩
theorem tries_cmp {V T : Nat} (h : T ≤ granted V) : ¬ 0 < cmpN T V := by
  unfold granted at h
  unfold cmpN
  split
  · decide
  · have : ¬ V < T := by split at h <;> omega
    rw [if_neg this]; decide
theorem lack_cmp {V E : Nat} (hE : E ≤ 2097152) (h : granted V < E) : cmpN V E < 0 := by
  unfold granted at h
  unfold cmpN
  rw [if_pos (by split at h <;> omega)]; decide
theorem u64E (n : Nat) (h : n ≤ 2097152) : IntKind.u64.wrap (n : Int) = (n : Int) := by
  show ((n : Int) % 18446744073709551616) = _
  omega
set_option maxHeartbeats 32000000 in
theorem eve_tells (w h : Int) (a aT aB : Option Addr) (n c nT cT nB cB : Nat) (l t : List Int) (lb : List Nat) (W : World) (R : Nat → Addr) (hE : Env W R) (hR : SlI W a n c l) (hx : I64 l) (hT : RK .i64 W aT nT t) (h8T : nT * 8 ≤ 140737488351232) (hL : NR W aB nB lb) (hBc : nB ≤ cB) (hBm : cB ≤ maxLen) :
    Calls Tryd.prog 7 #[.slice aT nT cT, patV w h a n c, .slice aB nB cB] W (TrueBelow W) := by
  have HI6 := Lib.hid hx
  have hm := hR.nm
  have h8 := hR.n8
  have hmT : nT ≤ maxLen := by unfold maxLen; omega
  have hmT2 : nT + 2 ≤ maxLen := by unfold maxLen; omega
  have hm2 : n + 2 ≤ maxLen := by unfold maxLen; omega
  have T0 := Tk.nil W
  have T1 := T0.add (fun wv => Below W.heap.size W wv) (bnil W)
  clear T0
  have T2 := T1.add (fun wv => Env wv R) (hE)
  clear T1
  have T3 := T2.add (fun wv => SlI wv a n c l) (hR)
  clear T2
  have T4 := T3.add (fun wv => RK .i64 wv aT nT t) (hT)
  clear T3
  have T5 := T4.add (fun wv => NR wv aB nB lb) (hL)
  clear T4
  clear hE hR hx hT hL
  cases hed : evD t w h l with
  | some d =>
    have HED := Lib.hid hed
    clear hed
    obtain ⟨Wb, hWb⟩ : ∃ Wb, W.alloc (.cells #[.int .i64 w, .int .i64 h, .slice a n c] 24) = Wb := ⟨_, rfl⟩
    have hbWb : Below W.heap.size W Wb := by rw [← hWb]; exact balloc (bnil W) _
    have T6 := T5.up hbWb
    clear T5
    have T7 := T6.add (fun wv => wv.cell? ⟨W.heap.size, 0, none⟩ = some (.int .i64 w) ∧ wv.cell? ⟨W.heap.size, 1, none⟩ = some (.int .i64 h) ∧ wv.cell? ⟨W.heap.size, 2, none⟩ = some (.slice a n c)) (by rw [← hWb]; exact ⟨cnw (by simp) rfl, cnw (by simp) rfl, cnw (by simp) rfl⟩)
    clear T6
    have HWb := Lib.hid hWb
    clear hWb hbWb
    go_enter Tryd.func7, Tryd.ntmps7
    go_wp2_with fail
    rw [HWb.out]
    refine (awake25_any Wb R (T7.out.1.1.1.1.2).sent).mono ?_; rintro e w0 ⟨rfl, hbw0⟩
    have T8 := T7.up hbw0
    clear T7
    have v_p0 : w0.cell? ⟨W.heap.size, 0, none⟩ = some (.int .i64 w) := T8.out.2.1
    have v_p1 : w0.cell? ⟨W.heap.size, 1, none⟩ = some (.int .i64 h) := T8.out.2.2.1
    have v_p2 : w0.cell? ⟨W.heap.size, 2, none⟩ = some (.slice a n c) := T8.out.2.2.2
    go_wp2_with fail
    refine (great_any w h a n c w0).mono ?_; rintro e w1 ⟨b, rfl, hbw1⟩
    clear v_p0 v_p1 v_p2
    have T9 := T8.up hbw1
    clear T8
    cases b with
    | true =>
      go_wp2
      go_ret
      exact ⟨rfl, T9.out.1.1.1.1.1.2⟩
    | false =>
      by_cases q1 : (100 : Int) < (nB : Int)
      · skip
        go_wp2
        go_ret
        exact ⟨rfl, T9.out.1.1.1.1.1.2⟩
      have hB8 : nB ≤ 100 := by omega
      have hBm2 : nB + 2 ≤ maxLen := by unfold maxLen; omega
      go_wp2_with fail
      refine (lent_ex aT nT cT t w1 T9.out.1.1.2 h8T).mono ?_; rintro e w2 ⟨gt, ct, rfl, rfl, hot, hbw2⟩
      have T10 := T9.up hbw2
      clear T9
      have T11 := T10.add (fun wv => LentM wv gt nT t) (hot.rk)
      clear T10
      clear hot
      have HS0 : Hid (w2.drew.cell? ⟨W.heap.size, 0, none⟩ = some (.int .i64 w) ∧ w2.drew.cell? ⟨W.heap.size, 1, none⟩ = some (.int .i64 h) ∧ w2.drew.cell? ⟨W.heap.size, 2, none⟩ = some (.slice a n c)) := ⟨T11.out.1.2.1, T11.out.1.2.2.1, T11.out.1.2.2.2⟩
      have HS1 : Hid ((w2.alloc (.cells #[.int .i64 0, .int .i64 0, .slice none 0 0] 24)).drew.cell? ⟨W.heap.size, 0, none⟩ = some (.int .i64 w) ∧ (w2.alloc (.cells #[.int .i64 0, .int .i64 0, .slice none 0 0] 24)).drew.cell? ⟨W.heap.size, 1, none⟩ = some (.int .i64 h) ∧ (w2.alloc (.cells #[.int .i64 0, .int .i64 0, .slice none 0 0] 24)).drew.cell? ⟨W.heap.size, 2, none⟩ = some (.slice a n c)) := ⟨al000 (T11.out.1.2.1), al000 (T11.out.1.2.2.1), al000 (T11.out.1.2.2.2)⟩
      have HT0 : Hid (RK .i64 w2.drew a n l) := (T11.out.1.1.1.1.2).rk.up (Below.drew (bnil w2))
      have HZA : Hid ((w2.alloc (.cells #[.int .i64 0, .int .i64 0, .slice none 0 0] 24)).drew.heap[w2.heap.size]? = some (.cells #[.int .i64 0, .int .i64 0, .slice none 0 0] 24)) := heap_alloc_new w2 (.cells #[.int .i64 0, .int .i64 0, .slice none 0 0] 24)
      have HLA : Hid (w2.heap.size < (w2.alloc (.cells #[.int .i64 0, .int .i64 0, .slice none 0 0] 24)).drew.heap.size) := heap_ltT HZA.out
      have HT1 : Hid (RK .i64 (w2.alloc (.cells #[.int .i64 0, .int .i64 0, .slice none 0 0] 24)).drew a n l) := (T11.out.1.1.1.1.2).rk.up (Below.drew (balloc (bnil w2) _))
      have hg1 : W.heap.size ≠ w2.heap.size := by have h1 := World.block_lt_of_cell? _ _ (T11.out.1.2.1); exact Nat.ne_of_lt h1
      go_upto_region 6 with (fail)
      go_cut [8] from 38 (fun s6 wx => ∃ g5 gm : Nat, s6 = .pointer (some ⟨g5, 0, none⟩) ∧ Qx w2 wx g5 gm w h n l)
      case first =>
        go_region_held3 (fun w' => w'.cell? ⟨W.heap.size, 0, none⟩ = some (.int .i64 w) ∧ w'.cell? ⟨W.heap.size, 1, none⟩ = some (.int .i64 h) ∧ w'.cell? ⟨W.heap.size, 2, none⟩ = some (.slice a n c))
          (first | with_reducible exact HS5.out | with_reducible exact HS0.out | with_reducible exact HS1.out | with_reducible exact ⟨al000 HS5.out.1, al000 HS5.out.2.1, al000 HS5.out.2.2⟩ | with_reducible exact ⟨set3_cellP (HS5.out).1 hg1, set3_cellP (HS5.out).2.1 hg1, set3_cellP (HS5.out).2.2 hg1⟩ | go_keep)
          (first
            | (go_at_call 30; (with_reducible refine (lent_ex a n c l _ ?_ h8).mono ?_); (first | with_reducible exact HT0.out | with_reducible exact HT1.out); rintro e w5 ⟨gm, c5, rfl, hc5, ho5, hb5⟩; have HC5 := Lib.hid hc5; have HO5 := Lib.hid ho5; have HD5 := Lib.hid hb5; (first | ((with_reducible have HS5 := Lib.hid (And.intro (cpa hb5 (HS0.out).1) (And.intro (cpa hb5 (HS0.out).2.1) (cpa hb5 (HS0.out).2.2)))); have hz5 := heap_alloc_new w5 (.cells #[.int .i64 0, .int .i64 0, .slice none 0 0] 24); have HZ5 := Lib.hid hz5; obtain ⟨⟨c0, c1', c2'⟩, f0, f1, f2⟩ := p_cells hz5; clear hz5) | ((with_reducible have HS5 := Lib.hid (And.intro (cpa hb5 (HS1.out).1) (And.intro (cpa hb5 (HS1.out).2.1) (cpa hb5 (HS1.out).2.2)))); have hz5 := (HD5.out.block _ HLA.out).trans HZA.out; have HZ5 := Lib.hid hz5; obtain ⟨⟨c0, c1', c2'⟩, f0, f1, f2⟩ := p_cells hz5; clear hz5)); clear ho5 hb5 hc5))
        all_goals
          have hc5 := HC5.out
          subst hc5
          obtain ⟨wg, g5, hwg, hg5, hbx⟩ : ∃ wg g5, _ = wg ∧ _ = g5 ∧ Qx w2 wg g5 gm w h n l := by
            first
              | exact ⟨_, _, rfl, rfl, qx_new HO5.out HD5.out _ _⟩
              | exact ⟨_, _, rfl, rfl, qx_old HO5.out HD5.out HZ5.out _ _⟩
          rw [hwg, hg5]
          go_wp2_with fail
          go_meet
          exact ⟨g5, gm, rfl, hbx⟩
      case rest =>
        obtain ⟨g5, gm, rfl, hqx⟩ := hcut
        clear HS0 HS1 HT0 HZA HLA HT1 hg1
        have hbq := hqx.bl
        have hqz := hqx.hz
        have hql := hqx.lm
        clear hqx
        generalize wc = w3 at *
        have T12 := T11.up hbq
        clear T11
        have T13 := T12.add (fun wv => wv.cell? ⟨g5, 0, none⟩ = some (.int .i64 w) ∧ wv.cell? ⟨g5, 1, none⟩ = some (.int .i64 h) ∧ wv.cell? ⟨g5, 2, none⟩ = some (.slice (some ⟨gm, 0, none⟩) n (n + 2))) ((p_cells hqz).1)
        clear T12
        have T14 := T13.add (fun wv => LentM wv gm n l) (hql)
        clear T13
        clear hqz hql hbq
        go_wp2_with fail
        refine (lentN_ex aB nB cB lb w3 T14.out.1.1.1.1.2 (by omega)).mono ?_; rintro e w6 ⟨gb, cb, rfl, rfl, hob, hbw6⟩
        have T15 := T14.up hbw6
        clear T14
        have T16 := T15.add (fun wv => LentNM wv gb nB lb) (hob)
        clear T15
        clear hob
        have v_q0 : w6.cell? ⟨g5, 0, none⟩ = some (.int .i64 w) := T16.out.1.1.2.1
        have v_q1 : w6.cell? ⟨g5, 1, none⟩ = some (.int .i64 h) := T16.out.1.1.2.2.1
        have v_q2 : w6.cell? ⟨g5, 2, none⟩ = some (.slice (some ⟨gm, 0, none⟩) n (n + 2)) := T16.out.1.1.2.2.2
        go_wp2_with fail
        refine (evsearch_er w h (some ⟨gm, 0, none⟩) (some ⟨gt, 0, none⟩) n (n + 2) nT (nT + 2) l t w6 R (T16.out.1.1.1.1.1.1.1.1.2).sent ((T16.out.1.2).sl h8).rk hm HI6.out ((T16.out.1.1.1.2).sl h8T).rk hmT d HED.out (some ⟨gb, 0, none⟩) nB (nB + 2)).mono ?_; rintro e w7 ⟨t8, p8, rfl, he8, hbw7⟩
        clear v_q0 v_q1 v_q2
        have T17 := T16.up hbw7
        clear T16
        obtain ⟨ev8, hev8⟩ : ∃ ev8, Value.iface t8 p8 = ev8 := ⟨_, rfl⟩
        rw [hev8] at he8 ⊢
        clear hev8
        have T18 := T17.add (fun wv => EC R wv ev8 (some d)) (he8)
        clear T17
        clear he8
        obtain ⟨w8, hw8⟩ : ∃ w8, w7.alloc (.cells #[.int .i64 0, .int .i64 0, .int .i64 0, .slice none 0 0, .slice none 0 0] 28) = w8 := ⟨_, rfl⟩
        have hbw8 : Below w7.heap.size w7 w8 := by rw [← hw8]; exact balloc (bnil w7) _
        have T19 := T18.up hbw8
        clear T18
        have T20 := T19.add (fun wv => wv.cell? ⟨w7.heap.size, 0, none⟩ = some (.int .i64 0) ∧ wv.cell? ⟨w7.heap.size, 1, none⟩ = some (.int .i64 0) ∧ wv.cell? ⟨w7.heap.size, 2, none⟩ = some (.int .i64 0) ∧ wv.cell? ⟨w7.heap.size, 3, none⟩ = some (.slice none 0 0) ∧ wv.cell? ⟨w7.heap.size, 4, none⟩ = some (.slice none 0 0)) (by rw [← hw8]; exact ⟨cnw (by simp) rfl, cnw (by simp) rfl, cnw (by simp) rfl, cnw (by simp) rfl, cnw (by simp) rfl⟩)
        clear T19
        have Hw8 := Lib.hid hw8
        clear hw8 hbw8
        have v_p0 : (w7.alloc (.cells #[.int .i64 0, .int .i64 0, .int .i64 0, .slice none 0 0, .slice none 0 0] 28)).cell? ⟨W.heap.size, 0, none⟩ = some (.int .i64 w) := by rw [Hw8.out]; exact T20.out.1.1.1.1.1.1.2.1
        have v_p1 : (w7.alloc (.cells #[.int .i64 0, .int .i64 0, .int .i64 0, .slice none 0 0, .slice none 0 0] 28)).cell? ⟨W.heap.size, 1, none⟩ = some (.int .i64 h) := by rw [Hw8.out]; exact T20.out.1.1.1.1.1.1.2.2.1
        have v_p2 : (w7.alloc (.cells #[.int .i64 0, .int .i64 0, .int .i64 0, .slice none 0 0, .slice none 0 0] 28)).cell? ⟨W.heap.size, 2, none⟩ = some (.slice a n c) := by rw [Hw8.out]; exact T20.out.1.1.1.1.1.1.2.2.2
        go_wp2_with fail
        rw [Hw8.out]
        refine (refasked_any w h a aT n c nT cT l t w8 (T20.out.1.1.1.1.1.1.1.1.1.2).rk hm T20.out.1.1.1.1.1.1.1.1.2 hmT).mono ?_; rintro e wa ⟨N6, a61, n61, c61, a62, n62, c62, rfl, hw6, hn6, _, _, hbwa⟩
        clear v_p0 v_p1 v_p2
        have T21 := T20.up hbwa
        clear T20
        rw [HED.out] at hw6 hn6
        have HN6 : Hid ((N6 != 0) = true) := hn6
        have T22 := T21.add (fun wv => WC wv (.agg #[.int .i64 N6, .slice a61 n61 c61, .slice a62 n62 c62]) (some d)) (hw6)
        clear T21
        clear hw6 hn6
        obtain ⟨wb, hwb⟩ : ∃ wb, wa.alloc (.cells #[.int .i64 N6, .slice a61 n61 c61, .slice a62 n62 c62] 60) = wb := ⟨_, rfl⟩
        have hbwb : Below wa.heap.size wa wb := by rw [← hwb]; exact balloc (bnil wa) _
        have T23 := T22.up hbwb
        clear T22
        have T24 := T23.add (fun wv => wv.cell? ⟨wa.heap.size, 0, none⟩ = some (.int .i64 N6) ∧ wv.cell? ⟨wa.heap.size, 1, none⟩ = some (.slice a61 n61 c61) ∧ wv.cell? ⟨wa.heap.size, 2, none⟩ = some (.slice a62 n62 c62)) (by rw [← hwb]; exact ⟨cnw (by simp) rfl, cnw (by simp) rfl, cnw (by simp) rfl⟩)
        clear T23
        have Hwb := Lib.hid hwb
        clear hwb hbwb
        go_wp2_with fail
        rw [Hwb.out]
        refine (kept_any gt nT (nT + 2) cT aT t wb T24.out.1.1.1.1.1.1.1.2 (Nat.le_refl _) hmT2 T24.out.1.1.1.1.1.1.1.1.1.1.2 h8T).mono ?_; rintro e wc ⟨rfl, hbwc⟩
        have T25 := T24.up hbwc
        clear T24
        have v_p0 : wc.cell? ⟨W.heap.size, 0, none⟩ = some (.int .i64 w) := T25.out.1.1.1.1.1.1.1.1.2.1
        have v_p1 : wc.cell? ⟨W.heap.size, 1, none⟩ = some (.int .i64 h) := T25.out.1.1.1.1.1.1.1.1.2.2.1
        have v_p2 : wc.cell? ⟨W.heap.size, 2, none⟩ = some (.slice a n c) := T25.out.1.1.1.1.1.1.1.1.2.2.2
        have v_q0 : wc.cell? ⟨g5, 0, none⟩ = some (.int .i64 w) := T25.out.1.1.1.1.1.1.2.1
        have v_q1 : wc.cell? ⟨g5, 1, none⟩ = some (.int .i64 h) := T25.out.1.1.1.1.1.1.2.2.1
        have v_q2 : wc.cell? ⟨g5, 2, none⟩ = some (.slice (some ⟨gm, 0, none⟩) n (n + 2)) := T25.out.1.1.1.1.1.1.2.2.2
        go_wp2_with fail
        refine (kept_any gm n (n + 2) c a l wc T25.out.1.1.1.1.1.2 (Nat.le_refl _) hm2 (T25.out.1.1.1.1.1.1.1.1.1.1.1.2).rk h8).mono ?_; rintro e wd ⟨rfl, hbwd⟩
        clear v_p0 v_p1 v_p2 v_q0 v_q1 v_q2
        have T26 := T25.up hbwd
        clear T25
        go_wp2_with fail
        refine (keptN_ex gb nB (nB + 2) cB aB lb wd T26.out.1.1.1.1.2 (Nat.le_refl _) hBm2 T26.out.1.1.1.1.1.1.1.1.1.2 (by omega)).mono ?_; rintro e we ⟨rfl, hbwe⟩
        have T27 := T26.up hbwe
        clear T26
        have v_g0 : we.cell? ⟨wa.heap.size, 0, none⟩ = some (.int .i64 N6) := T27.out.2.1
        have v_g1 : we.cell? ⟨wa.heap.size, 1, none⟩ = some (.slice a61 n61 c61) := T27.out.2.2.1
        have v_g2 : we.cell? ⟨wa.heap.size, 2, none⟩ = some (.slice a62 n62 c62) := T27.out.2.2.2
        go_wp2_with fail
        refine (refBadE _ _ _ we true HN6.out).mono ?_; rintro e wf ⟨rfl, hbwf⟩
        clear v_g0 v_g1 v_g2
        have T28 := T27.up hbwf
        clear T27
        have v_g0 : wf.cell? ⟨wa.heap.size, 0, none⟩ = some (.int .i64 N6) := T28.out.2.1
        have v_g1 : wf.cell? ⟨wa.heap.size, 1, none⟩ = some (.slice a61 n61 c61) := T28.out.2.2.1
        have v_g2 : wf.cell? ⟨wa.heap.size, 2, none⟩ = some (.slice a62 n62 c62) := T28.out.2.2.2
        go_wp2_with fail
        refine (rawIs_ch ev8 (.agg #[.int .i64 N6, .slice a61 n61 c61, .slice a62 n62 c62]) (some d) wf R T28.out.1.1.1.1.1.1.1.1.1.1.1.1.2 T28.out.1.1.1.2 T28.out.1.2).mono ?_; rintro e wg ⟨rfl, hbwg⟩
        clear v_g0 v_g1 v_g2
        have T29 := T28.up hbwg
        clear T28
        have v_f0 : wg.cell? ⟨w7.heap.size, 0, none⟩ = some (.int .i64 0) := T29.out.1.1.2.1
        have v_f1 : wg.cell? ⟨w7.heap.size, 1, none⟩ = some (.int .i64 0) := T29.out.1.1.2.2.1
        have v_f2 : wg.cell? ⟨w7.heap.size, 2, none⟩ = some (.int .i64 0) := T29.out.1.1.2.2.2.1
        have v_f3 : wg.cell? ⟨w7.heap.size, 3, none⟩ = some (.slice none 0 0) := T29.out.1.1.2.2.2.2.1
        have v_f4 : wg.cell? ⟨w7.heap.size, 4, none⟩ = some (.slice none 0 0) := T29.out.1.1.2.2.2.2.2
        go_wp2_with fail
        refine (found_none wg).mono ?_; rintro e wh ⟨rfl, hbwh⟩
        clear v_f0 v_f1 v_f2 v_f3 v_f4
        have T30 := T29.up hbwh
        clear T29
        go_wp2
        go_ret
        exact ⟨rfl, T30.out.1.1.1.1.1.1.1.1.1.1.1.1.1.2⟩
  | none =>
    obtain ⟨w, h, rfl, rfl, hpp, htb, hw8, hh4⟩ := evD_none hed
    have HED := Lib.hid hed
    have HPP := Lib.hid hpp
    have HT := Lib.hid htb
    have w1' := hpp.w1
    have h1' := hpp.h1
    obtain ⟨V, hV⟩ : ∃ V, val lb = V := ⟨_, rfl⟩
    have hse := seek_end htb hpp hw8 hh4 (granted V)
    have hb3 := (enough_le hw8 hh4).2
    have c_s := fun gm gt gb W R hS hR hT hL => evsearch_ok w h (some ⟨gm, 0, none⟩) n (n + 2) gt 0 (512 + 2) l t (some ⟨gb, 0, none⟩) nB (nB + 2) lb W R hS hR hm HI6.out hT hL (by omega)
    rw [hV] at c_s
    have hsz : V = 0 → (seekF t (colL w h l) h (4 * 2 ^ h) w (granted V)).2 = none := fun e => by
      rw [e]
      exact seek_zero (m_le hh4).2 w1'
    obtain ⟨X, hX⟩ : ∃ X, seekF t (colL w h l) h (4 * 2 ^ h) w (granted V) = X := ⟨_, rfl⟩
    simp only [hX] at c_s
    rw [hX] at hse hsz
    obtain ⟨S, o⟩ := X
    obtain ⟨M, hM⟩ : ∃ M, 4 * 2 ^ h = M := ⟨_, rfl⟩
    obtain ⟨EN, hEN⟩ : ∃ EN, w * M * M * M = EN := ⟨_, rfl⟩
    have c_e := fun W => enough_any w h M EN a n c W hw8 hh4 hM hEN
    obtain ⟨T, hTT⟩ : ∃ T, S.tries = T := ⟨_, rfl⟩
    have htl := hse.tl
    have hte := hse.te
    have her := hse.err
    rw [hTT] at htl hte
    rw [hM, hEN] at hte her hb3
    have htc := tries_cmp htl
    have i1 : ¬ (T : Int) < 0 := by omega
    have i2 : ¬ (EN : Int) < (T : Int) := by omega
    have u1 := u64E T (by omega)
    have u2 := u64E EN hb3
    have HCS := Lib.hid c_s
    have HSE := Lib.hid hse
    have HSZ0 := Lib.hid hsz
    have HCE := Lib.hid c_e
    have HTT := Lib.hid hTT
    have HER := Lib.hid her
    have HV := Lib.hid hV
    have HB3 := Lib.hid hb3
    have hT64 : T < 18446744073709551616 := by omega
    have hE64 : EN < 18446744073709551616 := by omega
    clear hpp htb hse hsz c_s c_e hX hed hTT hM hEN htl hte her hV hb3
    obtain rfl : nT = 512 := (T5.out.1.2).len.trans HT.out.len
    obtain ⟨Wb, hWb⟩ : ∃ Wb, W.alloc (.cells #[.int .i64 w, .int .i64 h, .slice a n c] 24) = Wb := ⟨_, rfl⟩
    have hbWb : Below W.heap.size W Wb := by rw [← hWb]; exact balloc (bnil W) _
    have T6 := T5.up hbWb
    clear T5
    have T7 := T6.add (fun wv => wv.cell? ⟨W.heap.size, 0, none⟩ = some (.int .i64 w) ∧ wv.cell? ⟨W.heap.size, 1, none⟩ = some (.int .i64 h) ∧ wv.cell? ⟨W.heap.size, 2, none⟩ = some (.slice a n c)) (by rw [← hWb]; exact ⟨cnw (by simp) rfl, cnw (by simp) rfl, cnw (by simp) rfl⟩)
    clear T6
    have HWb := Lib.hid hWb
    clear hWb hbWb
    go_enter Tryd.func7, Tryd.ntmps7
    go_wp2_with fail
    rw [HWb.out]
    refine (awake25_any Wb R (T7.out.1.1.1.1.2).sent).mono ?_; rintro e w0 ⟨rfl, hbw0⟩
    have T8 := T7.up hbw0
    clear T7
    have v_p0 : w0.cell? ⟨W.heap.size, 0, none⟩ = some (.int .i64 w) := T8.out.2.1
    have v_p1 : w0.cell? ⟨W.heap.size, 1, none⟩ = some (.int .i64 h) := T8.out.2.2.1
    have v_p2 : w0.cell? ⟨W.heap.size, 2, none⟩ = some (.slice a n c) := T8.out.2.2.2
    go_wp2_with fail
    refine (great_any w h a n c w0).mono ?_; rintro e w1 ⟨b, rfl, hbw1⟩
    clear v_p0 v_p1 v_p2
    have T9 := T8.up hbw1
    clear T8
    cases b with
    | true =>
      go_wp2
      go_ret
      exact ⟨rfl, T9.out.1.1.1.1.1.2⟩
    | false =>
      by_cases q1 : (100 : Int) < (nB : Int)
      · skip
        go_wp2
        go_ret
        exact ⟨rfl, T9.out.1.1.1.1.1.2⟩
      have hB8 : nB ≤ 100 := by omega
      have hBm2 : nB + 2 ≤ maxLen := by unfold maxLen; omega
      go_wp2_with fail
      refine (lent_ex aT 512 cT t w1 T9.out.1.1.2 h8T).mono ?_; rintro e w2 ⟨gt, ct, rfl, rfl, hot, hbw2⟩
      have T10 := T9.up hbw2
      clear T9
      have T11 := T10.add (fun wv => LentM wv gt 512 t) (hot.rk)
      clear T10
      clear hot
      have HS0 : Hid (w2.drew.cell? ⟨W.heap.size, 0, none⟩ = some (.int .i64 w) ∧ w2.drew.cell? ⟨W.heap.size, 1, none⟩ = some (.int .i64 h) ∧ w2.drew.cell? ⟨W.heap.size, 2, none⟩ = some (.slice a n c)) := ⟨T11.out.1.2.1, T11.out.1.2.2.1, T11.out.1.2.2.2⟩
      have HS1 : Hid ((w2.alloc (.cells #[.int .i64 0, .int .i64 0, .slice none 0 0] 24)).drew.cell? ⟨W.heap.size, 0, none⟩ = some (.int .i64 w) ∧ (w2.alloc (.cells #[.int .i64 0, .int .i64 0, .slice none 0 0] 24)).drew.cell? ⟨W.heap.size, 1, none⟩ = some (.int .i64 h) ∧ (w2.alloc (.cells #[.int .i64 0, .int .i64 0, .slice none 0 0] 24)).drew.cell? ⟨W.heap.size, 2, none⟩ = some (.slice a n c)) := ⟨al000 (T11.out.1.2.1), al000 (T11.out.1.2.2.1), al000 (T11.out.1.2.2.2)⟩
      have HT0 : Hid (RK .i64 w2.drew a n l) := (T11.out.1.1.1.1.2).rk.up (Below.drew (bnil w2))
      have HZA : Hid ((w2.alloc (.cells #[.int .i64 0, .int .i64 0, .slice none 0 0] 24)).drew.heap[w2.heap.size]? = some (.cells #[.int .i64 0, .int .i64 0, .slice none 0 0] 24)) := heap_alloc_new w2 (.cells #[.int .i64 0, .int .i64 0, .slice none 0 0] 24)
      have HLA : Hid (w2.heap.size < (w2.alloc (.cells #[.int .i64 0, .int .i64 0, .slice none 0 0] 24)).drew.heap.size) := heap_ltT HZA.out
      have HT1 : Hid (RK .i64 (w2.alloc (.cells #[.int .i64 0, .int .i64 0, .slice none 0 0] 24)).drew a n l) := (T11.out.1.1.1.1.2).rk.up (Below.drew (balloc (bnil w2) _))
      have hg1 : W.heap.size ≠ w2.heap.size := by have h1 := World.block_lt_of_cell? _ _ (T11.out.1.2.1); exact Nat.ne_of_lt h1
      go_upto_region 6 with (fail)
      go_cut [8] from 38 (fun s6 wx => ∃ g5 gm : Nat, s6 = .pointer (some ⟨g5, 0, none⟩) ∧ Qx w2 wx g5 gm w h n l)
      case first =>
        go_region_held3 (fun w' => w'.cell? ⟨W.heap.size, 0, none⟩ = some (.int .i64 w) ∧ w'.cell? ⟨W.heap.size, 1, none⟩ = some (.int .i64 h) ∧ w'.cell? ⟨W.heap.size, 2, none⟩ = some (.slice a n c))
          (first | with_reducible exact HS5.out | with_reducible exact HS0.out | with_reducible exact HS1.out | with_reducible exact ⟨al000 HS5.out.1, al000 HS5.out.2.1, al000 HS5.out.2.2⟩ | with_reducible exact ⟨set3_cellP (HS5.out).1 hg1, set3_cellP (HS5.out).2.1 hg1, set3_cellP (HS5.out).2.2 hg1⟩ | go_keep)
          (first
            | (go_at_call 30; (with_reducible refine (lent_ex a n c l _ ?_ h8).mono ?_); (first | with_reducible exact HT0.out | with_reducible exact HT1.out); rintro e w5 ⟨gm, c5, rfl, hc5, ho5, hb5⟩; have HC5 := Lib.hid hc5; have HO5 := Lib.hid ho5; have HD5 := Lib.hid hb5; (first | ((with_reducible have HS5 := Lib.hid (And.intro (cpa hb5 (HS0.out).1) (And.intro (cpa hb5 (HS0.out).2.1) (cpa hb5 (HS0.out).2.2)))); have hz5 := heap_alloc_new w5 (.cells #[.int .i64 0, .int .i64 0, .slice none 0 0] 24); have HZ5 := Lib.hid hz5; obtain ⟨⟨c0, c1', c2'⟩, f0, f1, f2⟩ := p_cells hz5; clear hz5) | ((with_reducible have HS5 := Lib.hid (And.intro (cpa hb5 (HS1.out).1) (And.intro (cpa hb5 (HS1.out).2.1) (cpa hb5 (HS1.out).2.2)))); have hz5 := (HD5.out.block _ HLA.out).trans HZA.out; have HZ5 := Lib.hid hz5; obtain ⟨⟨c0, c1', c2'⟩, f0, f1, f2⟩ := p_cells hz5; clear hz5)); clear ho5 hb5 hc5))
        all_goals
          have hc5 := HC5.out
          subst hc5
          obtain ⟨wg, g5, hwg, hg5, hbx⟩ : ∃ wg g5, _ = wg ∧ _ = g5 ∧ Qx w2 wg g5 gm w h n l := by
            first
              | exact ⟨_, _, rfl, rfl, qx_new HO5.out HD5.out _ _⟩
              | exact ⟨_, _, rfl, rfl, qx_old HO5.out HD5.out HZ5.out _ _⟩
          rw [hwg, hg5]
          go_wp2_with fail
          go_meet
          exact ⟨g5, gm, rfl, hbx⟩
      case rest =>
        obtain ⟨g5, gm, rfl, hqx⟩ := hcut
        clear HS0 HS1 HT0 HZA HLA HT1 hg1
        have hbq := hqx.bl
        have hqz := hqx.hz
        have hql := hqx.lm
        clear hqx
        generalize wc = w3 at *
        have T12 := T11.up hbq
        clear T11
        have T13 := T12.add (fun wv => wv.cell? ⟨g5, 0, none⟩ = some (.int .i64 w) ∧ wv.cell? ⟨g5, 1, none⟩ = some (.int .i64 h) ∧ wv.cell? ⟨g5, 2, none⟩ = some (.slice (some ⟨gm, 0, none⟩) n (n + 2))) ((p_cells hqz).1)
        clear T12
        have T14 := T13.add (fun wv => LentM wv gm n l) (hql)
        clear T13
        clear hqz hql hbq
        go_wp2_with fail
        refine (lentN_ex aB nB cB lb w3 T14.out.1.1.1.1.2 (by omega)).mono ?_; rintro e w6 ⟨gb, cb, rfl, rfl, hob, hbw6⟩
        have T15 := T14.up hbw6
        clear T14
        have T16 := T15.add (fun wv => LentNM wv gb nB lb) (hob)
        clear T15
        clear hob
        have v_q0 : w6.cell? ⟨g5, 0, none⟩ = some (.int .i64 w) := T16.out.1.1.2.1
        have v_q1 : w6.cell? ⟨g5, 1, none⟩ = some (.int .i64 h) := T16.out.1.1.2.2.1
        have v_q2 : w6.cell? ⟨g5, 2, none⟩ = some (.slice (some ⟨gm, 0, none⟩) n (n + 2)) := T16.out.1.1.2.2.2
        go_wp2_with fail
        refine (HCS.out gm gt gb w6 R (T16.out.1.1.1.1.1.1.1.1.2).sent ((T16.out.1.2).sl h8).rk ((T16.out.1.1.1.2).sl h8T).rk (T16.out.2).nr hBm2 HT.out HPP.out hw8 hh4).mono ?_; rintro e w7 ⟨vf, ev8, rfl, hbw7, hq⟩
        clear v_q0 v_q1 v_q2
        have T17 := T16.up hbw7
        clear T16
        rw [HTT.out]
        cases o with
        | none =>
          obtain ⟨rfl, he⟩ : vf = fndV 0 0 0 none 0 0 none 0 0 ∧ EC R w7 ev8 (some ([(opEve, 2)], 5)) := hq
          obtain ⟨t9, p9, rfl⟩ := Chain.iface he
          have hlack : cmpN V EN < 0 := lack_cmp HB3.out (HER.out rfl).2
          have T18 := T17.add (fun wv => EC R wv (.iface t9 (.pointer (some p9))) (some ([(opEve, 2)], 5))) (he)
          clear T17
          clear he
          obtain ⟨w8, hw8⟩ : ∃ w8, w7.alloc (.cells #[.int .i64 0, .int .i64 0, .int .i64 0, .slice none 0 0, .slice none 0 0] 28) = w8 := ⟨_, rfl⟩
          have hbw8 : Below w7.heap.size w7 w8 := by rw [← hw8]; exact balloc (bnil w7) _
          have T19 := T18.up hbw8
          clear T18
          have T20 := T19.add (fun wv => wv.cell? ⟨w7.heap.size, 0, none⟩ = some (.int .i64 0) ∧ wv.cell? ⟨w7.heap.size, 1, none⟩ = some (.int .i64 0) ∧ wv.cell? ⟨w7.heap.size, 2, none⟩ = some (.int .i64 0) ∧ wv.cell? ⟨w7.heap.size, 3, none⟩ = some (.slice none 0 0) ∧ wv.cell? ⟨w7.heap.size, 4, none⟩ = some (.slice none 0 0)) (by rw [← hw8]; exact ⟨cnw (by simp) rfl, cnw (by simp) rfl, cnw (by simp) rfl, cnw (by simp) rfl, cnw (by simp) rfl⟩)
          clear T19
          have Hw8 := Lib.hid hw8
          clear hw8 hbw8
          have v_p0 : (w7.alloc (.cells #[.int .i64 0, .int .i64 0, .int .i64 0, .slice none 0 0, .slice none 0 0] 28)).cell? ⟨W.heap.size, 0, none⟩ = some (.int .i64 w) := by rw [Hw8.out]; exact T20.out.1.1.1.1.1.1.2.1
          have v_p1 : (w7.alloc (.cells #[.int .i64 0, .int .i64 0, .int .i64 0, .slice none 0 0, .slice none 0 0] 28)).cell? ⟨W.heap.size, 1, none⟩ = some (.int .i64 h) := by rw [Hw8.out]; exact T20.out.1.1.1.1.1.1.2.2.1
          have v_p2 : (w7.alloc (.cells #[.int .i64 0, .int .i64 0, .int .i64 0, .slice none 0 0, .slice none 0 0] 28)).cell? ⟨W.heap.size, 2, none⟩ = some (.slice a n c) := by rw [Hw8.out]; exact T20.out.1.1.1.1.1.1.2.2.2
          go_wp2_with fail
          rw [Hw8.out]
          refine (refasked_any w h a aT n c 512 cT l t w8 (T20.out.1.1.1.1.1.1.1.1.1.2).rk hm T20.out.1.1.1.1.1.1.1.1.2 hmT).mono ?_; rintro e wa ⟨N6, a61, n61, c61, a62, n62, c62, rfl, hw6, hn6, _, _, hbwa⟩
          clear v_p0 v_p1 v_p2
          have T21 := T20.up hbwa
          clear T20
          rw [HED.out] at hw6 hn6
          have HN6 : Hid ((N6 != 0) = false) := hn6
          have T22 := T21.add (fun wv => WC wv (.agg #[.int .i64 N6, .slice a61 n61 c61, .slice a62 n62 c62]) none) (hw6)
          clear T21
          clear hw6 hn6
          obtain ⟨wb, hwb⟩ : ∃ wb, wa.alloc (.cells #[.int .i64 N6, .slice a61 n61 c61, .slice a62 n62 c62] 60) = wb := ⟨_, rfl⟩
          have hbwb : Below wa.heap.size wa wb := by rw [← hwb]; exact balloc (bnil wa) _
          have T23 := T22.up hbwb
          clear T22
          have T24 := T23.add (fun wv => wv.cell? ⟨wa.heap.size, 0, none⟩ = some (.int .i64 N6) ∧ wv.cell? ⟨wa.heap.size, 1, none⟩ = some (.slice a61 n61 c61) ∧ wv.cell? ⟨wa.heap.size, 2, none⟩ = some (.slice a62 n62 c62)) (by rw [← hwb]; exact ⟨cnw (by simp) rfl, cnw (by simp) rfl, cnw (by simp) rfl⟩)
          clear T23
          have Hwb := Lib.hid hwb
          clear hwb hbwb
          go_wp2_with fail
          rw [Hwb.out]
          refine (kept_any gt 512 (512 + 2) cT aT t wb T24.out.1.1.1.1.1.1.1.2 (Nat.le_refl _) hmT2 T24.out.1.1.1.1.1.1.1.1.1.1.2 h8T).mono ?_; rintro e wc ⟨rfl, hbwc⟩
          have T25 := T24.up hbwc
          clear T24
          have v_p0 : wc.cell? ⟨W.heap.size, 0, none⟩ = some (.int .i64 w) := T25.out.1.1.1.1.1.1.1.1.2.1
          have v_p1 : wc.cell? ⟨W.heap.size, 1, none⟩ = some (.int .i64 h) := T25.out.1.1.1.1.1.1.1.1.2.2.1
          have v_p2 : wc.cell? ⟨W.heap.size, 2, none⟩ = some (.slice a n c) := T25.out.1.1.1.1.1.1.1.1.2.2.2
          have v_q0 : wc.cell? ⟨g5, 0, none⟩ = some (.int .i64 w) := T25.out.1.1.1.1.1.1.2.1
          have v_q1 : wc.cell? ⟨g5, 1, none⟩ = some (.int .i64 h) := T25.out.1.1.1.1.1.1.2.2.1
          have v_q2 : wc.cell? ⟨g5, 2, none⟩ = some (.slice (some ⟨gm, 0, none⟩) n (n + 2)) := T25.out.1.1.1.1.1.1.2.2.2
          go_wp2_with fail
          refine (kept_any gm n (n + 2) c a l wc T25.out.1.1.1.1.1.2 (Nat.le_refl _) hm2 (T25.out.1.1.1.1.1.1.1.1.1.1.1.2).rk h8).mono ?_; rintro e wd ⟨rfl, hbwd⟩
          clear v_p0 v_p1 v_p2 v_q0 v_q1 v_q2
          have T26 := T25.up hbwd
          clear T25
          go_wp2_with fail
          refine (keptN_ex gb nB (nB + 2) cB aB lb wd T26.out.1.1.1.1.2 (Nat.le_refl _) hBm2 T26.out.1.1.1.1.1.1.1.1.1.2 (by omega)).mono ?_; rintro e we ⟨rfl, hbwe⟩
          have T27 := T26.up hbwe
          clear T26
          have v_g0 : we.cell? ⟨wa.heap.size, 0, none⟩ = some (.int .i64 N6) := T27.out.2.1
          have v_g1 : we.cell? ⟨wa.heap.size, 1, none⟩ = some (.slice a61 n61 c61) := T27.out.2.2.1
          have v_g2 : we.cell? ⟨wa.heap.size, 2, none⟩ = some (.slice a62 n62 c62) := T27.out.2.2.2
          go_wp2_with fail
          refine (refBadE _ _ _ we false HN6.out).mono ?_; rintro e wf ⟨rfl, hbwf⟩
          clear v_g0 v_g1 v_g2
          have T28 := T27.up hbwf
          clear T27
          have v_p0 : wf.cell? ⟨W.heap.size, 0, none⟩ = some (.int .i64 w) := T28.out.1.1.1.1.1.1.1.1.2.1
          have v_p1 : wf.cell? ⟨W.heap.size, 1, none⟩ = some (.int .i64 h) := T28.out.1.1.1.1.1.1.1.1.2.2.1
          have v_p2 : wf.cell? ⟨W.heap.size, 2, none⟩ = some (.slice a n c) := T28.out.1.1.1.1.1.1.1.1.2.2.2
          go_wp2_with fail
          refine (HCE.out wf).mono ?_; rintro e wn ⟨rfl, hbwn⟩
          clear v_p0 v_p1 v_p2
          have T29 := T28.up hbwn
          clear T28
          go_wp2_with fail
          refine ((from_any T wn hT64 : Calls Tryd.prog 16 #[.int .u64 T] wn _)).mono ?_; rintro e wo ⟨nF, rfl, hoF, hnF, hbwo⟩
          have T30 := T29.up hbwo
          clear T29
          have T31 := T30.add (fun wv => NR wv (some ⟨wn.heap.size, 0, none⟩) nF (limbs T)) (hnF.nr)
          clear T30
          have hnFl : nF ≤ 2 := hnF.le
          clear hoF hnF
          go_wp2_with fail
          refine (natCmp_any (some ⟨wn.heap.size, 0, none⟩) aB nF nB 2 cB (limbs T) lb wo T31.out.2 T31.out.1.1.1.1.1.1.1.1.1.1.2 hnFl hBc (by unfold maxLen; omega) hBm).mono ?_; rintro e wo' ⟨rfl, q7, hw7⟩
          rw [val_limbs, HV.out]
          have hbwp : Below wo.heap.size wo wo' := by rw [hw7]; exact bdrewN (bnil wo) q7
          clear hw7
          generalize wo' = wp at *
          have T32 := T31.up hbwp
          clear T31
          clear hbwp
          go_wp2_with fail
          refine (rawNew_want _ 2 5 wp rfl).mono ?_; rintro e wq ⟨ao, aa, co, ca, rfl, hw9, hbwq⟩
          have T33 := T32.up hbwq
          clear T32
          have T34 := T33.add (fun wv => WC wv (.agg #[.int .i64 5, .slice ao 1 co, .slice aa 1 ca]) (some ([(opEve, 2)], 5))) (wc_want hw9)
          clear T33
          clear hw9
          go_wp2_with fail
          refine (rawIs_ch (.iface t9 (.pointer (some p9))) (.agg #[.int .i64 5, .slice ao 1 co, .slice aa 1 ca]) (some ([(opEve, 2)], 5)) wq R T34.out.1.1.1.1.1.1.1.1.1.1.1.1.1.1.2 T34.out.1.1.1.1.1.2 T34.out.2).mono ?_; rintro e wr ⟨rfl, hbwr⟩
          have T35 := T34.up hbwr
          clear T34
          have v_f0 : wr.cell? ⟨w7.heap.size, 0, none⟩ = some (.int .i64 0) := T35.out.1.1.1.1.2.1
          have v_f1 : wr.cell? ⟨w7.heap.size, 1, none⟩ = some (.int .i64 0) := T35.out.1.1.1.1.2.2.1
          have v_f2 : wr.cell? ⟨w7.heap.size, 2, none⟩ = some (.int .i64 0) := T35.out.1.1.1.1.2.2.2.1
          have v_f3 : wr.cell? ⟨w7.heap.size, 3, none⟩ = some (.slice none 0 0) := T35.out.1.1.1.1.2.2.2.2.1
          have v_f4 : wr.cell? ⟨w7.heap.size, 4, none⟩ = some (.slice none 0 0) := T35.out.1.1.1.1.2.2.2.2.2
          go_wp2_with fail
          refine (found_none wr).mono ?_; rintro e ws ⟨rfl, hbws⟩
          clear v_f0 v_f1 v_f2 v_f3 v_f4
          have T36 := T35.up hbws
          clear T35
          go_wp2_with fail
          refine ((from_any EN ws hE64 : Calls Tryd.prog 16 #[.int .u64 EN] ws _)).mono ?_; rintro e wt ⟨nG, rfl, hoG, hnG, hbwt⟩
          have T37 := T36.up hbwt
          clear T36
          have T38 := T37.add (fun wv => NR wv (some ⟨ws.heap.size, 0, none⟩) nG (limbs EN)) (hnG.nr)
          clear T37
          have hnGl : nG ≤ 2 := hnG.le
          clear hoG hnG
          go_wp2_with fail
          refine (natCmp_any aB (some ⟨ws.heap.size, 0, none⟩) nB nG cB 2 lb (limbs EN) wt T38.out.1.1.1.1.1.1.1.1.1.1.1.1.2 T38.out.2 hBc hnGl hBm (by unfold maxLen; omega)).mono ?_; rintro e wt' ⟨rfl, q8, hw8'⟩
          rw [val_limbs, HV.out]
          have hbwu : Below wt.heap.size wt wt' := by rw [hw8']; exact bdrewN (bnil wt) q8
          clear hw8'
          generalize wt' = wu at *
          have T39 := T38.up hbwu
          clear T38
          clear hbwu
          go_wp2
          go_ret
          exact ⟨rfl, T39.out.1.1.1.1.1.1.1.1.1.1.1.1.1.1.1.1.2⟩
        | some o8 =>
          have hv0 : V ≠ 0 := fun e => by have := HSZ0.out e; cases this
          have HV0 := Lib.hid hv0
          clear hv0
          cases o8 with
          | true =>
            obtain ⟨a8, n8, c8, rfl, rfl, ho8⟩ : ∃ a n c, vf = fndV 1 ((w + 2 : Nat) : Int) ((h + 2 : Nat) : Int) a n c none 0 0 ∧ ev8 = .nilIface ∧ OwI w7 _ a n c (joinL (h + 2) S.way.reverse) := hq
            obtain ⟨v, hv1, hv2, hv3, hv4, hv5⟩ := HSE.out.patch rfl
            rw [hv1] at ho8
            have hll := hv4.len
            obtain ⟨L, hL⟩ : ∃ L, joinL (h + 2) (colsV v w) = L := ⟨_, rfl⟩
            rw [hL] at ho8 hv4 hv5 hll
            have hL60 : L.length ≤ 60 := by rw [hll]; exact Nat.mul_le_mul (show w + 2 ≤ 10 by omega) (show h + 2 ≤ 6 by omega)
            have hn8 : n8 * 8 ≤ 140737488351232 := by have := ho8.rk.len; omega
            have hsd : stepD t ((w + 2 : Nat) : Int) ((h + 2 : Nat) : Int) L = none := stepD_fin (tabD_of HT.out) (patchErr_of hv4) (by omega)
            have hso := stepO_ok hsd (by omega) (by omega)
            rw [hv5] at hso
            have hso2 : stepO t ((w + 2 : Nat) : Int) ((h + 2 : Nat) : Int) L = ((w : Int), (h : Int), l) := hso
            have c_st := fun W hR hT => refstep22_any ((w + 2 : Nat) : Int) ((h + 2 : Nat) : Int) a8 aT n8 c8 512 cT L t W hR hT hmT
            simp only [hsd, hso2] at c_st
            obtain ⟨A, hA⟩ : ∃ A, w + 2 = A := ⟨_, rfl⟩
            obtain ⟨B, hB⟩ : ∃ B, h + 2 = B := ⟨_, rfl⟩
            simp only [hA, hB] at c_st
            rw [hA, hB]
            have HCT := Lib.hid c_st
            have hAI : (w : Int) + 2 = (A : Int) := by omega
            have hBI : (h : Int) + 2 = (B : Int) := by omega
            have hAw : IntKind.i64.wrap (A : Int) = (A : Int) := IntWalk.i64_in _ (by omega)
            have hBw : IntKind.i64.wrap (B : Int) = (B : Int) := IntWalk.i64_in _ (by omega)
            have T18 := T17.add (fun wv => SlI wv a8 n8 c8 L) (ho8.sl hn8)
            clear T17
            clear ho8 hv1 hv2 hv3 hv4 hv5 hL hll hL60 hsd hso hso2 c_st hA hB
            obtain ⟨w8, hw8⟩ : ∃ w8, w7.alloc (.cells #[.int .i64 1, .int .i64 (A : Nat), .int .i64 (B : Nat), .slice a8 n8 c8, .slice none 0 0] 28) = w8 := ⟨_, rfl⟩
            have hbw8 : Below w7.heap.size w7 w8 := by rw [← hw8]; exact balloc (bnil w7) _
            have T19 := T18.up hbw8
            clear T18
            have T20 := T19.add (fun wv => wv.cell? ⟨w7.heap.size, 0, none⟩ = some (.int .i64 1) ∧ wv.cell? ⟨w7.heap.size, 1, none⟩ = some (.int .i64 (A : Nat)) ∧ wv.cell? ⟨w7.heap.size, 2, none⟩ = some (.int .i64 (B : Nat)) ∧ wv.cell? ⟨w7.heap.size, 3, none⟩ = some (.slice a8 n8 c8) ∧ wv.cell? ⟨w7.heap.size, 4, none⟩ = some (.slice none 0 0)) (by rw [← hw8]; exact ⟨cnw (by simp) rfl, cnw (by simp) rfl, cnw (by simp) rfl, cnw (by simp) rfl, cnw (by simp) rfl⟩)
            clear T19
            have Hw8 := Lib.hid hw8
            clear hw8 hbw8
            have v_p0 : (w7.alloc (.cells #[.int .i64 1, .int .i64 (A : Nat), .int .i64 (B : Nat), .slice a8 n8 c8, .slice none 0 0] 28)).cell? ⟨W.heap.size, 0, none⟩ = some (.int .i64 w) := by rw [Hw8.out]; exact T20.out.1.1.1.1.1.1.2.1
            have v_p1 : (w7.alloc (.cells #[.int .i64 1, .int .i64 (A : Nat), .int .i64 (B : Nat), .slice a8 n8 c8, .slice none 0 0] 28)).cell? ⟨W.heap.size, 1, none⟩ = some (.int .i64 h) := by rw [Hw8.out]; exact T20.out.1.1.1.1.1.1.2.2.1
            have v_p2 : (w7.alloc (.cells #[.int .i64 1, .int .i64 (A : Nat), .int .i64 (B : Nat), .slice a8 n8 c8, .slice none 0 0] 28)).cell? ⟨W.heap.size, 2, none⟩ = some (.slice a n c) := by rw [Hw8.out]; exact T20.out.1.1.1.1.1.1.2.2.2
            go_wp2_with fail
            rw [Hw8.out]
            refine (refasked_any w h a aT n c 512 cT l t w8 (T20.out.1.1.1.1.1.1.1.1.1.2).rk hm T20.out.1.1.1.1.1.1.1.1.2 hmT).mono ?_; rintro e wa ⟨N6, a61, n61, c61, a62, n62, c62, rfl, hw6, hn6, _, _, hbwa⟩
            clear v_p0 v_p1 v_p2
            have T21 := T20.up hbwa
            clear T20
            rw [HED.out] at hw6 hn6
            have HN6 : Hid ((N6 != 0) = false) := hn6
            have T22 := T21.add (fun wv => WC wv (.agg #[.int .i64 N6, .slice a61 n61 c61, .slice a62 n62 c62]) none) (hw6)
            clear T21
            clear hw6 hn6
            obtain ⟨wb, hwb⟩ : ∃ wb, wa.alloc (.cells #[.int .i64 N6, .slice a61 n61 c61, .slice a62 n62 c62] 60) = wb := ⟨_, rfl⟩
            have hbwb : Below wa.heap.size wa wb := by rw [← hwb]; exact balloc (bnil wa) _
            have T23 := T22.up hbwb
            clear T22
            have T24 := T23.add (fun wv => wv.cell? ⟨wa.heap.size, 0, none⟩ = some (.int .i64 N6) ∧ wv.cell? ⟨wa.heap.size, 1, none⟩ = some (.slice a61 n61 c61) ∧ wv.cell? ⟨wa.heap.size, 2, none⟩ = some (.slice a62 n62 c62)) (by rw [← hwb]; exact ⟨cnw (by simp) rfl, cnw (by simp) rfl, cnw (by simp) rfl⟩)
            clear T23
            have Hwb := Lib.hid hwb
            clear hwb hbwb
            go_wp2_with fail
            rw [Hwb.out]
            refine (kept_any gt 512 (512 + 2) cT aT t wb T24.out.1.1.1.1.1.1.1.2 (Nat.le_refl _) hmT2 T24.out.1.1.1.1.1.1.1.1.1.1.2 h8T).mono ?_; rintro e wc ⟨rfl, hbwc⟩
            have T25 := T24.up hbwc
            clear T24
            have v_p0 : wc.cell? ⟨W.heap.size, 0, none⟩ = some (.int .i64 w) := T25.out.1.1.1.1.1.1.1.1.2.1
            have v_p1 : wc.cell? ⟨W.heap.size, 1, none⟩ = some (.int .i64 h) := T25.out.1.1.1.1.1.1.1.1.2.2.1
            have v_p2 : wc.cell? ⟨W.heap.size, 2, none⟩ = some (.slice a n c) := T25.out.1.1.1.1.1.1.1.1.2.2.2
            have v_q0 : wc.cell? ⟨g5, 0, none⟩ = some (.int .i64 w) := T25.out.1.1.1.1.1.1.2.1
            have v_q1 : wc.cell? ⟨g5, 1, none⟩ = some (.int .i64 h) := T25.out.1.1.1.1.1.1.2.2.1
            have v_q2 : wc.cell? ⟨g5, 2, none⟩ = some (.slice (some ⟨gm, 0, none⟩) n (n + 2)) := T25.out.1.1.1.1.1.1.2.2.2
            go_wp2_with fail
            refine (kept_any gm n (n + 2) c a l wc T25.out.1.1.1.1.1.2 (Nat.le_refl _) hm2 (T25.out.1.1.1.1.1.1.1.1.1.1.1.2).rk h8).mono ?_; rintro e wd ⟨rfl, hbwd⟩
            clear v_p0 v_p1 v_p2 v_q0 v_q1 v_q2
            have T26 := T25.up hbwd
            clear T25
            go_wp2_with fail
            refine (keptN_ex gb nB (nB + 2) cB aB lb wd T26.out.1.1.1.1.2 (Nat.le_refl _) hBm2 T26.out.1.1.1.1.1.1.1.1.1.2 (by omega)).mono ?_; rintro e we ⟨rfl, hbwe⟩
            have T27 := T26.up hbwe
            clear T26
            have v_g0 : we.cell? ⟨wa.heap.size, 0, none⟩ = some (.int .i64 N6) := T27.out.2.1
            have v_g1 : we.cell? ⟨wa.heap.size, 1, none⟩ = some (.slice a61 n61 c61) := T27.out.2.2.1
            have v_g2 : we.cell? ⟨wa.heap.size, 2, none⟩ = some (.slice a62 n62 c62) := T27.out.2.2.2
            go_wp2_with fail
            refine (refBadE _ _ _ we false HN6.out).mono ?_; rintro e wf ⟨rfl, hbwf⟩
            clear v_g0 v_g1 v_g2
            have T28 := T27.up hbwf
            clear T27
            have v_p0 : wf.cell? ⟨W.heap.size, 0, none⟩ = some (.int .i64 w) := T28.out.1.1.1.1.1.1.1.1.2.1
            have v_p1 : wf.cell? ⟨W.heap.size, 1, none⟩ = some (.int .i64 h) := T28.out.1.1.1.1.1.1.1.1.2.2.1
            have v_p2 : wf.cell? ⟨W.heap.size, 2, none⟩ = some (.slice a n c) := T28.out.1.1.1.1.1.1.1.1.2.2.2
            go_wp2_with fail
            refine (HCE.out wf).mono ?_; rintro e wn ⟨rfl, hbwn⟩
            clear v_p0 v_p1 v_p2
            have T29 := T28.up hbwn
            clear T28
            go_wp2_with fail
            refine ((from_any T wn hT64 : Calls Tryd.prog 16 #[.int .u64 T] wn _)).mono ?_; rintro e wo ⟨nF, rfl, hoF, hnF, hbwo⟩
            have T30 := T29.up hbwo
            clear T29
            have T31 := T30.add (fun wv => NR wv (some ⟨wn.heap.size, 0, none⟩) nF (limbs T)) (hnF.nr)
            clear T30
            have hnFl : nF ≤ 2 := hnF.le
            clear hoF hnF
            go_wp2_with fail
            refine (natCmp_any (some ⟨wn.heap.size, 0, none⟩) aB nF nB 2 cB (limbs T) lb wo T31.out.2 T31.out.1.1.1.1.1.1.1.1.1.1.2 hnFl hBc (by unfold maxLen; omega) hBm).mono ?_; rintro e wo' ⟨rfl, q7, hw7⟩
            rw [val_limbs, HV.out]
            have hbwp : Below wo.heap.size wo wo' := by rw [hw7]; exact bdrewN (bnil wo) q7
            clear hw7
            generalize wo' = wp at *
            have T32 := T31.up hbwp
            clear T31
            clear hbwp
            go_wp2_with fail
            refine (bits_any aB nB cB lb wp T32.out.1.1.1.1.1.1.1.1.1.1.2 (by omega) hBc hBm).mono ?_; rintro e wp' ⟨m, rfl, hmz, hw9⟩
            rw [← hw9]
            rw [HV.out] at hmz
            have hm0 : m ≠ 0 := fun e => HV0.out (hmz.1 e)
            have hm1 : (m : Int) ≠ 0 := by omega
            have hm2 : ((m : Int) == 0) = false := by rw [beq_eq_false_iff_ne]; exact hm1
            clear hmz hw9
            have v_f0 : wp.cell? ⟨w7.heap.size, 0, none⟩ = some (.int .i64 1) := T32.out.1.1.1.2.1
            have v_f1 : wp.cell? ⟨w7.heap.size, 1, none⟩ = some (.int .i64 (A : Nat)) := T32.out.1.1.1.2.2.1
            have v_f2 : wp.cell? ⟨w7.heap.size, 2, none⟩ = some (.int .i64 (B : Nat)) := T32.out.1.1.1.2.2.2.1
            have v_f3 : wp.cell? ⟨w7.heap.size, 3, none⟩ = some (.slice a8 n8 c8) := T32.out.1.1.1.2.2.2.2.1
            have v_f4 : wp.cell? ⟨w7.heap.size, 4, none⟩ = some (.slice none 0 0) := T32.out.1.1.1.2.2.2.2.2
            go_wp2_with fail
            refine (HCT.out wp T32.out.1.1.1.1.2 T32.out.1.1.1.1.1.1.1.1.1.1.1.2).mono ?_; rintro e wr ⟨aq, nq, cq, N5, a51, n51, c51, a52, n52, c52, rfl, hrq, _, hn5, hbwr⟩
            clear v_f0 v_f1 v_f2 v_f3 v_f4
            have T33 := T32.up hbwr
            clear T32
            have HN5 : Hid ((N5 != 0) = false) := hn5
            have T34 := T33.add (fun wv => RK .i64 wv aq nq l) (hrq)
            clear T33
            clear hrq hn5
            obtain ⟨ws, hws⟩ : ∃ ws, (wr.alloc (.cells #[.int .i64 (w : Nat), .int .i64 (h : Nat), .slice aq nq cq] 24)).alloc (.cells #[.int .i64 N5, .slice a51 n51 c51, .slice a52 n52 c52] 60) = ws := ⟨_, rfl⟩
            have hbws : Below wr.heap.size wr ws := by rw [← hws]; exact balloc (balloc (bnil wr) _) _
            have T35 := T34.up hbws
            clear T34
            have T36 := T35.add (fun wv => wv.cell? ⟨wr.heap.size, 0, none⟩ = some (.int .i64 (w : Nat)) ∧ wv.cell? ⟨wr.heap.size, 1, none⟩ = some (.int .i64 (h : Nat)) ∧ wv.cell? ⟨wr.heap.size, 2, none⟩ = some (.slice aq nq cq)) (by rw [← hws]; exact ⟨al000 (cnw (by simp) rfl), al000 (cnw (by simp) rfl), al000 (cnw (by simp) rfl)⟩)
            clear T35
            have T37 := T36.add (fun wv => wv.cell? ⟨wr.heap.size + 1, 0, none⟩ = some (.int .i64 N5) ∧ wv.cell? ⟨wr.heap.size + 1, 1, none⟩ = some (.slice a51 n51 c51) ∧ wv.cell? ⟨wr.heap.size + 1, 2, none⟩ = some (.slice a52 n52 c52)) (by rw [← hws]; exact ⟨cnw (by simp) rfl, cnw (by simp) rfl, cnw (by simp) rfl⟩)
            clear T36
            have Hws := Lib.hid hws
            clear hws hbws
            have v_f0 : ((wr.alloc (.cells #[.int .i64 (w : Nat), .int .i64 (h : Nat), .slice aq nq cq] 24)).alloc (.cells #[.int .i64 N5, .slice a51 n51 c51, .slice a52 n52 c52] 60)).cell? ⟨w7.heap.size, 0, none⟩ = some (.int .i64 1) := by rw [Hws.out]; exact T37.out.1.1.1.1.1.1.2.1
            have v_f1 : ((wr.alloc (.cells #[.int .i64 (w : Nat), .int .i64 (h : Nat), .slice aq nq cq] 24)).alloc (.cells #[.int .i64 N5, .slice a51 n51 c51, .slice a52 n52 c52] 60)).cell? ⟨w7.heap.size, 1, none⟩ = some (.int .i64 (A : Nat)) := by rw [Hws.out]; exact T37.out.1.1.1.1.1.1.2.2.1
            have v_f2 : ((wr.alloc (.cells #[.int .i64 (w : Nat), .int .i64 (h : Nat), .slice aq nq cq] 24)).alloc (.cells #[.int .i64 N5, .slice a51 n51 c51, .slice a52 n52 c52] 60)).cell? ⟨w7.heap.size, 2, none⟩ = some (.int .i64 (B : Nat)) := by rw [Hws.out]; exact T37.out.1.1.1.1.1.1.2.2.2.1
            have v_f3 : ((wr.alloc (.cells #[.int .i64 (w : Nat), .int .i64 (h : Nat), .slice aq nq cq] 24)).alloc (.cells #[.int .i64 N5, .slice a51 n51 c51, .slice a52 n52 c52] 60)).cell? ⟨w7.heap.size, 3, none⟩ = some (.slice a8 n8 c8) := by rw [Hws.out]; exact T37.out.1.1.1.1.1.1.2.2.2.2.1
            have v_f4 : ((wr.alloc (.cells #[.int .i64 (w : Nat), .int .i64 (h : Nat), .slice aq nq cq] 24)).alloc (.cells #[.int .i64 N5, .slice a51 n51 c51, .slice a52 n52 c52] 60)).cell? ⟨w7.heap.size, 4, none⟩ = some (.slice none 0 0) := by rw [Hws.out]; exact T37.out.1.1.1.1.1.1.2.2.2.2.2
            have v_p0 : ((wr.alloc (.cells #[.int .i64 (w : Nat), .int .i64 (h : Nat), .slice aq nq cq] 24)).alloc (.cells #[.int .i64 N5, .slice a51 n51 c51, .slice a52 n52 c52] 60)).cell? ⟨W.heap.size, 0, none⟩ = some (.int .i64 w) := by rw [Hws.out]; exact T37.out.1.1.1.1.1.1.1.1.1.1.1.1.2.1
            have v_p1 : ((wr.alloc (.cells #[.int .i64 (w : Nat), .int .i64 (h : Nat), .slice aq nq cq] 24)).alloc (.cells #[.int .i64 N5, .slice a51 n51 c51, .slice a52 n52 c52] 60)).cell? ⟨W.heap.size, 1, none⟩ = some (.int .i64 h) := by rw [Hws.out]; exact T37.out.1.1.1.1.1.1.1.1.1.1.1.1.2.2.1
            have v_p2 : ((wr.alloc (.cells #[.int .i64 (w : Nat), .int .i64 (h : Nat), .slice aq nq cq] 24)).alloc (.cells #[.int .i64 N5, .slice a51 n51 c51, .slice a52 n52 c52] 60)).cell? ⟨W.heap.size, 2, none⟩ = some (.slice a n c) := by rw [Hws.out]; exact T37.out.1.1.1.1.1.1.1.1.1.1.1.1.2.2.2
            have v_j0 : ((wr.alloc (.cells #[.int .i64 (w : Nat), .int .i64 (h : Nat), .slice aq nq cq] 24)).alloc (.cells #[.int .i64 N5, .slice a51 n51 c51, .slice a52 n52 c52] 60)).cell? ⟨wr.heap.size + 1, 0, none⟩ = some (.int .i64 N5) := by rw [Hws.out]; exact T37.out.2.1
            have v_j1 : ((wr.alloc (.cells #[.int .i64 (w : Nat), .int .i64 (h : Nat), .slice aq nq cq] 24)).alloc (.cells #[.int .i64 N5, .slice a51 n51 c51, .slice a52 n52 c52] 60)).cell? ⟨wr.heap.size + 1, 1, none⟩ = some (.slice a51 n51 c51) := by rw [Hws.out]; exact T37.out.2.2.1
            have v_j2 : ((wr.alloc (.cells #[.int .i64 (w : Nat), .int .i64 (h : Nat), .slice aq nq cq] 24)).alloc (.cells #[.int .i64 N5, .slice a51 n51 c51, .slice a52 n52 c52] 60)).cell? ⟨wr.heap.size + 1, 2, none⟩ = some (.slice a52 n52 c52) := by rw [Hws.out]; exact T37.out.2.2.2
            go_wp2_with fail
            rw [Hws.out]
            refine (refBadE _ _ _ ws false HN5.out).mono ?_; rintro e wt ⟨rfl, hbwt⟩
            clear v_f0 v_f1 v_f2 v_f3 v_f4 v_p0 v_p1 v_p2 v_j0 v_j1 v_j2
            have T38 := T37.up hbwt
            clear T37
            have v_p0 : wt.cell? ⟨W.heap.size, 0, none⟩ = some (.int .i64 w) := T38.out.1.1.1.1.1.1.1.1.1.1.1.1.2.1
            have v_p1 : wt.cell? ⟨W.heap.size, 1, none⟩ = some (.int .i64 h) := T38.out.1.1.1.1.1.1.1.1.1.1.1.1.2.2.1
            have v_p2 : wt.cell? ⟨W.heap.size, 2, none⟩ = some (.slice a n c) := T38.out.1.1.1.1.1.1.1.1.1.1.1.1.2.2.2
            have v_i0 : wt.cell? ⟨wr.heap.size, 0, none⟩ = some (.int .i64 (w : Nat)) := T38.out.1.2.1
            have v_i1 : wt.cell? ⟨wr.heap.size, 1, none⟩ = some (.int .i64 (h : Nat)) := T38.out.1.2.2.1
            have v_i2 : wt.cell? ⟨wr.heap.size, 2, none⟩ = some (.slice aq nq cq) := T38.out.1.2.2.2
            go_wp2_with fail
            refine (patches_eq w h aq a nq n cq c l wt T38.out.1.1.2 (T38.out.1.1.1.1.1.1.1.1.1.1.1.1.1.1.1.2).rk (by have := (T38.out.1.1.2).len; have := (T38.out.1.1.1.1.1.1.1.1.1.1.1.1.1.1.1.2).rk.len; omega)).mono ?_; rintro e wu ⟨rfl, hbwu⟩
            clear v_p0 v_p1 v_p2 v_i0 v_i1 v_i2
            have T39 := T38.up hbwu
            clear T38
            go_wp2
            go_ret
            exact ⟨rfl, T39.out.1.1.1.1.1.1.1.1.1.1.1.1.1.1.1.1.1.2⟩
          | false =>
            obtain ⟨a8, c8, rfl, rfl, ho8⟩ : ∃ a c, vf = fndV 2 0 0 none 0 0 a (4 + 3 * S.order.length) c ∧ ev8 = .nilIface ∧ w7.ownsRow _ 5 1 (.slice a (4 + 3 * S.order.length) c) (4 + 3 * S.order.length) ((encL (w : Int) (h : Int) S.order).map (Value.int .u8)) := hq
            obtain ⟨hj, hno⟩ := HSE.out.cert rfl
            have hbd := encL_bd HSE.out.enc
            have hle := encL_len (w : Int) (h : Int) S.order
            have hl43 := HSE.out.enc.len
            obtain ⟨bs, hbs⟩ : ∃ bs, encL (w : Int) (h : Int) S.order = bs := ⟨_, rfl⟩
            rw [hbs] at hj hbd hle ho8
            rw [← hle] at ho8 ⊢
            have HBD := Lib.hid hbd
            have hbl : bs.length ≤ maxLen := by unfold maxLen; omega
            obtain ⟨jn, hjn⟩ : ∃ jn, judgeF t (w : Int) (h : Int) l bs = (jn, none) := ⟨_, Prod.ext rfl hj⟩
            have c_j := fun W hR hT hBs => refjudge_any w h a aT a8 n c 512 cT c8 l t bs W hR hm hT hmT hBs HBD.out hbl
            simp only [hjn] at c_j
            have HJ := Lib.hid c_j
            have T18 := T17.add (fun wv => RK .u8 wv a8 bs.length bs) (⟨rfl, (owns_rd ho8).2⟩)
            clear T17
            clear ho8 hno hbd hbs hj hjn hle hl43 c_j
            obtain ⟨w8, hw8⟩ : ∃ w8, w7.alloc (.cells #[.int .i64 2, .int .i64 0, .int .i64 0, .slice none 0 0, .slice a8 bs.length c8] 28) = w8 := ⟨_, rfl⟩
            have hbw8 : Below w7.heap.size w7 w8 := by rw [← hw8]; exact balloc (bnil w7) _
            have T19 := T18.up hbw8
            clear T18
            have T20 := T19.add (fun wv => wv.cell? ⟨w7.heap.size, 0, none⟩ = some (.int .i64 2) ∧ wv.cell? ⟨w7.heap.size, 1, none⟩ = some (.int .i64 0) ∧ wv.cell? ⟨w7.heap.size, 2, none⟩ = some (.int .i64 0) ∧ wv.cell? ⟨w7.heap.size, 3, none⟩ = some (.slice none 0 0) ∧ wv.cell? ⟨w7.heap.size, 4, none⟩ = some (.slice a8 bs.length c8)) (by rw [← hw8]; exact ⟨cnw (by simp) rfl, cnw (by simp) rfl, cnw (by simp) rfl, cnw (by simp) rfl, cnw (by simp) rfl⟩)
            clear T19
            have Hw8 := Lib.hid hw8
            clear hw8 hbw8
            have v_p0 : (w7.alloc (.cells #[.int .i64 2, .int .i64 0, .int .i64 0, .slice none 0 0, .slice a8 bs.length c8] 28)).cell? ⟨W.heap.size, 0, none⟩ = some (.int .i64 w) := by rw [Hw8.out]; exact T20.out.1.1.1.1.1.1.2.1
            have v_p1 : (w7.alloc (.cells #[.int .i64 2, .int .i64 0, .int .i64 0, .slice none 0 0, .slice a8 bs.length c8] 28)).cell? ⟨W.heap.size, 1, none⟩ = some (.int .i64 h) := by rw [Hw8.out]; exact T20.out.1.1.1.1.1.1.2.2.1
            have v_p2 : (w7.alloc (.cells #[.int .i64 2, .int .i64 0, .int .i64 0, .slice none 0 0, .slice a8 bs.length c8] 28)).cell? ⟨W.heap.size, 2, none⟩ = some (.slice a n c) := by rw [Hw8.out]; exact T20.out.1.1.1.1.1.1.2.2.2
            go_wp2_with fail
            rw [Hw8.out]
            refine (refasked_any w h a aT n c 512 cT l t w8 (T20.out.1.1.1.1.1.1.1.1.1.2).rk hm T20.out.1.1.1.1.1.1.1.1.2 hmT).mono ?_; rintro e wa ⟨N6, a61, n61, c61, a62, n62, c62, rfl, hw6, hn6, _, _, hbwa⟩
            clear v_p0 v_p1 v_p2
            have T21 := T20.up hbwa
            clear T20
            rw [HED.out] at hw6 hn6
            have HN6 : Hid ((N6 != 0) = false) := hn6
            have T22 := T21.add (fun wv => WC wv (.agg #[.int .i64 N6, .slice a61 n61 c61, .slice a62 n62 c62]) none) (hw6)
            clear T21
            clear hw6 hn6
            obtain ⟨wb, hwb⟩ : ∃ wb, wa.alloc (.cells #[.int .i64 N6, .slice a61 n61 c61, .slice a62 n62 c62] 60) = wb := ⟨_, rfl⟩
            have hbwb : Below wa.heap.size wa wb := by rw [← hwb]; exact balloc (bnil wa) _
            have T23 := T22.up hbwb
            clear T22
            have T24 := T23.add (fun wv => wv.cell? ⟨wa.heap.size, 0, none⟩ = some (.int .i64 N6) ∧ wv.cell? ⟨wa.heap.size, 1, none⟩ = some (.slice a61 n61 c61) ∧ wv.cell? ⟨wa.heap.size, 2, none⟩ = some (.slice a62 n62 c62)) (by rw [← hwb]; exact ⟨cnw (by simp) rfl, cnw (by simp) rfl, cnw (by simp) rfl⟩)
            clear T23
            have Hwb := Lib.hid hwb
            clear hwb hbwb
            go_wp2_with fail
            rw [Hwb.out]
            refine (kept_any gt 512 (512 + 2) cT aT t wb T24.out.1.1.1.1.1.1.1.2 (Nat.le_refl _) hmT2 T24.out.1.1.1.1.1.1.1.1.1.1.2 h8T).mono ?_; rintro e wc ⟨rfl, hbwc⟩
            have T25 := T24.up hbwc
            clear T24
            have v_p0 : wc.cell? ⟨W.heap.size, 0, none⟩ = some (.int .i64 w) := T25.out.1.1.1.1.1.1.1.1.2.1
            have v_p1 : wc.cell? ⟨W.heap.size, 1, none⟩ = some (.int .i64 h) := T25.out.1.1.1.1.1.1.1.1.2.2.1
            have v_p2 : wc.cell? ⟨W.heap.size, 2, none⟩ = some (.slice a n c) := T25.out.1.1.1.1.1.1.1.1.2.2.2
            have v_q0 : wc.cell? ⟨g5, 0, none⟩ = some (.int .i64 w) := T25.out.1.1.1.1.1.1.2.1
            have v_q1 : wc.cell? ⟨g5, 1, none⟩ = some (.int .i64 h) := T25.out.1.1.1.1.1.1.2.2.1
            have v_q2 : wc.cell? ⟨g5, 2, none⟩ = some (.slice (some ⟨gm, 0, none⟩) n (n + 2)) := T25.out.1.1.1.1.1.1.2.2.2
            go_wp2_with fail
            refine (kept_any gm n (n + 2) c a l wc T25.out.1.1.1.1.1.2 (Nat.le_refl _) hm2 (T25.out.1.1.1.1.1.1.1.1.1.1.1.2).rk h8).mono ?_; rintro e wd ⟨rfl, hbwd⟩
            clear v_p0 v_p1 v_p2 v_q0 v_q1 v_q2
            have T26 := T25.up hbwd
            clear T25
            go_wp2_with fail
            refine (keptN_ex gb nB (nB + 2) cB aB lb wd T26.out.1.1.1.1.2 (Nat.le_refl _) hBm2 T26.out.1.1.1.1.1.1.1.1.1.2 (by omega)).mono ?_; rintro e we ⟨rfl, hbwe⟩
            have T27 := T26.up hbwe
            clear T26
            have v_g0 : we.cell? ⟨wa.heap.size, 0, none⟩ = some (.int .i64 N6) := T27.out.2.1
            have v_g1 : we.cell? ⟨wa.heap.size, 1, none⟩ = some (.slice a61 n61 c61) := T27.out.2.2.1
            have v_g2 : we.cell? ⟨wa.heap.size, 2, none⟩ = some (.slice a62 n62 c62) := T27.out.2.2.2
            go_wp2_with fail
            refine (refBadE _ _ _ we false HN6.out).mono ?_; rintro e wf ⟨rfl, hbwf⟩
            clear v_g0 v_g1 v_g2
            have T28 := T27.up hbwf
            clear T27
            have v_p0 : wf.cell? ⟨W.heap.size, 0, none⟩ = some (.int .i64 w) := T28.out.1.1.1.1.1.1.1.1.2.1
            have v_p1 : wf.cell? ⟨W.heap.size, 1, none⟩ = some (.int .i64 h) := T28.out.1.1.1.1.1.1.1.1.2.2.1
            have v_p2 : wf.cell? ⟨W.heap.size, 2, none⟩ = some (.slice a n c) := T28.out.1.1.1.1.1.1.1.1.2.2.2
            go_wp2_with fail
            refine (HCE.out wf).mono ?_; rintro e wn ⟨rfl, hbwn⟩
            clear v_p0 v_p1 v_p2
            have T29 := T28.up hbwn
            clear T28
            go_wp2_with fail
            refine ((from_any T wn hT64 : Calls Tryd.prog 16 #[.int .u64 T] wn _)).mono ?_; rintro e wo ⟨nF, rfl, hoF, hnF, hbwo⟩
            have T30 := T29.up hbwo
            clear T29
            have T31 := T30.add (fun wv => NR wv (some ⟨wn.heap.size, 0, none⟩) nF (limbs T)) (hnF.nr)
            clear T30
            have hnFl : nF ≤ 2 := hnF.le
            clear hoF hnF
            go_wp2_with fail
            refine (natCmp_any (some ⟨wn.heap.size, 0, none⟩) aB nF nB 2 cB (limbs T) lb wo T31.out.2 T31.out.1.1.1.1.1.1.1.1.1.1.2 hnFl hBc (by unfold maxLen; omega) hBm).mono ?_; rintro e wo' ⟨rfl, q7, hw7⟩
            rw [val_limbs, HV.out]
            have hbwp : Below wo.heap.size wo wo' := by rw [hw7]; exact bdrewN (bnil wo) q7
            clear hw7
            generalize wo' = wp at *
            have T32 := T31.up hbwp
            clear T31
            clear hbwp
            go_wp2_with fail
            refine (bits_any aB nB cB lb wp T32.out.1.1.1.1.1.1.1.1.1.1.2 (by omega) hBc hBm).mono ?_; rintro e wp' ⟨m, rfl, hmz, hw9⟩
            rw [← hw9]
            rw [HV.out] at hmz
            have hm0 : m ≠ 0 := fun e => HV0.out (hmz.1 e)
            have hm1 : (m : Int) ≠ 0 := by omega
            have hm2 : ((m : Int) == 0) = false := by rw [beq_eq_false_iff_ne]; exact hm1
            clear hmz hw9
            have v_p0 : wp.cell? ⟨W.heap.size, 0, none⟩ = some (.int .i64 w) := T32.out.1.1.1.1.1.1.1.1.1.2.1
            have v_p1 : wp.cell? ⟨W.heap.size, 1, none⟩ = some (.int .i64 h) := T32.out.1.1.1.1.1.1.1.1.1.2.2.1
            have v_p2 : wp.cell? ⟨W.heap.size, 2, none⟩ = some (.slice a n c) := T32.out.1.1.1.1.1.1.1.1.1.2.2.2
            have v_f0 : wp.cell? ⟨w7.heap.size, 0, none⟩ = some (.int .i64 2) := T32.out.1.1.1.2.1
            have v_f1 : wp.cell? ⟨w7.heap.size, 1, none⟩ = some (.int .i64 0) := T32.out.1.1.1.2.2.1
            have v_f2 : wp.cell? ⟨w7.heap.size, 2, none⟩ = some (.int .i64 0) := T32.out.1.1.1.2.2.2.1
            have v_f3 : wp.cell? ⟨w7.heap.size, 3, none⟩ = some (.slice none 0 0) := T32.out.1.1.1.2.2.2.2.1
            have v_f4 : wp.cell? ⟨w7.heap.size, 4, none⟩ = some (.slice a8 bs.length c8) := T32.out.1.1.1.2.2.2.2.2
            go_wp2_with fail
            refine (HJ.out wp (T32.out.1.1.1.1.1.1.1.1.1.1.1.1.2).rk T32.out.1.1.1.1.1.1.1.1.1.1.1.2 T32.out.1.1.1.1.2).mono ?_; rintro e wr ⟨N5, a51, n51, c51, a52, n52, c52, rfl, _, hn5, hbwr⟩
            clear v_p0 v_p1 v_p2 v_f0 v_f1 v_f2 v_f3 v_f4
            have T33 := T32.up hbwr
            clear T32
            have HN5 : Hid ((N5 != 0) = false) := hn5
            clear hn5
            obtain ⟨ws, hws⟩ : ∃ ws, wr.alloc (.cells #[.int .i64 N5, .slice a51 n51 c51, .slice a52 n52 c52] 60) = ws := ⟨_, rfl⟩
            have hbws : Below wr.heap.size wr ws := by rw [← hws]; exact balloc (bnil wr) _
            have T34 := T33.up hbws
            clear T33
            have T35 := T34.add (fun wv => wv.cell? ⟨wr.heap.size, 0, none⟩ = some (.int .i64 N5) ∧ wv.cell? ⟨wr.heap.size, 1, none⟩ = some (.slice a51 n51 c51) ∧ wv.cell? ⟨wr.heap.size, 2, none⟩ = some (.slice a52 n52 c52)) (by rw [← hws]; exact ⟨cnw (by simp) rfl, cnw (by simp) rfl, cnw (by simp) rfl⟩)
            clear T34
            have Hws := Lib.hid hws
            clear hws hbws
            have v_f0 : (wr.alloc (.cells #[.int .i64 N5, .slice a51 n51 c51, .slice a52 n52 c52] 60)).cell? ⟨w7.heap.size, 0, none⟩ = some (.int .i64 2) := by rw [Hws.out]; exact T35.out.1.1.1.1.2.1
            have v_f1 : (wr.alloc (.cells #[.int .i64 N5, .slice a51 n51 c51, .slice a52 n52 c52] 60)).cell? ⟨w7.heap.size, 1, none⟩ = some (.int .i64 0) := by rw [Hws.out]; exact T35.out.1.1.1.1.2.2.1
            have v_f2 : (wr.alloc (.cells #[.int .i64 N5, .slice a51 n51 c51, .slice a52 n52 c52] 60)).cell? ⟨w7.heap.size, 2, none⟩ = some (.int .i64 0) := by rw [Hws.out]; exact T35.out.1.1.1.1.2.2.2.1
            have v_f3 : (wr.alloc (.cells #[.int .i64 N5, .slice a51 n51 c51, .slice a52 n52 c52] 60)).cell? ⟨w7.heap.size, 3, none⟩ = some (.slice none 0 0) := by rw [Hws.out]; exact T35.out.1.1.1.1.2.2.2.2.1
            have v_f4 : (wr.alloc (.cells #[.int .i64 N5, .slice a51 n51 c51, .slice a52 n52 c52] 60)).cell? ⟨w7.heap.size, 4, none⟩ = some (.slice a8 bs.length c8) := by rw [Hws.out]; exact T35.out.1.1.1.1.2.2.2.2.2
            have v_j0 : (wr.alloc (.cells #[.int .i64 N5, .slice a51 n51 c51, .slice a52 n52 c52] 60)).cell? ⟨wr.heap.size, 0, none⟩ = some (.int .i64 N5) := by rw [Hws.out]; exact T35.out.2.1
            have v_j1 : (wr.alloc (.cells #[.int .i64 N5, .slice a51 n51 c51, .slice a52 n52 c52] 60)).cell? ⟨wr.heap.size, 1, none⟩ = some (.slice a51 n51 c51) := by rw [Hws.out]; exact T35.out.2.2.1
            have v_j2 : (wr.alloc (.cells #[.int .i64 N5, .slice a51 n51 c51, .slice a52 n52 c52] 60)).cell? ⟨wr.heap.size, 2, none⟩ = some (.slice a52 n52 c52) := by rw [Hws.out]; exact T35.out.2.2.2
            go_wp2_with fail
            rw [Hws.out]
            refine (refBadE _ _ _ ws false HN5.out).mono ?_; rintro e wt ⟨rfl, hbwt⟩
            clear v_f0 v_f1 v_f2 v_f3 v_f4 v_j0 v_j1 v_j2
            have T36 := T35.up hbwt
            clear T35
            go_wp2
            go_ret
            exact ⟨rfl, T36.out.1.1.1.1.1.1.1.1.1.1.1.1.1.1.1.2⟩
theorem eve_tells_row (aT : Option Addr) (cT : Nat) (t : List Int) (w h : Int) (a : Option Addr) (n c : Nat) (l : List Int) (aB : Option Addr) (cB : Nat) (bs : List Int) (W : World) (R : Nat → Addr) (hE : Env W R)
    (hR0 : Rd W aT t.length 1 (t.map (Value.int .i64))) (hl0 : t.length ≤ cT) (hz0 : cT * 8 ≤ 140737488351232) (hn0 : aT = none → cT = 0) (hx0 : ∀ x ∈ t, -9223372036854775808 ≤ x ∧ x ≤ 9223372036854775807) (hM : SlI W a n c l) (hx : I64 l)
    (hR2 : Rd W aB bs.length 1 (bs.map (Value.int .u32))) (hl2 : bs.length ≤ cB) (hz2 : cB * 4 ≤ 140737488351232) (hn2 : aB = none → cB = 0) (hx2 : ∀ x ∈ bs, 0 ≤ x ∧ x ≤ 4294967295) :
    Calls Tryd.prog 7 #[.slice aT t.length cT, patV w h a n c, .slice aB bs.length cB] W (TrueBelow W) :=
  eve_tells w h a aT aB n c t.length cT bs.length cB l t (bs.map Int.toNat) W R hE hM hx ⟨rfl, hR0⟩ (by omega) (nr_rowE hR2 hx2) hl2 (by unfold maxLen; omega)
end Go.Proofs.YtoaooblodgejdaaDoor
