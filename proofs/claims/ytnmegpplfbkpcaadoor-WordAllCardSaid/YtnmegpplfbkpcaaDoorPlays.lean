/- The walk of edenlaw03.plays: every call is the document's. -/
import Derived.Test.YtnmegpplfbkpcaaDoorR03E
import Derived.Test.YtnmegpplfbkpcaaDoorR03F
import Derived.Test.YtnmegpplfbkpcaaDoorWordU
import Derived.Test.YtnmegpplfbkpcaaDoorLentE
import Derived.Test.YtnmegpplfbkpcaaDoorLentN
import Derived.Test.YtnmegpplfbkpcaaDoorTrk
import Derived.Test.YtnmegpplfbkpcaaDoorSl
import Derived.Deep.RegionHeld3
import Derived.Deep.QuietTactic
import Derived.BigQuiet
namespace Go.Proofs.YtnmegpplfbkpcaaDoor
open Go.RowKit
set_option linter.unusedVariables false
set_option maxRecDepth 100000

instance monoEnvW {R : Nat → Addr} : Mono (fun w => Env w R) := ⟨⟨fun hb h => h.up hb⟩⟩
instance monoECW {R : Nat → Addr} {v : Value} {f : ErrD} : Mono (fun w => EC R w v f) := ⟨⟨fun hb h => h.up hb⟩⟩
instance monoWCW {x : Value} {f : ErrD} : Mono (fun w => WC w x f) := ⟨⟨fun hb h => h.up hb⟩⟩
instance monoLentW {g n : Nat} {l : List Int} : Mono (fun w => LentM w g n l) := ⟨⟨fun hb h => h.up hb⟩⟩
instance monoLentNW {g n : Nat} {l : List Nat} : Mono (fun w => LentNM w g n l) := ⟨⟨fun hb h => h.up hb⟩⟩
instance monoNRW {a : Option Addr} {n : Nat} {l : List Nat} : Mono (fun w => NR w a n l) := ⟨⟨fun hb h => h.up hb⟩⟩
instance monoRKW {k : IntKind} {a : Option Addr} {n : Nat} {l : List Int} : Mono (fun w => RK k w a n l) := ⟨⟨fun hb h => h.up hb⟩⟩
instance monoSlW {a : Option Addr} {n c : Nat} {l : List Int} : Mono (fun w => SlI w a n c l) := ⟨⟨fun hb h => h.up hb⟩⟩
theorem cnw {w : World} {g j : Nat} {cs : Array Value} {t : TypeId} {v : Value} (hg : g = w.heap.size) (hv : cs[j]? = some v) : (w.alloc (.cells cs t)).cell? ⟨g, j, none⟩ = some v := cell_at_new rfl hg hv
theorem al000 {w : World} {a : Addr} {v : Value} {o : Obj} (h : w.cell? a = some v) : (w.alloc o).cell? a = some v := al16 h
theorem nats_bP (a1 a2 : Option Addr) (n1 n2 c1 c2 : Nat) (l : List Nat) (W : World) (h1 : NR W a1 n1 l) (h2 : NR W a2 n2 l) (hm : n1 ≤ maxLen) :
    Calls Tryd.prog 49 #[.slice a1 n1 c1, .slice a2 n2 c2] W fun e w' => e = .returned (.bool true) ∧ Below W.heap.size W w' := by
  refine (nats_qW a1 a2 n1 n2 c1 c2 l W h1 h2 hm).mono ?_
  rintro e w' ⟨rfl, q, rfl⟩
  exact ⟨rfl, bdrewN (bnil W) q⟩
theorem indexE_len {k : Int} {l : List Int} {x : Nat} {f : ErrD} (h : IndexE k l x f) : (limbs x).length ≤ 4096 := by
  rcases h with ⟨_, _, rfl, _⟩ | ⟨_, _, rfl, _⟩ | ⟨hc, h2, rfl, _⟩
  · exact Nat.zero_le _
  · exact Nat.zero_le _
  · obtain ⟨k1, k4, _, hall⟩ := chk_none hc
    have h := horn_len (k := k.toNat) (j := l.length) (l := l) (by omega) (fun x hx => by have := hall x hx; omega)
    rw [List.take_of_length_le (Nat.le_refl _)] at h
    omega
theorem pcheckW (k : Int) (a : Option Addr) (n c : Nat) (l : List Int) (W : World) (R : Nat → Addr) (hS : Sent W R) (hG : Glob W R) (hR : RK .i64 W a n l) (hm : n ≤ maxLen) :
    Calls Tryd.prog 44 #[.int .i64 k, .slice a n c] W fun e w' => ∃ ev, e = .returned ev ∧ EC R w' ev (wordD k l) ∧ Below W.heap.size W w' := by
  cases h : chkErr k l with
  | none =>
    rw [wordD_none h]
    refine (check_ok k a n c l W R hG hR hm h).mono ?_; rintro e w' ⟨rfl, hb⟩
    exact ⟨_, rfl, rfl, hb⟩
  | some x =>
    rw [wordD_some h]
    refine (check_err k a n c l W R hG hR hm x h).mono ?_; rintro e w' ⟨g, rfl, he, hb⟩
    exact ⟨_, rfl, ec_err (hS.up hb) he, hb⟩

set_option maxHeartbeats 32000000 in
theorem plays_any (Kd K N : Int) (gw nw : Nat) (lw : List Int) (gv nv : Nat) (lv : List Int) (gi ni : Nat) (li : List Nat) (s : ByteArray) (W : World) (R : Nat → Addr) (hE : Env W R)
    (hW : LentM W gw nw lw) (h8w : nw * 8 ≤ 140737488351232) (hV : LentM W gv nv lv) (h8v : nv * 8 ≤ 140737488351232) (hI : LentNM W gi ni li) (hi : ni ≤ 100) (hs : s.size ≤ maxLen) :
    Calls Tryd.prog 17 #[.agg #[.int .i64 Kd, .int .i64 K, .int .i64 N, .slice (some ⟨gw, 0, none⟩) nw (nw + 2), .slice (some ⟨gv, 0, none⟩) nv (nv + 2), .slice (some ⟨gi, 0, none⟩) ni (ni + 2), .string s]] W (TrueBelow W) := by
  have hmw : nw ≤ maxLen := by unfold maxLen; omega
  have hmv : nv ≤ maxLen := by unfold maxLen; omega
  have hmw2 : nw + 2 ≤ maxLen := by unfold maxLen; omega
  have hmv2 : nv + 2 ≤ maxLen := by unfold maxLen; omega
  have hlw := (LentM.sl hW h8w).rk.len
  have T0 := Tk.nil W
  have T1 := T0.add (fun wv => Below W.heap.size W wv) (bnil W)
  clear T0
  have T2 := T1.add (fun wv => Env wv R) (hE)
  clear T1
  have T3 := T2.add (fun wv => LentM wv gw nw lw) (hW)
  clear T2
  have T4 := T3.add (fun wv => LentM wv gv nv lv) (hV)
  clear T3
  have T5 := T4.add (fun wv => LentNM wv gi ni li) (hI)
  clear T4
  clear hE hW hV hI
  obtain ⟨Wb, hWb⟩ : ∃ Wb, W.alloc (.cells #[.int .i64 Kd, .int .i64 K, .int .i64 N, .slice (some ⟨gw, 0, none⟩) nw (nw + 2), .slice (some ⟨gv, 0, none⟩) nv (nv + 2), .slice (some ⟨gi, 0, none⟩) ni (ni + 2), .string s] 47) = Wb := ⟨_, rfl⟩
  have hbWb : Below W.heap.size W Wb := by rw [← hWb]; exact balloc (bnil W) _
  have T6 := T5.up hbWb
  clear T5
  have T7 := T6.add (fun wv => wv.cell? ⟨W.heap.size, 0, none⟩ = some (.int .i64 Kd) ∧ wv.cell? ⟨W.heap.size, 1, none⟩ = some (.int .i64 K) ∧ wv.cell? ⟨W.heap.size, 2, none⟩ = some (.int .i64 N) ∧ wv.cell? ⟨W.heap.size, 3, none⟩ = some (.slice (some ⟨gw, 0, none⟩) nw (nw + 2)) ∧ wv.cell? ⟨W.heap.size, 4, none⟩ = some (.slice (some ⟨gv, 0, none⟩) nv (nv + 2)) ∧ wv.cell? ⟨W.heap.size, 5, none⟩ = some (.slice (some ⟨gi, 0, none⟩) ni (ni + 2)) ∧ wv.cell? ⟨W.heap.size, 6, none⟩ = some (.string s)) (by rw [← hWb]; exact ⟨cnw (by simp) rfl, cnw (by simp) rfl, cnw (by simp) rfl, cnw (by simp) rfl, cnw (by simp) rfl, cnw (by simp) rfl, cnw (by simp) rfl⟩)
  clear T6
  have HWb := Lib.hid hWb
  clear hWb hbWb
  have HLW := Lib.hid hlw
  clear hlw
  obtain ⟨q, hq⟩ : ∃ q, Kd.tmod 8 = q := ⟨_, rfl⟩
  have q1 : -8 < q := by rw [← hq]; exact Int.lt_tmod_of_pos Kd (by omega)
  have q2 : q < 8 := by rw [← hq]; exact Int.tmod_lt_of_pos Kd (by omega)
  have w1 : IntKind.i64.wrap q = q := IntWalk.i64_in _ (by omega)
  have w2 : IntKind.i64.wrap (q + 8) = q + 8 := IntWalk.i64_in _ (by omega)
  obtain ⟨m, hm⟩ : ∃ m, (q + 8) % 8 = m := ⟨_, rfl⟩
  have m1 : (q + 8).tmod 8 = m := by rw [Int.tmod_eq_emod_of_nonneg (by omega)]; exact hm
  have m2 : q % 8 = m := by omega
  have m3 : IntKind.i64.wrap m = m := IntWalk.i64_in _ (by omega)
  have hmc : m = 0 ∨ m = 1 ∨ m = 2 ∨ m = 3 ∨ m = 4 ∨ m = 5 ∨ m = 6 ∨ m = 7 := by omega
  clear q1 q2
  rcases hmc with rfl | rfl | rfl | rfl | rfl | rfl | rfl | rfl
  · skip
    go_enter Tryd.func17, Tryd.ntmps17
    have v_p0 : (W.alloc (.cells #[.int .i64 Kd, .int .i64 K, .int .i64 N, .slice (some ⟨gw, 0, none⟩) nw (nw + 2), .slice (some ⟨gv, 0, none⟩) nv (nv + 2), .slice (some ⟨gi, 0, none⟩) ni (ni + 2), .string s] 47)).cell? ⟨W.heap.size, 0, none⟩ = some (.int .i64 Kd) := by rw [HWb.out]; exact T7.out.2.1
    have v_p1 : (W.alloc (.cells #[.int .i64 Kd, .int .i64 K, .int .i64 N, .slice (some ⟨gw, 0, none⟩) nw (nw + 2), .slice (some ⟨gv, 0, none⟩) nv (nv + 2), .slice (some ⟨gi, 0, none⟩) ni (ni + 2), .string s] 47)).cell? ⟨W.heap.size, 1, none⟩ = some (.int .i64 K) := by rw [HWb.out]; exact T7.out.2.2.1
    have v_p2 : (W.alloc (.cells #[.int .i64 Kd, .int .i64 K, .int .i64 N, .slice (some ⟨gw, 0, none⟩) nw (nw + 2), .slice (some ⟨gv, 0, none⟩) nv (nv + 2), .slice (some ⟨gi, 0, none⟩) ni (ni + 2), .string s] 47)).cell? ⟨W.heap.size, 2, none⟩ = some (.int .i64 N) := by rw [HWb.out]; exact T7.out.2.2.2.1
    have v_p3 : (W.alloc (.cells #[.int .i64 Kd, .int .i64 K, .int .i64 N, .slice (some ⟨gw, 0, none⟩) nw (nw + 2), .slice (some ⟨gv, 0, none⟩) nv (nv + 2), .slice (some ⟨gi, 0, none⟩) ni (ni + 2), .string s] 47)).cell? ⟨W.heap.size, 3, none⟩ = some (.slice (some ⟨gw, 0, none⟩) nw (nw + 2)) := by rw [HWb.out]; exact T7.out.2.2.2.2.1
    have v_p4 : (W.alloc (.cells #[.int .i64 Kd, .int .i64 K, .int .i64 N, .slice (some ⟨gw, 0, none⟩) nw (nw + 2), .slice (some ⟨gv, 0, none⟩) nv (nv + 2), .slice (some ⟨gi, 0, none⟩) ni (ni + 2), .string s] 47)).cell? ⟨W.heap.size, 4, none⟩ = some (.slice (some ⟨gv, 0, none⟩) nv (nv + 2)) := by rw [HWb.out]; exact T7.out.2.2.2.2.2.1
    have v_p5 : (W.alloc (.cells #[.int .i64 Kd, .int .i64 K, .int .i64 N, .slice (some ⟨gw, 0, none⟩) nw (nw + 2), .slice (some ⟨gv, 0, none⟩) nv (nv + 2), .slice (some ⟨gi, 0, none⟩) ni (ni + 2), .string s] 47)).cell? ⟨W.heap.size, 5, none⟩ = some (.slice (some ⟨gi, 0, none⟩) ni (ni + 2)) := by rw [HWb.out]; exact T7.out.2.2.2.2.2.2.1
    have v_p6 : (W.alloc (.cells #[.int .i64 Kd, .int .i64 K, .int .i64 N, .slice (some ⟨gw, 0, none⟩) nw (nw + 2), .slice (some ⟨gv, 0, none⟩) nv (nv + 2), .slice (some ⟨gi, 0, none⟩) ni (ni + 2), .string s] 47)).cell? ⟨W.heap.size, 6, none⟩ = some (.string s) := by rw [HWb.out]; exact T7.out.2.2.2.2.2.2.2
    have HS0 : Hid (Wb.drew.cell? ⟨W.heap.size, 1, none⟩ = some (.int .i64 K) ∧ Wb.drew.cell? ⟨W.heap.size, 3, none⟩ = some (.slice (some ⟨gw, 0, none⟩) nw (nw + 2))) := ⟨T7.out.2.2.1, T7.out.2.2.2.2.1⟩
    have HT := Lib.hid (show Env Wb R ∧ RK .i64 Wb (some ⟨gw, 0, none⟩) nw lw ∧ Below W.heap.size W Wb from ⟨T7.out.1.1.1.1.2, (LentM.sl T7.out.1.1.1.2 h8w).rk, T7.out.1.1.1.1.1.2⟩)
    go_wp2_with fail
    rw [HWb.out]
    go_region_held3 (fun w' => w'.cell? ⟨W.heap.size, 1, none⟩ = some (.int .i64 K) ∧ w'.cell? ⟨W.heap.size, 3, none⟩ = some (.slice (some ⟨gw, 0, none⟩) nw (nw + 2)))
      (first | with_reducible exact HS7.out | with_reducible exact HS6.out | with_reducible exact HS5.out | with_reducible exact HS0.out | go_keep)
      (first
        | (go_at_call 43; have q9 := HS6; refine (rawIs_ch _ _ (wordD K lw) _ R (HT.out.1.up HD6.out) HE6.out HF6.out).mono ?_; rintro e w7 ⟨rfl, hb7⟩; have HD7 := Lib.hid (bstep HD6.out hb7); have HS7 := Lib.hid (And.intro (cp16 hb7 HS6.out.1) (cp16 hb7 HS6.out.2)); clear hb7)
        | (go_at_call 45; have q9 := HS5; refine (ref03check K _ nw _ lw _ (HT.out.2.1.up HD5.out) hmw).mono ?_; rintro e w6 ⟨N1, x1, u1, y1, x2, u2, y2, rfl, hw6, _, _, _, _, hb6⟩; have HF6 := Lib.hid hw6; have HE6 := Lib.hid (HE5.out.up hb6); have HD6 := Lib.hid (bstep HD5.out hb6); have HS6 := Lib.hid (And.intro (cp16 hb6 HS5.out.1) (cp16 hb6 HS5.out.2)); clear hw6 hb6)
        | (go_at_call 44; refine (pcheckW K _ nw _ lw _ R (HT.out.1.up (bnil Wb).drew).sent (HT.out.1.up (bnil Wb).drew).sent.glob (HT.out.2.1.up (bnil Wb).drew) hmw).mono ?_; rintro e w5 ⟨ev5, rfl, he5, hb5⟩; have HE5 := Lib.hid he5; have HD5 : Hid (Below Wb.heap.size Wb w5) := (bnil Wb).drew.trans hb5; have HS5 := Lib.hid (And.intro (cp16 hb5 HS0.out.1) (cp16 hb5 HS0.out.2)); clear he5 hb5))
    all_goals
      go_wp2
      go_ret
      exact ⟨rfl, bstep HT.out.2.2 HD7.out⟩
  · skip
    obtain ⟨l, f, hf⟩ := nextE_or K lw
    have HF := Lib.hid hf
    have HLN := Lib.hid (nextE_len hf)
    clear hf
    skip
    go_enter Tryd.func17, Tryd.ntmps17
    have v_p0 : (W.alloc (.cells #[.int .i64 Kd, .int .i64 K, .int .i64 N, .slice (some ⟨gw, 0, none⟩) nw (nw + 2), .slice (some ⟨gv, 0, none⟩) nv (nv + 2), .slice (some ⟨gi, 0, none⟩) ni (ni + 2), .string s] 47)).cell? ⟨W.heap.size, 0, none⟩ = some (.int .i64 Kd) := by rw [HWb.out]; exact T7.out.2.1
    have v_p1 : (W.alloc (.cells #[.int .i64 Kd, .int .i64 K, .int .i64 N, .slice (some ⟨gw, 0, none⟩) nw (nw + 2), .slice (some ⟨gv, 0, none⟩) nv (nv + 2), .slice (some ⟨gi, 0, none⟩) ni (ni + 2), .string s] 47)).cell? ⟨W.heap.size, 1, none⟩ = some (.int .i64 K) := by rw [HWb.out]; exact T7.out.2.2.1
    have v_p2 : (W.alloc (.cells #[.int .i64 Kd, .int .i64 K, .int .i64 N, .slice (some ⟨gw, 0, none⟩) nw (nw + 2), .slice (some ⟨gv, 0, none⟩) nv (nv + 2), .slice (some ⟨gi, 0, none⟩) ni (ni + 2), .string s] 47)).cell? ⟨W.heap.size, 2, none⟩ = some (.int .i64 N) := by rw [HWb.out]; exact T7.out.2.2.2.1
    have v_p3 : (W.alloc (.cells #[.int .i64 Kd, .int .i64 K, .int .i64 N, .slice (some ⟨gw, 0, none⟩) nw (nw + 2), .slice (some ⟨gv, 0, none⟩) nv (nv + 2), .slice (some ⟨gi, 0, none⟩) ni (ni + 2), .string s] 47)).cell? ⟨W.heap.size, 3, none⟩ = some (.slice (some ⟨gw, 0, none⟩) nw (nw + 2)) := by rw [HWb.out]; exact T7.out.2.2.2.2.1
    have v_p4 : (W.alloc (.cells #[.int .i64 Kd, .int .i64 K, .int .i64 N, .slice (some ⟨gw, 0, none⟩) nw (nw + 2), .slice (some ⟨gv, 0, none⟩) nv (nv + 2), .slice (some ⟨gi, 0, none⟩) ni (ni + 2), .string s] 47)).cell? ⟨W.heap.size, 4, none⟩ = some (.slice (some ⟨gv, 0, none⟩) nv (nv + 2)) := by rw [HWb.out]; exact T7.out.2.2.2.2.2.1
    have v_p5 : (W.alloc (.cells #[.int .i64 Kd, .int .i64 K, .int .i64 N, .slice (some ⟨gw, 0, none⟩) nw (nw + 2), .slice (some ⟨gv, 0, none⟩) nv (nv + 2), .slice (some ⟨gi, 0, none⟩) ni (ni + 2), .string s] 47)).cell? ⟨W.heap.size, 5, none⟩ = some (.slice (some ⟨gi, 0, none⟩) ni (ni + 2)) := by rw [HWb.out]; exact T7.out.2.2.2.2.2.2.1
    have v_p6 : (W.alloc (.cells #[.int .i64 Kd, .int .i64 K, .int .i64 N, .slice (some ⟨gw, 0, none⟩) nw (nw + 2), .slice (some ⟨gv, 0, none⟩) nv (nv + 2), .slice (some ⟨gi, 0, none⟩) ni (ni + 2), .string s] 47)).cell? ⟨W.heap.size, 6, none⟩ = some (.string s) := by rw [HWb.out]; exact T7.out.2.2.2.2.2.2.2
    go_wp2_with fail
    rw [HWb.out]
    refine (pnext K (some ⟨gw, 0, none⟩) nw (nw + 2) lw Wb R (T7.out.1.1.1.1.2).sent (T7.out.1.1.1.1.2).sent.glob (LentM.sl T7.out.1.1.1.2 h8w).rk h8w (by omega) (fun h => by cases h) l f HF.out).mono ?_; rintro e wp1 ⟨a1, n1, c1, ev1, rfl, hl1, he1, hbwp1⟩
    clear v_p0 v_p1 v_p2 v_p3 v_p4 v_p5 v_p6
    have T8 := T7.up hbwp1
    clear T7
    have T9 := T8.add (fun wv => RK .i64 wv a1 n1 l) (hl1)
    clear T8
    have T10 := T9.add (fun wv => EC R wv ev1 f) (he1)
    clear T9
    clear he1 hl1
    have v_p0 : wp1.cell? ⟨W.heap.size, 0, none⟩ = some (.int .i64 Kd) := T10.out.1.1.2.1
    have v_p1 : wp1.cell? ⟨W.heap.size, 1, none⟩ = some (.int .i64 K) := T10.out.1.1.2.2.1
    have v_p2 : wp1.cell? ⟨W.heap.size, 2, none⟩ = some (.int .i64 N) := T10.out.1.1.2.2.2.1
    have v_p3 : wp1.cell? ⟨W.heap.size, 3, none⟩ = some (.slice (some ⟨gw, 0, none⟩) nw (nw + 2)) := T10.out.1.1.2.2.2.2.1
    have v_p4 : wp1.cell? ⟨W.heap.size, 4, none⟩ = some (.slice (some ⟨gv, 0, none⟩) nv (nv + 2)) := T10.out.1.1.2.2.2.2.2.1
    have v_p5 : wp1.cell? ⟨W.heap.size, 5, none⟩ = some (.slice (some ⟨gi, 0, none⟩) ni (ni + 2)) := T10.out.1.1.2.2.2.2.2.2.1
    have v_p6 : wp1.cell? ⟨W.heap.size, 6, none⟩ = some (.string s) := T10.out.1.1.2.2.2.2.2.2.2
    go_wp2_with fail
    refine (ref03next K (some ⟨gw, 0, none⟩) nw (nw + 2) lw wp1 (LentM.sl T10.out.1.1.1.1.1.2 h8w).rk h8w (fun h => by cases h) l f HF.out).mono ?_; rintro e wr1 ⟨b1, m1', d1, N1, x1, u1, y1, x1', u1', y1', rfl, hl1, hw1, hbwr1⟩
    clear v_p0 v_p1 v_p2 v_p3 v_p4 v_p5 v_p6
    have T11 := T10.up hbwr1
    clear T10
    have T12 := T11.add (fun wv => RK .i64 wv b1 m1' l) (hl1)
    clear T11
    have T13 := T12.add (fun wv => WC wv (.agg #[.int .i64 N1, .slice x1 u1 y1, .slice x1' u1' y1']) f) (hw1)
    clear T12
    clear hw1 hl1
    obtain ⟨we1, hwe1⟩ : ∃ we1, wr1.alloc (.cells #[.int .i64 N1, .slice x1 u1 y1, .slice x1' u1' y1'] 78) = we1 := ⟨_, rfl⟩
    have hbwe1 : Below wr1.heap.size wr1 we1 := by rw [← hwe1]; exact balloc (bnil wr1) _
    have T14 := T13.up hbwe1
    clear T13
    have T15 := T14.add (fun wv => wv.cell? ⟨wr1.heap.size, 0, none⟩ = some (.int .i64 N1) ∧ wv.cell? ⟨wr1.heap.size, 1, none⟩ = some (.slice x1 u1 y1) ∧ wv.cell? ⟨wr1.heap.size, 2, none⟩ = some (.slice x1' u1' y1')) (by rw [← hwe1]; exact ⟨cnw (by simp) rfl, cnw (by simp) rfl, cnw (by simp) rfl⟩)
    clear T14
    have Hwe1 := Lib.hid hwe1
    clear hwe1 hbwe1
    go_wp2_with fail
    rw [Hwe1.out]
    refine (ints_eqB a1 b1 n1 m1' c1 d1 l we1 T15.out.1.1.1.1.2 T15.out.1.1.2 (Nat.le_trans HLN.out (by decide))).mono ?_; rintro e wi1 ⟨rfl, hbwi1⟩
    have T16 := T15.up hbwi1
    clear T15
    have v_e1x0 : wi1.cell? ⟨wr1.heap.size, 0, none⟩ = some (.int .i64 N1) := T16.out.2.1
    have v_e1x1 : wi1.cell? ⟨wr1.heap.size, 1, none⟩ = some (.slice x1 u1 y1) := T16.out.2.2.1
    have v_e1x2 : wi1.cell? ⟨wr1.heap.size, 2, none⟩ = some (.slice x1' u1' y1') := T16.out.2.2.2
    go_wp2_with fail
    refine (rawIs_ch ev1 _ f wi1 R T16.out.1.1.1.1.1.1.1.1.1.2 T16.out.1.1.1.2 T16.out.1.2).mono ?_; rintro e wj1 ⟨rfl, hbwj1⟩
    clear v_e1x0 v_e1x1 v_e1x2
    have T17 := T16.up hbwj1
    clear T16
    go_wp2
    go_ret
    exact ⟨rfl, T17.out.1.1.1.1.1.1.1.1.1.1.2⟩
  · skip
    obtain ⟨l, f, hf⟩ := indexE_or K lw
    have HF := Lib.hid hf
    have HLN := Lib.hid (indexE_len hf)
    clear hf
    skip
    go_enter Tryd.func17, Tryd.ntmps17
    have v_p0 : (W.alloc (.cells #[.int .i64 Kd, .int .i64 K, .int .i64 N, .slice (some ⟨gw, 0, none⟩) nw (nw + 2), .slice (some ⟨gv, 0, none⟩) nv (nv + 2), .slice (some ⟨gi, 0, none⟩) ni (ni + 2), .string s] 47)).cell? ⟨W.heap.size, 0, none⟩ = some (.int .i64 Kd) := by rw [HWb.out]; exact T7.out.2.1
    have v_p1 : (W.alloc (.cells #[.int .i64 Kd, .int .i64 K, .int .i64 N, .slice (some ⟨gw, 0, none⟩) nw (nw + 2), .slice (some ⟨gv, 0, none⟩) nv (nv + 2), .slice (some ⟨gi, 0, none⟩) ni (ni + 2), .string s] 47)).cell? ⟨W.heap.size, 1, none⟩ = some (.int .i64 K) := by rw [HWb.out]; exact T7.out.2.2.1
    have v_p2 : (W.alloc (.cells #[.int .i64 Kd, .int .i64 K, .int .i64 N, .slice (some ⟨gw, 0, none⟩) nw (nw + 2), .slice (some ⟨gv, 0, none⟩) nv (nv + 2), .slice (some ⟨gi, 0, none⟩) ni (ni + 2), .string s] 47)).cell? ⟨W.heap.size, 2, none⟩ = some (.int .i64 N) := by rw [HWb.out]; exact T7.out.2.2.2.1
    have v_p3 : (W.alloc (.cells #[.int .i64 Kd, .int .i64 K, .int .i64 N, .slice (some ⟨gw, 0, none⟩) nw (nw + 2), .slice (some ⟨gv, 0, none⟩) nv (nv + 2), .slice (some ⟨gi, 0, none⟩) ni (ni + 2), .string s] 47)).cell? ⟨W.heap.size, 3, none⟩ = some (.slice (some ⟨gw, 0, none⟩) nw (nw + 2)) := by rw [HWb.out]; exact T7.out.2.2.2.2.1
    have v_p4 : (W.alloc (.cells #[.int .i64 Kd, .int .i64 K, .int .i64 N, .slice (some ⟨gw, 0, none⟩) nw (nw + 2), .slice (some ⟨gv, 0, none⟩) nv (nv + 2), .slice (some ⟨gi, 0, none⟩) ni (ni + 2), .string s] 47)).cell? ⟨W.heap.size, 4, none⟩ = some (.slice (some ⟨gv, 0, none⟩) nv (nv + 2)) := by rw [HWb.out]; exact T7.out.2.2.2.2.2.1
    have v_p5 : (W.alloc (.cells #[.int .i64 Kd, .int .i64 K, .int .i64 N, .slice (some ⟨gw, 0, none⟩) nw (nw + 2), .slice (some ⟨gv, 0, none⟩) nv (nv + 2), .slice (some ⟨gi, 0, none⟩) ni (ni + 2), .string s] 47)).cell? ⟨W.heap.size, 5, none⟩ = some (.slice (some ⟨gi, 0, none⟩) ni (ni + 2)) := by rw [HWb.out]; exact T7.out.2.2.2.2.2.2.1
    have v_p6 : (W.alloc (.cells #[.int .i64 Kd, .int .i64 K, .int .i64 N, .slice (some ⟨gw, 0, none⟩) nw (nw + 2), .slice (some ⟨gv, 0, none⟩) nv (nv + 2), .slice (some ⟨gi, 0, none⟩) ni (ni + 2), .string s] 47)).cell? ⟨W.heap.size, 6, none⟩ = some (.string s) := by rw [HWb.out]; exact T7.out.2.2.2.2.2.2.2
    go_wp2_with fail
    rw [HWb.out]
    refine (pindex K (some ⟨gw, 0, none⟩) nw (nw + 2) lw Wb R (T7.out.1.1.1.1.2).sent (T7.out.1.1.1.1.2).sent.glob (LentM.sl T7.out.1.1.1.2 h8w).rk hmw l f HF.out).mono ?_; rintro e wp1 ⟨a1, n1, c1, ev1, rfl, hl1, he1, hbwp1⟩
    clear v_p0 v_p1 v_p2 v_p3 v_p4 v_p5 v_p6
    have T8 := T7.up hbwp1
    clear T7
    have T9 := T8.add (fun wv => NR wv a1 n1 (limbs l)) (hl1)
    clear T8
    have T10 := T9.add (fun wv => EC R wv ev1 f) (he1)
    clear T9
    clear he1 hl1
    have v_p0 : wp1.cell? ⟨W.heap.size, 0, none⟩ = some (.int .i64 Kd) := T10.out.1.1.2.1
    have v_p1 : wp1.cell? ⟨W.heap.size, 1, none⟩ = some (.int .i64 K) := T10.out.1.1.2.2.1
    have v_p2 : wp1.cell? ⟨W.heap.size, 2, none⟩ = some (.int .i64 N) := T10.out.1.1.2.2.2.1
    have v_p3 : wp1.cell? ⟨W.heap.size, 3, none⟩ = some (.slice (some ⟨gw, 0, none⟩) nw (nw + 2)) := T10.out.1.1.2.2.2.2.1
    have v_p4 : wp1.cell? ⟨W.heap.size, 4, none⟩ = some (.slice (some ⟨gv, 0, none⟩) nv (nv + 2)) := T10.out.1.1.2.2.2.2.2.1
    have v_p5 : wp1.cell? ⟨W.heap.size, 5, none⟩ = some (.slice (some ⟨gi, 0, none⟩) ni (ni + 2)) := T10.out.1.1.2.2.2.2.2.2.1
    have v_p6 : wp1.cell? ⟨W.heap.size, 6, none⟩ = some (.string s) := T10.out.1.1.2.2.2.2.2.2.2
    go_wp2_with fail
    refine (ref03index K (some ⟨gw, 0, none⟩) nw (nw + 2) lw wp1 (LentM.sl T10.out.1.1.1.1.1.2 h8w).rk hmw l f HF.out).mono ?_; rintro e wr1 ⟨b1, m1', d1, N1, x1, u1, y1, x1', u1', y1', rfl, hl1, hw1, hbwr1⟩
    clear v_p0 v_p1 v_p2 v_p3 v_p4 v_p5 v_p6
    have T11 := T10.up hbwr1
    clear T10
    have T12 := T11.add (fun wv => NR wv b1 m1' (limbs l)) (hl1)
    clear T11
    have T13 := T12.add (fun wv => WC wv (.agg #[.int .i64 N1, .slice x1 u1 y1, .slice x1' u1' y1']) f) (hw1)
    clear T12
    clear hw1 hl1
    obtain ⟨we1, hwe1⟩ : ∃ we1, wr1.alloc (.cells #[.int .i64 N1, .slice x1 u1 y1, .slice x1' u1' y1'] 78) = we1 := ⟨_, rfl⟩
    have hbwe1 : Below wr1.heap.size wr1 we1 := by rw [← hwe1]; exact balloc (bnil wr1) _
    have T14 := T13.up hbwe1
    clear T13
    have T15 := T14.add (fun wv => wv.cell? ⟨wr1.heap.size, 0, none⟩ = some (.int .i64 N1) ∧ wv.cell? ⟨wr1.heap.size, 1, none⟩ = some (.slice x1 u1 y1) ∧ wv.cell? ⟨wr1.heap.size, 2, none⟩ = some (.slice x1' u1' y1')) (by rw [← hwe1]; exact ⟨cnw (by simp) rfl, cnw (by simp) rfl, cnw (by simp) rfl⟩)
    clear T14
    have Hwe1 := Lib.hid hwe1
    clear hwe1 hbwe1
    go_wp2_with fail
    rw [Hwe1.out]
    refine (nats_bP a1 b1 n1 m1' c1 d1 (limbs l) we1 T15.out.1.1.1.1.2 T15.out.1.1.2 (by rw [(show NR _ a1 n1 (limbs l) from T15.out.1.1.1.1.2).len]; exact Nat.le_trans HLN.out (by decide))).mono ?_; rintro e wi1 ⟨rfl, hbwi1⟩
    have T16 := T15.up hbwi1
    clear T15
    have v_e1x0 : wi1.cell? ⟨wr1.heap.size, 0, none⟩ = some (.int .i64 N1) := T16.out.2.1
    have v_e1x1 : wi1.cell? ⟨wr1.heap.size, 1, none⟩ = some (.slice x1 u1 y1) := T16.out.2.2.1
    have v_e1x2 : wi1.cell? ⟨wr1.heap.size, 2, none⟩ = some (.slice x1' u1' y1') := T16.out.2.2.2
    go_wp2_with fail
    refine (rawIs_ch ev1 _ f wi1 R T16.out.1.1.1.1.1.1.1.1.1.2 T16.out.1.1.1.2 T16.out.1.2).mono ?_; rintro e wj1 ⟨rfl, hbwj1⟩
    clear v_e1x0 v_e1x1 v_e1x2
    have T17 := T16.up hbwj1
    clear T16
    go_wp2
    go_ret
    exact ⟨rfl, T17.out.1.1.1.1.1.1.1.1.1.1.2⟩
  · skip
    obtain ⟨l, f, hf⟩ := atE_or K N (val li)
    have HF := Lib.hid hf
    have HLN := Lib.hid (atE_len hf)
    clear hf
    skip
    go_enter Tryd.func17, Tryd.ntmps17
    have v_p0 : (W.alloc (.cells #[.int .i64 Kd, .int .i64 K, .int .i64 N, .slice (some ⟨gw, 0, none⟩) nw (nw + 2), .slice (some ⟨gv, 0, none⟩) nv (nv + 2), .slice (some ⟨gi, 0, none⟩) ni (ni + 2), .string s] 47)).cell? ⟨W.heap.size, 0, none⟩ = some (.int .i64 Kd) := by rw [HWb.out]; exact T7.out.2.1
    have v_p1 : (W.alloc (.cells #[.int .i64 Kd, .int .i64 K, .int .i64 N, .slice (some ⟨gw, 0, none⟩) nw (nw + 2), .slice (some ⟨gv, 0, none⟩) nv (nv + 2), .slice (some ⟨gi, 0, none⟩) ni (ni + 2), .string s] 47)).cell? ⟨W.heap.size, 1, none⟩ = some (.int .i64 K) := by rw [HWb.out]; exact T7.out.2.2.1
    have v_p2 : (W.alloc (.cells #[.int .i64 Kd, .int .i64 K, .int .i64 N, .slice (some ⟨gw, 0, none⟩) nw (nw + 2), .slice (some ⟨gv, 0, none⟩) nv (nv + 2), .slice (some ⟨gi, 0, none⟩) ni (ni + 2), .string s] 47)).cell? ⟨W.heap.size, 2, none⟩ = some (.int .i64 N) := by rw [HWb.out]; exact T7.out.2.2.2.1
    have v_p3 : (W.alloc (.cells #[.int .i64 Kd, .int .i64 K, .int .i64 N, .slice (some ⟨gw, 0, none⟩) nw (nw + 2), .slice (some ⟨gv, 0, none⟩) nv (nv + 2), .slice (some ⟨gi, 0, none⟩) ni (ni + 2), .string s] 47)).cell? ⟨W.heap.size, 3, none⟩ = some (.slice (some ⟨gw, 0, none⟩) nw (nw + 2)) := by rw [HWb.out]; exact T7.out.2.2.2.2.1
    have v_p4 : (W.alloc (.cells #[.int .i64 Kd, .int .i64 K, .int .i64 N, .slice (some ⟨gw, 0, none⟩) nw (nw + 2), .slice (some ⟨gv, 0, none⟩) nv (nv + 2), .slice (some ⟨gi, 0, none⟩) ni (ni + 2), .string s] 47)).cell? ⟨W.heap.size, 4, none⟩ = some (.slice (some ⟨gv, 0, none⟩) nv (nv + 2)) := by rw [HWb.out]; exact T7.out.2.2.2.2.2.1
    have v_p5 : (W.alloc (.cells #[.int .i64 Kd, .int .i64 K, .int .i64 N, .slice (some ⟨gw, 0, none⟩) nw (nw + 2), .slice (some ⟨gv, 0, none⟩) nv (nv + 2), .slice (some ⟨gi, 0, none⟩) ni (ni + 2), .string s] 47)).cell? ⟨W.heap.size, 5, none⟩ = some (.slice (some ⟨gi, 0, none⟩) ni (ni + 2)) := by rw [HWb.out]; exact T7.out.2.2.2.2.2.2.1
    have v_p6 : (W.alloc (.cells #[.int .i64 Kd, .int .i64 K, .int .i64 N, .slice (some ⟨gw, 0, none⟩) nw (nw + 2), .slice (some ⟨gv, 0, none⟩) nv (nv + 2), .slice (some ⟨gi, 0, none⟩) ni (ni + 2), .string s] 47)).cell? ⟨W.heap.size, 6, none⟩ = some (.string s) := by rw [HWb.out]; exact T7.out.2.2.2.2.2.2.2
    go_wp2_with fail
    rw [HWb.out]
    refine (pat K N (some ⟨gi, 0, none⟩) ni (ni + 2) li Wb R (T7.out.1.1.1.1.2).sent (T7.out.1.1.1.1.2).sent.glob (T7.out.1.2).nr (by omega) (by omega) (by unfold maxLen; omega) l f HF.out).mono ?_; rintro e wp1 ⟨a1, n1, c1, ev1, rfl, hl1, he1, hbwp1⟩
    clear v_p0 v_p1 v_p2 v_p3 v_p4 v_p5 v_p6
    have T8 := T7.up hbwp1
    clear T7
    have T9 := T8.add (fun wv => RK .i64 wv a1 n1 l) (hl1)
    clear T8
    have T10 := T9.add (fun wv => EC R wv ev1 f) (he1)
    clear T9
    clear he1 hl1
    have v_p0 : wp1.cell? ⟨W.heap.size, 0, none⟩ = some (.int .i64 Kd) := T10.out.1.1.2.1
    have v_p1 : wp1.cell? ⟨W.heap.size, 1, none⟩ = some (.int .i64 K) := T10.out.1.1.2.2.1
    have v_p2 : wp1.cell? ⟨W.heap.size, 2, none⟩ = some (.int .i64 N) := T10.out.1.1.2.2.2.1
    have v_p3 : wp1.cell? ⟨W.heap.size, 3, none⟩ = some (.slice (some ⟨gw, 0, none⟩) nw (nw + 2)) := T10.out.1.1.2.2.2.2.1
    have v_p4 : wp1.cell? ⟨W.heap.size, 4, none⟩ = some (.slice (some ⟨gv, 0, none⟩) nv (nv + 2)) := T10.out.1.1.2.2.2.2.2.1
    have v_p5 : wp1.cell? ⟨W.heap.size, 5, none⟩ = some (.slice (some ⟨gi, 0, none⟩) ni (ni + 2)) := T10.out.1.1.2.2.2.2.2.2.1
    have v_p6 : wp1.cell? ⟨W.heap.size, 6, none⟩ = some (.string s) := T10.out.1.1.2.2.2.2.2.2.2
    go_wp2_with fail
    refine (ref03at K N (some ⟨gi, 0, none⟩) ni (ni + 2) li wp1 (T10.out.1.1.1.2).nr (by omega) l f HF.out).mono ?_; rintro e wr1 ⟨b1, m1', d1, N1, x1, u1, y1, x1', u1', y1', rfl, hl1, hw1, hbwr1⟩
    clear v_p0 v_p1 v_p2 v_p3 v_p4 v_p5 v_p6
    have T11 := T10.up hbwr1
    clear T10
    have T12 := T11.add (fun wv => RK .i64 wv b1 m1' l) (hl1)
    clear T11
    have T13 := T12.add (fun wv => WC wv (.agg #[.int .i64 N1, .slice x1 u1 y1, .slice x1' u1' y1']) f) (hw1)
    clear T12
    clear hw1 hl1
    obtain ⟨we1, hwe1⟩ : ∃ we1, wr1.alloc (.cells #[.int .i64 N1, .slice x1 u1 y1, .slice x1' u1' y1'] 78) = we1 := ⟨_, rfl⟩
    have hbwe1 : Below wr1.heap.size wr1 we1 := by rw [← hwe1]; exact balloc (bnil wr1) _
    have T14 := T13.up hbwe1
    clear T13
    have T15 := T14.add (fun wv => wv.cell? ⟨wr1.heap.size, 0, none⟩ = some (.int .i64 N1) ∧ wv.cell? ⟨wr1.heap.size, 1, none⟩ = some (.slice x1 u1 y1) ∧ wv.cell? ⟨wr1.heap.size, 2, none⟩ = some (.slice x1' u1' y1')) (by rw [← hwe1]; exact ⟨cnw (by simp) rfl, cnw (by simp) rfl, cnw (by simp) rfl⟩)
    clear T14
    have Hwe1 := Lib.hid hwe1
    clear hwe1 hbwe1
    go_wp2_with fail
    rw [Hwe1.out]
    refine (ints_eqB a1 b1 n1 m1' c1 d1 l we1 T15.out.1.1.1.1.2 T15.out.1.1.2 (Nat.le_trans HLN.out (by decide))).mono ?_; rintro e wi1 ⟨rfl, hbwi1⟩
    have T16 := T15.up hbwi1
    clear T15
    have v_e1x0 : wi1.cell? ⟨wr1.heap.size, 0, none⟩ = some (.int .i64 N1) := T16.out.2.1
    have v_e1x1 : wi1.cell? ⟨wr1.heap.size, 1, none⟩ = some (.slice x1 u1 y1) := T16.out.2.2.1
    have v_e1x2 : wi1.cell? ⟨wr1.heap.size, 2, none⟩ = some (.slice x1' u1' y1') := T16.out.2.2.2
    go_wp2_with fail
    refine (rawIs_ch ev1 _ f wi1 R T16.out.1.1.1.1.1.1.1.1.1.2 T16.out.1.1.1.2 T16.out.1.2).mono ?_; rintro e wj1 ⟨rfl, hbwj1⟩
    clear v_e1x0 v_e1x1 v_e1x2
    have T17 := T16.up hbwj1
    clear T16
    go_wp2
    go_ret
    exact ⟨rfl, T17.out.1.1.1.1.1.1.1.1.1.1.2⟩
  · skip
    obtain ⟨l, f, hf⟩ := textE_or K lw
    have HF := Lib.hid hf
    clear hf
    skip
    go_enter Tryd.func17, Tryd.ntmps17
    have v_p0 : (W.alloc (.cells #[.int .i64 Kd, .int .i64 K, .int .i64 N, .slice (some ⟨gw, 0, none⟩) nw (nw + 2), .slice (some ⟨gv, 0, none⟩) nv (nv + 2), .slice (some ⟨gi, 0, none⟩) ni (ni + 2), .string s] 47)).cell? ⟨W.heap.size, 0, none⟩ = some (.int .i64 Kd) := by rw [HWb.out]; exact T7.out.2.1
    have v_p1 : (W.alloc (.cells #[.int .i64 Kd, .int .i64 K, .int .i64 N, .slice (some ⟨gw, 0, none⟩) nw (nw + 2), .slice (some ⟨gv, 0, none⟩) nv (nv + 2), .slice (some ⟨gi, 0, none⟩) ni (ni + 2), .string s] 47)).cell? ⟨W.heap.size, 1, none⟩ = some (.int .i64 K) := by rw [HWb.out]; exact T7.out.2.2.1
    have v_p2 : (W.alloc (.cells #[.int .i64 Kd, .int .i64 K, .int .i64 N, .slice (some ⟨gw, 0, none⟩) nw (nw + 2), .slice (some ⟨gv, 0, none⟩) nv (nv + 2), .slice (some ⟨gi, 0, none⟩) ni (ni + 2), .string s] 47)).cell? ⟨W.heap.size, 2, none⟩ = some (.int .i64 N) := by rw [HWb.out]; exact T7.out.2.2.2.1
    have v_p3 : (W.alloc (.cells #[.int .i64 Kd, .int .i64 K, .int .i64 N, .slice (some ⟨gw, 0, none⟩) nw (nw + 2), .slice (some ⟨gv, 0, none⟩) nv (nv + 2), .slice (some ⟨gi, 0, none⟩) ni (ni + 2), .string s] 47)).cell? ⟨W.heap.size, 3, none⟩ = some (.slice (some ⟨gw, 0, none⟩) nw (nw + 2)) := by rw [HWb.out]; exact T7.out.2.2.2.2.1
    have v_p4 : (W.alloc (.cells #[.int .i64 Kd, .int .i64 K, .int .i64 N, .slice (some ⟨gw, 0, none⟩) nw (nw + 2), .slice (some ⟨gv, 0, none⟩) nv (nv + 2), .slice (some ⟨gi, 0, none⟩) ni (ni + 2), .string s] 47)).cell? ⟨W.heap.size, 4, none⟩ = some (.slice (some ⟨gv, 0, none⟩) nv (nv + 2)) := by rw [HWb.out]; exact T7.out.2.2.2.2.2.1
    have v_p5 : (W.alloc (.cells #[.int .i64 Kd, .int .i64 K, .int .i64 N, .slice (some ⟨gw, 0, none⟩) nw (nw + 2), .slice (some ⟨gv, 0, none⟩) nv (nv + 2), .slice (some ⟨gi, 0, none⟩) ni (ni + 2), .string s] 47)).cell? ⟨W.heap.size, 5, none⟩ = some (.slice (some ⟨gi, 0, none⟩) ni (ni + 2)) := by rw [HWb.out]; exact T7.out.2.2.2.2.2.2.1
    have v_p6 : (W.alloc (.cells #[.int .i64 Kd, .int .i64 K, .int .i64 N, .slice (some ⟨gw, 0, none⟩) nw (nw + 2), .slice (some ⟨gv, 0, none⟩) nv (nv + 2), .slice (some ⟨gi, 0, none⟩) ni (ni + 2), .string s] 47)).cell? ⟨W.heap.size, 6, none⟩ = some (.string s) := by rw [HWb.out]; exact T7.out.2.2.2.2.2.2.2
    go_wp2_with fail
    rw [HWb.out]
    refine (ptext K (some ⟨gw, 0, none⟩) nw (nw + 2) lw Wb R (T7.out.1.1.1.1.2).sent (T7.out.1.1.1.1.2).sent.glob (LentM.sl T7.out.1.1.1.2 h8w).rk hmw l f HF.out).mono ?_; rintro e wp1 ⟨ev1, rfl, he1, hbwp1⟩
    clear v_p0 v_p1 v_p2 v_p3 v_p4 v_p5 v_p6
    have T8 := T7.up hbwp1
    clear T7
    have T9 := T8.add (fun wv => EC R wv ev1 f) (he1)
    clear T8
    clear he1
    have v_p0 : wp1.cell? ⟨W.heap.size, 0, none⟩ = some (.int .i64 Kd) := T9.out.1.2.1
    have v_p1 : wp1.cell? ⟨W.heap.size, 1, none⟩ = some (.int .i64 K) := T9.out.1.2.2.1
    have v_p2 : wp1.cell? ⟨W.heap.size, 2, none⟩ = some (.int .i64 N) := T9.out.1.2.2.2.1
    have v_p3 : wp1.cell? ⟨W.heap.size, 3, none⟩ = some (.slice (some ⟨gw, 0, none⟩) nw (nw + 2)) := T9.out.1.2.2.2.2.1
    have v_p4 : wp1.cell? ⟨W.heap.size, 4, none⟩ = some (.slice (some ⟨gv, 0, none⟩) nv (nv + 2)) := T9.out.1.2.2.2.2.2.1
    have v_p5 : wp1.cell? ⟨W.heap.size, 5, none⟩ = some (.slice (some ⟨gi, 0, none⟩) ni (ni + 2)) := T9.out.1.2.2.2.2.2.2.1
    have v_p6 : wp1.cell? ⟨W.heap.size, 6, none⟩ = some (.string s) := T9.out.1.2.2.2.2.2.2.2
    go_wp2_with fail
    refine (ref03text K (some ⟨gw, 0, none⟩) nw (nw + 2) lw wp1 (LentM.sl T9.out.1.1.1.1.2 h8w).rk hmw l f HF.out).mono ?_; rintro e wr1 ⟨N1, x1, u1, y1, x1', u1', y1', rfl, hw1, hbwr1⟩
    clear v_p0 v_p1 v_p2 v_p3 v_p4 v_p5 v_p6
    have T10 := T9.up hbwr1
    clear T9
    have T11 := T10.add (fun wv => WC wv (.agg #[.int .i64 N1, .slice x1 u1 y1, .slice x1' u1' y1']) f) (hw1)
    clear T10
    clear hw1
    obtain ⟨we1, hwe1⟩ : ∃ we1, wr1.alloc (.cells #[.int .i64 N1, .slice x1 u1 y1, .slice x1' u1' y1'] 78) = we1 := ⟨_, rfl⟩
    have hbwe1 : Below wr1.heap.size wr1 we1 := by rw [← hwe1]; exact balloc (bnil wr1) _
    have T12 := T11.up hbwe1
    clear T11
    have T13 := T12.add (fun wv => wv.cell? ⟨wr1.heap.size, 0, none⟩ = some (.int .i64 N1) ∧ wv.cell? ⟨wr1.heap.size, 1, none⟩ = some (.slice x1 u1 y1) ∧ wv.cell? ⟨wr1.heap.size, 2, none⟩ = some (.slice x1' u1' y1')) (by rw [← hwe1]; exact ⟨cnw (by simp) rfl, cnw (by simp) rfl, cnw (by simp) rfl⟩)
    clear T12
    have Hwe1 := Lib.hid hwe1
    clear hwe1 hbwe1
    have v_e1x0 : (wr1.alloc (.cells #[.int .i64 N1, .slice x1 u1 y1, .slice x1' u1' y1'] 78)).cell? ⟨wr1.heap.size, 0, none⟩ = some (.int .i64 N1) := by rw [Hwe1.out]; exact T13.out.2.1
    have v_e1x1 : (wr1.alloc (.cells #[.int .i64 N1, .slice x1 u1 y1, .slice x1' u1' y1'] 78)).cell? ⟨wr1.heap.size, 1, none⟩ = some (.slice x1 u1 y1) := by rw [Hwe1.out]; exact T13.out.2.2.1
    have v_e1x2 : (wr1.alloc (.cells #[.int .i64 N1, .slice x1 u1 y1, .slice x1' u1' y1'] 78)).cell? ⟨wr1.heap.size, 2, none⟩ = some (.slice x1' u1' y1') := by rw [Hwe1.out]; exact T13.out.2.2.2
    go_wp2_with fail
    rw [Hwe1.out]
    refine (rawIs_ch ev1 _ f we1 R T13.out.1.1.1.1.1.1.1.2 T13.out.1.1.2 T13.out.1.2).mono ?_; rintro e wj1 ⟨rfl, hbwj1⟩
    clear v_e1x0 v_e1x1 v_e1x2
    have T14 := T13.up hbwj1
    clear T13
    go_wp2
    go_ret
    exact ⟨rfl, T14.out.1.1.1.1.1.1.1.1.2⟩
  · skip
    obtain ⟨l, f, hf⟩ := parseE_or K s
    have HF := Lib.hid hf
    have HLN := Lib.hid (parseE_len hf)
    clear hf
    skip
    go_enter Tryd.func17, Tryd.ntmps17
    have v_p0 : (W.alloc (.cells #[.int .i64 Kd, .int .i64 K, .int .i64 N, .slice (some ⟨gw, 0, none⟩) nw (nw + 2), .slice (some ⟨gv, 0, none⟩) nv (nv + 2), .slice (some ⟨gi, 0, none⟩) ni (ni + 2), .string s] 47)).cell? ⟨W.heap.size, 0, none⟩ = some (.int .i64 Kd) := by rw [HWb.out]; exact T7.out.2.1
    have v_p1 : (W.alloc (.cells #[.int .i64 Kd, .int .i64 K, .int .i64 N, .slice (some ⟨gw, 0, none⟩) nw (nw + 2), .slice (some ⟨gv, 0, none⟩) nv (nv + 2), .slice (some ⟨gi, 0, none⟩) ni (ni + 2), .string s] 47)).cell? ⟨W.heap.size, 1, none⟩ = some (.int .i64 K) := by rw [HWb.out]; exact T7.out.2.2.1
    have v_p2 : (W.alloc (.cells #[.int .i64 Kd, .int .i64 K, .int .i64 N, .slice (some ⟨gw, 0, none⟩) nw (nw + 2), .slice (some ⟨gv, 0, none⟩) nv (nv + 2), .slice (some ⟨gi, 0, none⟩) ni (ni + 2), .string s] 47)).cell? ⟨W.heap.size, 2, none⟩ = some (.int .i64 N) := by rw [HWb.out]; exact T7.out.2.2.2.1
    have v_p3 : (W.alloc (.cells #[.int .i64 Kd, .int .i64 K, .int .i64 N, .slice (some ⟨gw, 0, none⟩) nw (nw + 2), .slice (some ⟨gv, 0, none⟩) nv (nv + 2), .slice (some ⟨gi, 0, none⟩) ni (ni + 2), .string s] 47)).cell? ⟨W.heap.size, 3, none⟩ = some (.slice (some ⟨gw, 0, none⟩) nw (nw + 2)) := by rw [HWb.out]; exact T7.out.2.2.2.2.1
    have v_p4 : (W.alloc (.cells #[.int .i64 Kd, .int .i64 K, .int .i64 N, .slice (some ⟨gw, 0, none⟩) nw (nw + 2), .slice (some ⟨gv, 0, none⟩) nv (nv + 2), .slice (some ⟨gi, 0, none⟩) ni (ni + 2), .string s] 47)).cell? ⟨W.heap.size, 4, none⟩ = some (.slice (some ⟨gv, 0, none⟩) nv (nv + 2)) := by rw [HWb.out]; exact T7.out.2.2.2.2.2.1
    have v_p5 : (W.alloc (.cells #[.int .i64 Kd, .int .i64 K, .int .i64 N, .slice (some ⟨gw, 0, none⟩) nw (nw + 2), .slice (some ⟨gv, 0, none⟩) nv (nv + 2), .slice (some ⟨gi, 0, none⟩) ni (ni + 2), .string s] 47)).cell? ⟨W.heap.size, 5, none⟩ = some (.slice (some ⟨gi, 0, none⟩) ni (ni + 2)) := by rw [HWb.out]; exact T7.out.2.2.2.2.2.2.1
    have v_p6 : (W.alloc (.cells #[.int .i64 Kd, .int .i64 K, .int .i64 N, .slice (some ⟨gw, 0, none⟩) nw (nw + 2), .slice (some ⟨gv, 0, none⟩) nv (nv + 2), .slice (some ⟨gi, 0, none⟩) ni (ni + 2), .string s] 47)).cell? ⟨W.heap.size, 6, none⟩ = some (.string s) := by rw [HWb.out]; exact T7.out.2.2.2.2.2.2.2
    go_wp2_with fail
    rw [HWb.out]
    refine (pparse K s Wb R (T7.out.1.1.1.1.2).sent (T7.out.1.1.1.1.2).sent.glob hs l f HF.out).mono ?_; rintro e wp1 ⟨a1, n1, c1, ev1, rfl, hl1, he1, hbwp1⟩
    clear v_p0 v_p1 v_p2 v_p3 v_p4 v_p5 v_p6
    have T8 := T7.up hbwp1
    clear T7
    have T9 := T8.add (fun wv => RK .i64 wv a1 n1 l) (hl1)
    clear T8
    have T10 := T9.add (fun wv => EC R wv ev1 f) (he1)
    clear T9
    clear he1 hl1
    have v_p0 : wp1.cell? ⟨W.heap.size, 0, none⟩ = some (.int .i64 Kd) := T10.out.1.1.2.1
    have v_p1 : wp1.cell? ⟨W.heap.size, 1, none⟩ = some (.int .i64 K) := T10.out.1.1.2.2.1
    have v_p2 : wp1.cell? ⟨W.heap.size, 2, none⟩ = some (.int .i64 N) := T10.out.1.1.2.2.2.1
    have v_p3 : wp1.cell? ⟨W.heap.size, 3, none⟩ = some (.slice (some ⟨gw, 0, none⟩) nw (nw + 2)) := T10.out.1.1.2.2.2.2.1
    have v_p4 : wp1.cell? ⟨W.heap.size, 4, none⟩ = some (.slice (some ⟨gv, 0, none⟩) nv (nv + 2)) := T10.out.1.1.2.2.2.2.2.1
    have v_p5 : wp1.cell? ⟨W.heap.size, 5, none⟩ = some (.slice (some ⟨gi, 0, none⟩) ni (ni + 2)) := T10.out.1.1.2.2.2.2.2.2.1
    have v_p6 : wp1.cell? ⟨W.heap.size, 6, none⟩ = some (.string s) := T10.out.1.1.2.2.2.2.2.2.2
    go_wp2_with fail
    refine (ref03parse K s wp1 hs l f HF.out).mono ?_; rintro e wr1 ⟨b1, m1', d1, N1, x1, u1, y1, x1', u1', y1', rfl, hl1, hw1, hbwr1⟩
    clear v_p0 v_p1 v_p2 v_p3 v_p4 v_p5 v_p6
    have T11 := T10.up hbwr1
    clear T10
    have T12 := T11.add (fun wv => RK .i64 wv b1 m1' l) (hl1)
    clear T11
    have T13 := T12.add (fun wv => WC wv (.agg #[.int .i64 N1, .slice x1 u1 y1, .slice x1' u1' y1']) f) (hw1)
    clear T12
    clear hw1 hl1
    obtain ⟨we1, hwe1⟩ : ∃ we1, wr1.alloc (.cells #[.int .i64 N1, .slice x1 u1 y1, .slice x1' u1' y1'] 78) = we1 := ⟨_, rfl⟩
    have hbwe1 : Below wr1.heap.size wr1 we1 := by rw [← hwe1]; exact balloc (bnil wr1) _
    have T14 := T13.up hbwe1
    clear T13
    have T15 := T14.add (fun wv => wv.cell? ⟨wr1.heap.size, 0, none⟩ = some (.int .i64 N1) ∧ wv.cell? ⟨wr1.heap.size, 1, none⟩ = some (.slice x1 u1 y1) ∧ wv.cell? ⟨wr1.heap.size, 2, none⟩ = some (.slice x1' u1' y1')) (by rw [← hwe1]; exact ⟨cnw (by simp) rfl, cnw (by simp) rfl, cnw (by simp) rfl⟩)
    clear T14
    have Hwe1 := Lib.hid hwe1
    clear hwe1 hbwe1
    go_wp2_with fail
    rw [Hwe1.out]
    refine (ints_eqB a1 b1 n1 m1' c1 d1 l we1 T15.out.1.1.1.1.2 T15.out.1.1.2 (Nat.le_trans HLN.out (by decide))).mono ?_; rintro e wi1 ⟨rfl, hbwi1⟩
    have T16 := T15.up hbwi1
    clear T15
    have v_e1x0 : wi1.cell? ⟨wr1.heap.size, 0, none⟩ = some (.int .i64 N1) := T16.out.2.1
    have v_e1x1 : wi1.cell? ⟨wr1.heap.size, 1, none⟩ = some (.slice x1 u1 y1) := T16.out.2.2.1
    have v_e1x2 : wi1.cell? ⟨wr1.heap.size, 2, none⟩ = some (.slice x1' u1' y1') := T16.out.2.2.2
    go_wp2_with fail
    refine (rawIs_ch ev1 _ f wi1 R T16.out.1.1.1.1.1.1.1.1.1.2 T16.out.1.1.1.2 T16.out.1.2).mono ?_; rintro e wj1 ⟨rfl, hbwj1⟩
    clear v_e1x0 v_e1x1 v_e1x2
    have T17 := T16.up hbwj1
    clear T16
    go_wp2
    go_ret
    exact ⟨rfl, T17.out.1.1.1.1.1.1.1.1.1.1.2⟩
  · skip
    obtain ⟨l, f, hf⟩ := timesE_or lw N
    have HF := Lib.hid hf
    have HLN := Lib.hid (timesE_len hf)
    clear hf
    skip
    go_enter Tryd.func17, Tryd.ntmps17
    have v_p0 : (W.alloc (.cells #[.int .i64 Kd, .int .i64 K, .int .i64 N, .slice (some ⟨gw, 0, none⟩) nw (nw + 2), .slice (some ⟨gv, 0, none⟩) nv (nv + 2), .slice (some ⟨gi, 0, none⟩) ni (ni + 2), .string s] 47)).cell? ⟨W.heap.size, 0, none⟩ = some (.int .i64 Kd) := by rw [HWb.out]; exact T7.out.2.1
    have v_p1 : (W.alloc (.cells #[.int .i64 Kd, .int .i64 K, .int .i64 N, .slice (some ⟨gw, 0, none⟩) nw (nw + 2), .slice (some ⟨gv, 0, none⟩) nv (nv + 2), .slice (some ⟨gi, 0, none⟩) ni (ni + 2), .string s] 47)).cell? ⟨W.heap.size, 1, none⟩ = some (.int .i64 K) := by rw [HWb.out]; exact T7.out.2.2.1
    have v_p2 : (W.alloc (.cells #[.int .i64 Kd, .int .i64 K, .int .i64 N, .slice (some ⟨gw, 0, none⟩) nw (nw + 2), .slice (some ⟨gv, 0, none⟩) nv (nv + 2), .slice (some ⟨gi, 0, none⟩) ni (ni + 2), .string s] 47)).cell? ⟨W.heap.size, 2, none⟩ = some (.int .i64 N) := by rw [HWb.out]; exact T7.out.2.2.2.1
    have v_p3 : (W.alloc (.cells #[.int .i64 Kd, .int .i64 K, .int .i64 N, .slice (some ⟨gw, 0, none⟩) nw (nw + 2), .slice (some ⟨gv, 0, none⟩) nv (nv + 2), .slice (some ⟨gi, 0, none⟩) ni (ni + 2), .string s] 47)).cell? ⟨W.heap.size, 3, none⟩ = some (.slice (some ⟨gw, 0, none⟩) nw (nw + 2)) := by rw [HWb.out]; exact T7.out.2.2.2.2.1
    have v_p4 : (W.alloc (.cells #[.int .i64 Kd, .int .i64 K, .int .i64 N, .slice (some ⟨gw, 0, none⟩) nw (nw + 2), .slice (some ⟨gv, 0, none⟩) nv (nv + 2), .slice (some ⟨gi, 0, none⟩) ni (ni + 2), .string s] 47)).cell? ⟨W.heap.size, 4, none⟩ = some (.slice (some ⟨gv, 0, none⟩) nv (nv + 2)) := by rw [HWb.out]; exact T7.out.2.2.2.2.2.1
    have v_p5 : (W.alloc (.cells #[.int .i64 Kd, .int .i64 K, .int .i64 N, .slice (some ⟨gw, 0, none⟩) nw (nw + 2), .slice (some ⟨gv, 0, none⟩) nv (nv + 2), .slice (some ⟨gi, 0, none⟩) ni (ni + 2), .string s] 47)).cell? ⟨W.heap.size, 5, none⟩ = some (.slice (some ⟨gi, 0, none⟩) ni (ni + 2)) := by rw [HWb.out]; exact T7.out.2.2.2.2.2.2.1
    have v_p6 : (W.alloc (.cells #[.int .i64 Kd, .int .i64 K, .int .i64 N, .slice (some ⟨gw, 0, none⟩) nw (nw + 2), .slice (some ⟨gv, 0, none⟩) nv (nv + 2), .slice (some ⟨gi, 0, none⟩) ni (ni + 2), .string s] 47)).cell? ⟨W.heap.size, 6, none⟩ = some (.string s) := by rw [HWb.out]; exact T7.out.2.2.2.2.2.2.2
    go_wp2_with fail
    rw [HWb.out]
    refine (ptimes (some ⟨gw, 0, none⟩) nw (nw + 2) lw N Wb R (T7.out.1.1.1.1.2).sent (T7.out.1.1.1.1.2).sent.glob (LentM.sl T7.out.1.1.1.2 h8w).rk h8w l f HF.out).mono ?_; rintro e wp1 ⟨a1, n1, c1, ev1, rfl, hl1, he1, hbwp1⟩
    clear v_p0 v_p1 v_p2 v_p3 v_p4 v_p5 v_p6
    have T8 := T7.up hbwp1
    clear T7
    have T9 := T8.add (fun wv => RK .i64 wv a1 n1 l) (hl1)
    clear T8
    have T10 := T9.add (fun wv => EC R wv ev1 f) (he1)
    clear T9
    clear he1 hl1
    have v_p0 : wp1.cell? ⟨W.heap.size, 0, none⟩ = some (.int .i64 Kd) := T10.out.1.1.2.1
    have v_p1 : wp1.cell? ⟨W.heap.size, 1, none⟩ = some (.int .i64 K) := T10.out.1.1.2.2.1
    have v_p2 : wp1.cell? ⟨W.heap.size, 2, none⟩ = some (.int .i64 N) := T10.out.1.1.2.2.2.1
    have v_p3 : wp1.cell? ⟨W.heap.size, 3, none⟩ = some (.slice (some ⟨gw, 0, none⟩) nw (nw + 2)) := T10.out.1.1.2.2.2.2.1
    have v_p4 : wp1.cell? ⟨W.heap.size, 4, none⟩ = some (.slice (some ⟨gv, 0, none⟩) nv (nv + 2)) := T10.out.1.1.2.2.2.2.2.1
    have v_p5 : wp1.cell? ⟨W.heap.size, 5, none⟩ = some (.slice (some ⟨gi, 0, none⟩) ni (ni + 2)) := T10.out.1.1.2.2.2.2.2.2.1
    have v_p6 : wp1.cell? ⟨W.heap.size, 6, none⟩ = some (.string s) := T10.out.1.1.2.2.2.2.2.2.2
    go_wp2_with fail
    refine (ref03times (some ⟨gw, 0, none⟩) nw (nw + 2) lw N wp1 (LentM.sl T10.out.1.1.1.1.1.2 h8w).rk h8w (fun h => by cases h) l f HF.out).mono ?_; rintro e wr1 ⟨b1, m1', d1, N1, x1, u1, y1, x1', u1', y1', rfl, hl1, hw1, hbwr1⟩
    clear v_p0 v_p1 v_p2 v_p3 v_p4 v_p5 v_p6
    have T11 := T10.up hbwr1
    clear T10
    have T12 := T11.add (fun wv => RK .i64 wv b1 m1' l) (hl1)
    clear T11
    have T13 := T12.add (fun wv => WC wv (.agg #[.int .i64 N1, .slice x1 u1 y1, .slice x1' u1' y1']) f) (hw1)
    clear T12
    clear hw1 hl1
    obtain ⟨we1, hwe1⟩ : ∃ we1, wr1.alloc (.cells #[.int .i64 N1, .slice x1 u1 y1, .slice x1' u1' y1'] 78) = we1 := ⟨_, rfl⟩
    have hbwe1 : Below wr1.heap.size wr1 we1 := by rw [← hwe1]; exact balloc (bnil wr1) _
    have T14 := T13.up hbwe1
    clear T13
    have T15 := T14.add (fun wv => wv.cell? ⟨wr1.heap.size, 0, none⟩ = some (.int .i64 N1) ∧ wv.cell? ⟨wr1.heap.size, 1, none⟩ = some (.slice x1 u1 y1) ∧ wv.cell? ⟨wr1.heap.size, 2, none⟩ = some (.slice x1' u1' y1')) (by rw [← hwe1]; exact ⟨cnw (by simp) rfl, cnw (by simp) rfl, cnw (by simp) rfl⟩)
    clear T14
    have Hwe1 := Lib.hid hwe1
    clear hwe1 hbwe1
    go_wp2_with fail
    rw [Hwe1.out]
    refine (ints_eqB a1 b1 n1 m1' c1 d1 l we1 T15.out.1.1.1.1.2 T15.out.1.1.2 (Nat.le_trans HLN.out (by decide))).mono ?_; rintro e wi1 ⟨rfl, hbwi1⟩
    have T16 := T15.up hbwi1
    clear T15
    have v_e1x0 : wi1.cell? ⟨wr1.heap.size, 0, none⟩ = some (.int .i64 N1) := T16.out.2.1
    have v_e1x1 : wi1.cell? ⟨wr1.heap.size, 1, none⟩ = some (.slice x1 u1 y1) := T16.out.2.2.1
    have v_e1x2 : wi1.cell? ⟨wr1.heap.size, 2, none⟩ = some (.slice x1' u1' y1') := T16.out.2.2.2
    go_wp2_with fail
    refine (rawIs_ch ev1 _ f wi1 R T16.out.1.1.1.1.1.1.1.1.1.2 T16.out.1.1.1.2 T16.out.1.2).mono ?_; rintro e wj1 ⟨rfl, hbwj1⟩
    clear v_e1x0 v_e1x1 v_e1x2
    have T17 := T16.up hbwj1
    clear T16
    go_wp2
    go_ret
    exact ⟨rfl, T17.out.1.1.1.1.1.1.1.1.1.1.2⟩
  · skip
    go_enter Tryd.func17, Tryd.ntmps17
    have v_p0 : (W.alloc (.cells #[.int .i64 Kd, .int .i64 K, .int .i64 N, .slice (some ⟨gw, 0, none⟩) nw (nw + 2), .slice (some ⟨gv, 0, none⟩) nv (nv + 2), .slice (some ⟨gi, 0, none⟩) ni (ni + 2), .string s] 47)).cell? ⟨W.heap.size, 0, none⟩ = some (.int .i64 Kd) := by rw [HWb.out]; exact T7.out.2.1
    have v_p1 : (W.alloc (.cells #[.int .i64 Kd, .int .i64 K, .int .i64 N, .slice (some ⟨gw, 0, none⟩) nw (nw + 2), .slice (some ⟨gv, 0, none⟩) nv (nv + 2), .slice (some ⟨gi, 0, none⟩) ni (ni + 2), .string s] 47)).cell? ⟨W.heap.size, 1, none⟩ = some (.int .i64 K) := by rw [HWb.out]; exact T7.out.2.2.1
    have v_p2 : (W.alloc (.cells #[.int .i64 Kd, .int .i64 K, .int .i64 N, .slice (some ⟨gw, 0, none⟩) nw (nw + 2), .slice (some ⟨gv, 0, none⟩) nv (nv + 2), .slice (some ⟨gi, 0, none⟩) ni (ni + 2), .string s] 47)).cell? ⟨W.heap.size, 2, none⟩ = some (.int .i64 N) := by rw [HWb.out]; exact T7.out.2.2.2.1
    have v_p3 : (W.alloc (.cells #[.int .i64 Kd, .int .i64 K, .int .i64 N, .slice (some ⟨gw, 0, none⟩) nw (nw + 2), .slice (some ⟨gv, 0, none⟩) nv (nv + 2), .slice (some ⟨gi, 0, none⟩) ni (ni + 2), .string s] 47)).cell? ⟨W.heap.size, 3, none⟩ = some (.slice (some ⟨gw, 0, none⟩) nw (nw + 2)) := by rw [HWb.out]; exact T7.out.2.2.2.2.1
    have v_p4 : (W.alloc (.cells #[.int .i64 Kd, .int .i64 K, .int .i64 N, .slice (some ⟨gw, 0, none⟩) nw (nw + 2), .slice (some ⟨gv, 0, none⟩) nv (nv + 2), .slice (some ⟨gi, 0, none⟩) ni (ni + 2), .string s] 47)).cell? ⟨W.heap.size, 4, none⟩ = some (.slice (some ⟨gv, 0, none⟩) nv (nv + 2)) := by rw [HWb.out]; exact T7.out.2.2.2.2.2.1
    have v_p5 : (W.alloc (.cells #[.int .i64 Kd, .int .i64 K, .int .i64 N, .slice (some ⟨gw, 0, none⟩) nw (nw + 2), .slice (some ⟨gv, 0, none⟩) nv (nv + 2), .slice (some ⟨gi, 0, none⟩) ni (ni + 2), .string s] 47)).cell? ⟨W.heap.size, 5, none⟩ = some (.slice (some ⟨gi, 0, none⟩) ni (ni + 2)) := by rw [HWb.out]; exact T7.out.2.2.2.2.2.2.1
    have v_p6 : (W.alloc (.cells #[.int .i64 Kd, .int .i64 K, .int .i64 N, .slice (some ⟨gw, 0, none⟩) nw (nw + 2), .slice (some ⟨gv, 0, none⟩) nv (nv + 2), .slice (some ⟨gi, 0, none⟩) ni (ni + 2), .string s] 47)).cell? ⟨W.heap.size, 6, none⟩ = some (.string s) := by rw [HWb.out]; exact T7.out.2.2.2.2.2.2.2
    have HS0 : Hid (Wb.drew.cell? ⟨W.heap.size, 2, none⟩ = some (.int .i64 N) ∧ Wb.drew.cell? ⟨W.heap.size, 3, none⟩ = some (.slice (some ⟨gw, 0, none⟩) nw (nw + 2)) ∧ Wb.drew.cell? ⟨W.heap.size, 4, none⟩ = some (.slice (some ⟨gv, 0, none⟩) nv (nv + 2))) := ⟨T7.out.2.2.2.1, T7.out.2.2.2.2.1, T7.out.2.2.2.2.2.1⟩
    have HT := Lib.hid (show SlI Wb (some ⟨gw, 0, none⟩) nw (nw + 2) lw ∧ SlI Wb (some ⟨gv, 0, none⟩) nv (nv + 2) lv ∧ Below W.heap.size W Wb from ⟨LentM.sl T7.out.1.1.1.2 h8w, LentM.sl T7.out.1.1.2 h8v, T7.out.1.1.1.1.1.2⟩)
    go_wp2_with fail
    rw [HWb.out]
    go_region_held3 (fun w' => w'.cell? ⟨W.heap.size, 2, none⟩ = some (.int .i64 N) ∧ w'.cell? ⟨W.heap.size, 3, none⟩ = some (.slice (some ⟨gw, 0, none⟩) nw (nw + 2)) ∧ w'.cell? ⟨W.heap.size, 4, none⟩ = some (.slice (some ⟨gv, 0, none⟩) nv (nv + 2)))
      (first | with_reducible exact HS8.out | with_reducible exact HS7.out | with_reducible exact HS6.out | with_reducible exact HS5.out | with_reducible exact HS4.out | with_reducible exact HS3.out | with_reducible exact HS2.out | with_reducible exact HS1.out | with_reducible exact HS0.out | go_keep)
      (first
        | (go_at_call 9; have q9 := HS7; refine (ints_eqB a6 a7 nw nw c6 c7 (rot lw (turnAt N nw)) _ HO67.out HO7.out (by rw [← HO7.out.len]; exact hmw)).mono ?_; rintro e v8 ⟨rfl, hb8⟩; have HD8 := Lib.hid (bstep HD7.out hb8); have HS8 := Lib.hid (And.intro (cp16 hb8 HS7.out.1) (And.intro (cp16 hb8 HS7.out.2.1) (cp16 hb8 HS7.out.2.2))); clear hb8)
        | (go_at_call 61; have q9 := HS6; refine (refTurn_any _ _ _ lw N _ ((HT.out.1.up HD6.out).rk) h8w).mono ?_; rintro e v7 ⟨a7, c7, rfl, ho7, hb7⟩; have HO7 := Lib.hid (RK.of_own ho7); have HO67 := Lib.hid (HO6.out.up hb7); have HD7 := Lib.hid (bstep HD6.out hb7); have HS7 := Lib.hid (And.intro (cp16 hb7 HS6.out.1) (And.intro (cp16 hb7 HS6.out.2.1) (cp16 hb7 HS6.out.2.2))); clear ho7 hb7)
        | (go_at_call 60; have q9 := HS5; refine (turn_any _ _ _ lw N _ ((HT.out.1.up HD5.out).rk) (by omega) h8w hmw2 (fun h => by cases h)).mono ?_; rintro e v6 ⟨a6, c6, rfl, ho6, hb6⟩; have HO6 := Lib.hid (RK.of_own ho6); have HD6 := Lib.hid (bstep HD5.out hb6); have HS6 := Lib.hid (And.intro (cp16 hb6 HS5.out.1) (And.intro (cp16 hb6 HS5.out.2.1) (cp16 hb6 HS5.out.2.2))); clear ho6 hb6)
        | (go_at_call 9; have q9 := HS4; refine (ints_eqB a3 a4 nw nw c3 c4 lw.reverse _ HO34.out HO4.out (by rw [List.length_reverse, ← HLW.out]; exact hmw)).mono ?_; rintro e v5 ⟨rfl, hb5⟩; have HD5 := Lib.hid (bstep HD4.out hb5); have HS5 := Lib.hid (And.intro (cp16 hb5 HS4.out.1) (And.intro (cp16 hb5 HS4.out.2.1) (cp16 hb5 HS4.out.2.2))); clear hb5)
        | (go_at_call 59; have q9 := HS3; refine (refBack_any _ _ _ lw _ ((HT.out.1.up HD3.out).rk) h8w).mono ?_; rintro e v4 ⟨a4, c4, rfl, ho4, hb4⟩; have HO4 := Lib.hid (RK.of_own ho4); have HO34 := Lib.hid (HO3.out.up hb4); have HD4 := Lib.hid (bstep HD3.out hb4); have HS4 := Lib.hid (And.intro (cp16 hb4 HS3.out.1) (And.intro (cp16 hb4 HS3.out.2.1) (cp16 hb4 HS3.out.2.2))); clear ho4 hb4)
        | (go_at_call 58; have q9 := HS2; refine (back_any _ _ _ lw _ ((HT.out.1.up HD2.out).rk) h8w (by omega) (fun h => by cases h)).mono ?_; rintro e v3 ⟨a3, c3, rfl, ho3, hb3⟩; have HO3 := Lib.hid (RK.of_own ho3); have HD3 := Lib.hid (bstep HD2.out hb3); have HS3 := Lib.hid (And.intro (cp16 hb3 HS2.out.1) (And.intro (cp16 hb3 HS2.out.2.1) (cp16 hb3 HS2.out.2.2))); clear ho3 hb3)
        | (go_at_call 57; have q9 := HS1; refine (refCmp03 _ _ _ _ _ _ lw lv _ ((HT.out.1.up HD1.out).rk) ((HT.out.2.1.up HD1.out).rk) hmw hmv).mono ?_; rintro e v2 ⟨rfl, hb2⟩; have HD2 := Lib.hid (bstep HD1.out hb2); have HS2 := Lib.hid (And.intro (cp16 hb2 HS1.out.1) (And.intro (cp16 hb2 HS1.out.2.1) (cp16 hb2 HS1.out.2.2))); clear hb2)
        | (go_at_call 41; skip; refine (wordCmp_any _ _ _ _ _ _ lw lv _ ((HT.out.1.up (bnil Wb).drew).rk) ((HT.out.2.1.up (bnil Wb).drew).rk) hmw hmv).mono ?_; rintro e v1 ⟨rfl, hb1⟩; have HD1 : Hid (Below Wb.heap.size Wb v1) := (bnil Wb).drew.trans hb1; have HS1 := Lib.hid (And.intro (cp16 hb1 HS0.out.1) (And.intro (cp16 hb1 HS0.out.2.1) (cp16 hb1 HS0.out.2.2))); clear hb1))
    all_goals
      go_wp2
      go_ret
      exact ⟨rfl, bstep HT.out.2.2 HD8.out⟩
end Go.Proofs.YtnmegpplfbkpcaaDoor
