/- The walk of edenlaw23.CertFull. -/
import Derived.Test.YtllngchcomiglaaDoorEncodes23
import Derived.Test.YtllngchcomiglaaDoorDecodes23
import Derived.WalkKit
import Derived.Laws.OwnMore
import Derived.Lib.Hide
namespace Go.Proofs.YtllngchcomiglaaDoor
open Go.RowKit
set_option linter.unusedVariables false
set_option maxRecDepth 100000

theorem made_ents (n : Nat) : (madeCells (Value.agg #[.int .i64 0, .int .i64 0, .int .i64 0]).cells (n * 3)).toList = entsC (List.replicate n (0, 0, 0)) := by
  have e : (Value.agg #[.int .i64 0, .int .i64 0, .int .i64 0]).cells = #[.int .i64 0, .int .i64 0, .int .i64 0] := by rfl
  rw [e]
  induction n with
  | zero => simp [madeCells, entsC]
  | succ n ih =>
    rw [List.replicate_succ', entsC_app, ← ih]
    simp only [madeCells, Array.toList_map, Array.toList_range]
    rw [show (n + 1) * 3 = n * 3 + 1 + 1 + 1 from by omega, List.range_succ, List.range_succ, List.range_succ]
    simp only [List.map_append, List.map_cons, List.map_nil, List.append_assoc]
    congr 1
    have m0 : (n * 3) % 3 = 0 := by omega
    have m1 : (n * 3 + 1) % 3 = 1 := by omega
    have m2 : (n * 3 + 1 + 1) % 3 = 2 := by omega
    simp [m0, m1, m2, entsC, entC]
theorem made_u8 (n : Nat) : (madeCells (Value.int .u8 0).cells (n * 1)).toList = (List.replicate n (0 : Int)).map (Value.int .u8) := by
  rw [show (Value.int .u8 0).cells = #[.int .u8 0] from by rfl, toList_madeCells_one]
  simp

set_option maxHeartbeats 4000000 in
theorem full_walk (w h more : Int) (W : World) (R : Nat → Addr) (hE : Env W R) :
    Calls Tryd.prog 7 #[.int .i64 w, .int .i64 h, .int .i64 more] W (TrueBelow W) := by
  have HE := Lib.hid hE; clear hE
  obtain ⟨N, hN⟩ : ∃ N : Nat, N = 43689 := ⟨_, rfl⟩
  have n1 : N ≤ 43689 := by omega
  have n2 : 43689 ≤ N := by omega
  have nz : (43689 : Int) = (N : Int) := by omega
  have HNZ := Lib.hid nz
  clear hN nz
  have p1 := Int.lt_tmod_of_pos w (show (0 : Int) < 8 by omega)
  have p2 := Int.tmod_lt_of_pos w (show (0 : Int) < 8 by omega)
  have q1 := Int.lt_tmod_of_pos h (show (0 : Int) < 4 by omega)
  have q2 := Int.tmod_lt_of_pos h (show (0 : Int) < 4 by omega)
  have r1 := Int.lt_tmod_of_pos more (show (0 : Int) < 9 by omega)
  have r2 := Int.tmod_lt_of_pos more (show (0 : Int) < 9 by omega)
  go_enter Tryd.func7, Tryd.ntmps7
  go_wp2_with fail
  refine (awake_any _ R HE.out.sent.glob).mono ?_; rintro e w1 ⟨rfl, hb1⟩
  go_wp2_with (first
    | (at_make; refine mk_full rfl _ _ _ rfl w1.heap.size et_ent .i64 .i64 _ _ N rfl rfl HNZ.out HNZ.out (by omega) (by unfold maxLen; omega) (Nat.le_refl _) ?_; intro w2 hown2 hb2 hsz2))
  rw [made_ents] at hown2
  obtain ⟨w', ew, w'1, w'2⟩ : ∃ w', w.tmod 8 % 8 + 1 = w' ∧ 1 ≤ w' ∧ w' ≤ 8 := ⟨_, rfl, by omega, by omega⟩
  obtain ⟨h', eh, h'1, h'2⟩ : ∃ h', h.tmod 4 % 4 + 1 = h' ∧ 1 ≤ h' ∧ h' ≤ 4 := ⟨_, rfl, by omega, by omega⟩
  obtain ⟨M, eM, M1, M2⟩ : ∃ M : Nat, 131072 + (more.tmod 9 % 9 + 1) = (M : Int) ∧ 131073 ≤ M ∧ M ≤ 131081 := ⟨(131072 + (more.tmod 9 % 9 + 1)).toNat, by omega, by omega, by omega⟩
  have EM := Lib.hid eM; clear eM
  rw [ew, eh]
  clear ew eh p1 p2 q1 q2
  have hlen : (List.replicate N ((0 : Int), (0 : Int), (0 : Int))).length = N := by simp
  have H : EncOk w' h' (List.replicate N (0, 0, 0)) := by
    refine ⟨w'1, w'2, h'1, h'2, by simpa using n1, fun x hx => ?_⟩
    obtain rfl := List.eq_of_mem_replicate hx
    have := most_cases h' h'1 h'2
    simp only [fitsE, fitsB, Bool.and_eq_true, decide_eq_true_eq]
    omega
  have HL := Lib.hid hlen; clear hlen
  have hbig : encErr w' h' (List.replicate N (0, 0, 0) ++ [(0, 0, 0)]) = some (0, 4) := by
    unfold encErr
    rw [if_neg (by omega), if_neg (by omega), if_pos (by simp; omega)]
  have HBIG := Lib.hid hbig; clear hbig
  have happ : entsC (List.replicate N (0, 0, 0) ++ [(0, 0, 0)]) = entsC (List.replicate N (0, 0, 0)) ++ (#[Value.int .i64 0, Value.int .i64 0, Value.int .i64 0] : Array Value).toList := by rw [entsC_app]; rfl
  have HAPP := Lib.hid happ; clear happ
  have HL2 : Hid ((List.replicate N ((0 : Int), (0 : Int), (0 : Int)) ++ [(0, 0, 0)]).length = N + 1) := by show _ = _; simp
  generalize List.replicate N ((0 : Int), (0 : Int), (0 : Int)) = l at *
  have hR2 := (owns_rd hown2).2
  rw [show N = l.length from HL.out.symm] at hR2
  have HO := Lib.hid hown2
  have HR2 := Lib.hid hR2; clear hR2
  refine (encode_okL w' h' _ _ _ l _ HL.out.symm HR2.out H).mono ?_; rintro e w3 ⟨a3, c3, rfl, hown3, hb3⟩
  have hR3 := (owns_rd hown3).2
  have hb3W := bstep (bstep hb1 hb2) hb3
  have HR3 := Lib.hid hR3; clear hR3
  go_wp2_with fail
  refine (decode_ok _ _ _ (encL w' h' l) _ R (HE.out.up hb3W).sent.glob (encL_len w' h' l).symm (by rw [encL_len]; exact HR3.out) (encL_bd H) (by rw [encL_len, HL.out]; unfold maxLen; omega) w' h' l (decF_enc H)).mono ?_; rintro e w4 ⟨a4, c4, rfl, hown4, hb4⟩
  have HR4 := Lib.hid (owns_rd hown4).2
  have hb4W := bstep hb3W hb4
  have HOW4 := Lib.hid hown4
  have HO4 := Lib.hid (owns_up HO.out (bstep hb3 hb4))
  clear hown4 hown3 hown2
  go_wp2_with (first
    | (at_builtin; refine apl rfl _ _ _ rfl w1.heap.size et_ent _ _ _ HO4.out rfl 1 _ _ rfl rfl rfl rfl (by unfold maxLen; omega) (by omega) (Nat.le_trans hb2.size (bstep hb3 hb4).size) ?_; intro a5 c5 w5 h5))
  rw [← HL.out]
  have HR4b0 : Rd w5 a4 l.length 3 (entsC l) := by
    refine (owns_rd (h5.keeps HOW4.out ?_)).2
    cases ho : (Value.slice a4 l.length c4).ownBlock with
    | none => exact .inl rfl
    | some g =>
      refine .inr fun e => ?_
      have h1 := (HOW4.out.lt g ho).1
      have h2 := hb3.size
      simp [Value.ownBlock] at e
      omega
  have hR5 := (owns_rd h5.own).2
  rw [← HAPP.out, show N + 1 = (l ++ [(0, 0, 0)]).length from HL2.out.symm] at hR5
  have hb5 : Below w1.heap.size w4 w5 := h5.below
  have hb5W : Below W.heap.size W w5 := hb4W.trans (hb5.mono hb1.size)
  have HR5 := Lib.hid hR5; clear hR5
  have HR4b : Hid (Rd w5 a4 l.length 3 (entsC l)) := HR4b0
  have HR2b : Hid (Rd w5 (some ⟨w1.heap.size, 0, none⟩) l.length 3 (entsC l)) := by
    have := h5.rd (owns_rd HO4.out).2 (fun b o e _ => by cases e; omega)
    rwa [← HL.out] at this
  refine (encode_err w' h' _ _ _ (l ++ [(0, 0, 0)]) _ R (HE.out.up hb5W).sent.glob (by rw [HL2.out, HL.out]) HR5.out (by rw [HL2.out]; unfold maxLen; omega) _ _ HBIG.out).mono ?_; rintro e w6 ⟨v6, rfl, he6, hb6⟩
  obtain ⟨g6, rfl, hg6, hx6⟩ := he6
  have HX6 : Hid (IsErr w5.heap.size R w6 (.iface 57 (.pointer (some ⟨g6, 0, none⟩))) opCert 0 4) := ⟨g6, rfl, hg6, hx6⟩
  have hb6W := bstep hb5W hb6
  have hmm : (131072 + (more.tmod 9 % 9 + 1)) = (M : Int) := EM.out
  clear h5 hx6
  clear hb5
  go_wp2_with (first
    | (at_make; refine mk_full rfl _ _ _ rfl w6.heap.size et_u8 .i64 .i64 _ _ M rfl rfl rfl rfl (by omega) (by unfold maxLen; omega) (Nat.le_refl _) ?_; intro w7 hown7 hb7 hsz7))
  clear hmm
  rw [made_u8] at hown7
  have hb7W := bstep hb6W hb7
  have hdm : decF (List.replicate M (0 : Int)) = .error (0, 4) := by
    unfold decF; rw [if_pos (by simp; omega)]
  have hr7 := (owns_rd hown7).2
  have HM : Hid ((List.replicate M (0 : Int)).length = M) := List.length_replicate ..
  have HBD : Hid (∀ x ∈ List.replicate M (0 : Int), 0 ≤ x ∧ x ≤ 255) := fun x hx => by
    obtain rfl := List.eq_of_mem_replicate hx
    omega
  have HDM := Lib.hid hdm; clear hdm hown7
  have HR7 := Lib.hid hr7; clear hr7
  generalize List.replicate M (0 : Int) = z at *
  refine (decode_err _ _ _ z _ R (HE.out.up hb7W).sent.glob HM.out.symm (by rw [HM.out]; exact HR7.out) HBD.out (by rw [HM.out]; unfold maxLen; omega) _ _ HDM.out).mono ?_; rintro e w8 ⟨v8, rfl, he8, hb8⟩
  obtain ⟨g8, rfl, hg8, hx8⟩ := he8
  have HX8 : Hid (IsErr w7.heap.size R w8 (.iface 57 (.pointer (some ⟨g8, 0, none⟩))) opCert 0 4) := ⟨g8, rfl, hg8, hx8⟩
  clear hx8
  have hb8W := bstep hb7W hb8
  have HX68 := Lib.hid (IsErr.up HX6.out (bstep hb7 hb8))
  have HRa := Lib.hid (HR4b.out.up (bstep (bstep hb6 hb7) hb8))
  have HRb := Lib.hid (HR2b.out.up (bstep (bstep hb6 hb7) hb8))
  have hll : (4 + 3 * (l.length : Int) == 131071) = true := by have := HL.out; simp; omega
  go_wp2_with fail
  refine (same_self _ _ _ _ l _ HRa.out HRb.out (by rw [HL.out]; unfold maxLen; omega)).mono ?_; rintro e w9 ⟨rfl, n9, rfl⟩
  go_wp2_with fail
  refine (rawNew_want _ _ _ _ rfl).mono ?_; rintro e w10 ⟨ao10, aa10, co10, ca10, rfl, hw10, hb10⟩
  go_wp2_with fail
  refine (rawIs_ok w5.heap.size _ _ _ _ _ _ R (HE.out.up (bstep (bdrewN hb8W n9) hb10)) (IsErr.up HX68.out (bstep (bdrewN (bnil _) n9) hb10)) hw10).mono ?_; rintro e w11 ⟨rfl, hb11⟩
  go_wp2_with fail
  refine (rawNew_want _ _ _ _ rfl).mono ?_; rintro e w12 ⟨ao12, aa12, co12, ca12, rfl, hw12, hb12⟩
  go_wp2_with fail
  refine (rawIs_ok w7.heap.size _ _ _ _ _ _ R (HE.out.up (bstep (bstep (bstep (bdrewN hb8W n9) hb10) hb11) hb12)) (IsErr.up HX8.out (bstep (bstep (bstep (bdrewN (bnil _) n9) hb10) hb11) hb12)) hw12).mono ?_; rintro e w13 ⟨rfl, hb13⟩
  go_wp2
  go_ret
  exact ⟨rfl, bstep (bstep (bstep (bstep (bdrewN hb8W n9) hb10) hb11) hb12) hb13⟩
end Go.Proofs.YtllngchcomiglaaDoor
