/- The contracts of edenlaw23.lent, edenlaw23.kept, edenref23.most, edenref23.Encode. -/
import Derived.Test.YtllngchcomiglaaDoorFronts23
import Derived.Test.YtllngchcomiglaaDoorRawF
import Derived.WalkKit
import Derived.Deep.QuietTactic
import Derived.BigQuiet
import Derived.Lib.Hide
import Derived.Deep.Cut
namespace Go.Proofs.YtllngchcomiglaaDoor
open Go.RowKit
set_option linter.unusedVariables false
set_option maxRecDepth 100000

/-- two marks behind lent entries -/
def marks : List (Int × Int × Int) := [(71, 0, 0), (72, 0, 0)]
theorem entsC_app (l m : List (Int × Int × Int)) : entsC (l ++ m) = entsC l ++ entsC m := by simp [entsC]

theorem ents_one (l : List (Int × Int × Int)) : ∀ u ∈ entsC l, u.oneCell' = true := by
  intro u hu
  simp only [entsC, List.mem_flatMap, entC, List.mem_cons, List.not_mem_nil, or_false] at hu
  obtain ⟨x, _, rfl | rfl | rfl⟩ := hu <;> rfl

set_option maxHeartbeats 2000000 in
theorem lent_any (a : Option Addr) (c : Nat) (l : List (Int × Int × Int)) (W : World) (hR : Rd W a l.length 3 (entsC l)) (hlen : l.length * 24 ≤ 140737488351232) (hc : a = none → c = 0) :
    Calls Tryd.prog 12 #[.slice a l.length c] W fun e w' => ∃ g c', e = .returned (.slice (some ⟨g, 0, none⟩) l.length c') ∧ l.length + 2 ≤ c' ∧ c' ≤ maxLen ∧ W.heap.size ≤ g ∧ Rd w' (some ⟨g, 0, none⟩) (l.length + 2) 3 (entsC (l ++ marks)) ∧ Below W.heap.size W w' := by
  have HR := Lib.hid hR; clear hR
  go_enter Tryd.func12, Tryd.ntmps12
  go_wp2_with (first
    | (at_builtin; refine apx rfl _ _ _ rfl W.heap.size et_ent _ 0 [] (own_empty _ _ rfl (Nat.le_refl _)) rfl _ l.length _ _ rfl hc (HR.out.al _) (ents_one l) (by unfold maxLen; omega) (by omega) (by simp) ?_; intro a6 c6 w6 h6; have o6 := h6.own; simp only [Nat.zero_add, List.nil_append] at o6)
    | (at_builtin; refine apl rfl _ _ _ rfl W.heap.size et_ent _ _ _ o6 rfl 2 _ _ rfl rfl rfl rfl (by unfold maxLen; omega) (by omega) (Nat.le_trans (by simp) h6.grew) ?_; intro a7 c7 w7 h7;
       obtain ⟨g7, rfl, g71, g72⟩ := own_form h7.own (by omega);
       obtain ⟨_, hcap, hcm⟩ : ∃ x : Unit, l.length + 2 ≤ c7 ∧ c7 ≤ maxLen := (by obtain ⟨_, _, e, h1, h2⟩ := owns_slice h7.own; cases e; exact ⟨(), h1, h2⟩)))
  go_ret
  refine ⟨_, _, rfl, hcap, hcm, g71, ?_, ((balloc (bnil W) _).trans h6.below).trans h7.below⟩
  have := (owns_rd h7.own).2
  rw [entsC_app]
  exact this

set_option maxHeartbeats 2000000 in
theorem kept_any (g c2 c1 : Nat) (a : Option Addr) (l : List (Int × Int × Int)) (W : World) (hM : Rd W (some ⟨g, 0, none⟩) (l.length + 2) 3 (entsC (l ++ marks))) (hcap : l.length + 2 ≤ c1) (hcm : c1 ≤ maxLen) (hR : Rd W a l.length 3 (entsC l)) :
    Calls Tryd.prog 15 #[.slice (some ⟨g, 0, none⟩) l.length c1, .slice a l.length c2] W fun e w' => e = .returned (.bool true) ∧ ∃ n, w' = W.drewN n := by
  have hcm' : c1 ≤ 9223372036854775807 := hcm
  have hM1 : Rd W (some ⟨g, 0, none⟩) l.length 3 (entsC l) := by
    have := hM.take (k := l.length) (by omega)
    rwa [entsC_take, List.take_left] at this
  obtain ⟨b, o, hb1, hbo, hcell⟩ := hM.2.resolve_left (by omega)
  cases hb1
  have x0 := hcell (l.length * 3) (.int .i64 71) (by rw [entsC_app]; rw [List.getElem?_append_right (by rw [entsC_len]; omega), entsC_len, show l.length * 3 - 3 * l.length = 0 from by omega]; rfl)
  have x1 := hcell ((l.length + 1) * 3) (.int .i64 72) (by rw [entsC_app]; rw [List.getElem?_append_right (by rw [entsC_len]; omega), entsC_len, show (l.length + 1) * 3 - 3 * l.length = 3 from by omega]; rfl)
  clear hcell
  simp only [Nat.zero_add] at x0 x1
  have HM := Lib.hid hM1; clear hM1 hM
  have HR := Lib.hid hR; clear hR
  go_enter Tryd.func15, Tryd.ntmps15
  go_wp2_with (first
    | (go_at_call 11; refine (same_self _ _ _ _ l _ HM.out HR.out (by unfold maxLen; omega)).mono ?_; rintro e w' ⟨rfl, n, rfl⟩))
  go_ret
  exact ⟨rfl, _, rfl⟩

set_option maxHeartbeats 2000000 in
theorem most_any (h : Int) (W : World) (h1 : 1 ≤ h) (h2 : h ≤ 4) :
    Calls Tryd.prog 21 #[.int .i64 h] W fun e w' => e = .returned (.int .i64 (most h)) ∧ w' = W := by
  go_enter Tryd.func21, Tryd.ntmps21
  go_wp2_with fail
  go_loopw [3, 4] (fun x i wr => ∃ (k : Nat), (k : Int) ≤ h ∧ i = .int .i64 k ∧ x = .int .i64 (4 * 2 ^ k) ∧ wr = W) (fun _ i _ => h.toNat - (intOf i).toNat)
  case atStart => exact ⟨0, by omega, rfl, rfl, rfl⟩
  case round =>
    obtain ⟨k, hk, rfl, rfl, rfl⟩ := hrel
    by_cases hlt : (k : Int) < h
    · obtain rfl | rfl | rfl | rfl : k = 0 ∨ k = 1 ∨ k = 2 ∨ k = 3 := by omega
      all_goals
        go_wp2
        go_roundw
        case rel => first | exact ⟨1, by omega, rfl, rfl, by trivial⟩ | exact ⟨2, by omega, rfl, rfl, by trivial⟩ | exact ⟨3, by omega, rfl, rfl, by trivial⟩ | exact ⟨4, by omega, rfl, rfl, by trivial⟩
        case measure => simp [intOf]; omega
    · obtain rfl : h = k := by omega
      go_wp2
      go_ret
      exact ⟨rfl, rfl⟩
theorem own_lit {w : World} {base g n sz : Nat} {e : TypeId} {cs : Array Value} (hg : g = w.heap.size) (hb : base ≤ w.heap.size) (hn : n ≤ maxLen) (hs : cs.size = n * sz) : (w.alloc (.cells cs e)).ownsRow base e sz (.slice (some ⟨g, 0, none⟩) n n) n cs.toList := by
  subst hg
  exact ⟨by simpa using hs, .inr ⟨w.heap.size, n, cs, rfl, hb, heap_alloc_new w _, Nat.le_refl _, hn, hs, by rw [List.take_of_length_le (by simp; omega)]⟩⟩

def RefEncPost (W : World) (w h : Int) (l : List (Int × Int × Int)) (e : Ending) (w' : World) : Prop :=
  Below W.heap.size W w' ∧ ∃ a c n N ao no co aa na ca, e = .returned (.tuple #[.slice a n c, .agg #[.int .i64 N, .slice ao no co, .slice aa na ca]]) ∧
    match encErr w h l with
    | none => n = 4 + 3 * l.length ∧ Rd w' a n 1 ((encL w h l).map (Value.int .u8)) ∧ WantIs w' (.agg #[.int .i64 N, .slice ao no co, .slice aa na ca]) none
    | some x => a = none ∧ n = 0 ∧ c = 0 ∧ WantIs w' (.agg #[.int .i64 N, .slice ao no co, .slice aa na ca]) (some (opCert, x.1, x.2))

theorem refEnc_err {W w' : World} {w h at_ k N : Int} {l : List (Int × Int × Int)} {ao aa : Option Addr} {no co na ca : Nat} (he : encErr w h l = some (at_, k)) (hb : Below W.heap.size W w') (hw : WantIs w' (.agg #[.int .i64 N, .slice ao no co, .slice aa na ca]) (some (opCert, at_, k))) :
    RefEncPost W w h l (.returned (.tuple #[.slice none 0 0, .agg #[.int .i64 N, .slice ao no co, .slice aa na ca]])) w' := by
  refine ⟨hb, _, _, _, _, _, _, _, _, _, _, rfl, ?_⟩
  rw [he]
  exact ⟨rfl, rfl, rfl, hw⟩

set_option maxHeartbeats 4000000 in
theorem refEncode_any (w h : Int) (a : Option Addr) (c : Nat) (l : List (Int × Int × Int)) (W : World) (hR : Rd W a l.length 3 (entsC l)) (hlen : l.length ≤ maxLen) :
    Calls Tryd.prog 13 #[.int .i64 w, .int .i64 h, .slice a l.length c] W (RefEncPost W w h l) := by
  unfold maxLen at hlen
  have HR := Lib.hid hR; clear hR
  cases he : encErr w h l with
  | some x =>
    obtain ⟨at_, k⟩ := x
    have HE := Lib.hid he
    have fin : ∀ (w5 : World) (b1 b2 g : Nat), g = W.heap.size → Below (W.alloc (.cells #[.int .i64 0, .slice none 0 0, .slice none 0 0] 39)).heap.size (W.alloc (.cells #[.int .i64 0, .slice none 0 0, .slice none 0 0] 39)) w5 → W.heap.size < b1 → W.heap.size < b2 →
        WantIs w5 (.agg #[.int .i64 k, .slice (some ⟨b1, 0, none⟩) 1 1, .slice (some ⟨b2, 0, none⟩) 1 1]) (some (opCert, at_, k)) →
        ∃ w6, (((w5.setCell ⟨g, 0, none⟩ (.int .i64 k)).setCell ⟨g, 1, none⟩ (.slice (some ⟨b1, 0, none⟩) 1 1)).setCell ⟨g, 2, none⟩ (.slice (some ⟨b2, 0, none⟩) 1 1)) = w6 ∧
          (w6.cell? ⟨g, 0, none⟩ = some (.int .i64 k) ∧ w6.cell? ⟨g, 1, none⟩ = some (.slice (some ⟨b1, 0, none⟩) 1 1) ∧ w6.cell? ⟨g, 2, none⟩ = some (.slice (some ⟨b2, 0, none⟩) 1 1)) ∧
          RefEncPost W w h l (.returned (.tuple #[.slice none 0 0, .agg #[.int .i64 k, .slice (some ⟨b1, 0, none⟩) 1 1, .slice (some ⟨b2, 0, none⟩) 1 1]])) w6 := by
      intro w5 b1 b2 g hg hb h1 h2 hw
      obtain ⟨w6, e6, cells, bel, hk, hs⟩ := res3_set (u0 := .int .i64 k) (u1 := .slice (some ⟨b1, 0, none⟩) 1 1) (u2 := .slice (some ⟨b2, 0, none⟩) 1 1) hg hb
      exact ⟨w6, e6, cells, refEnc_err HE.out bel (hw.other hk hs (by omega) (by omega))⟩
    have FIN := Lib.hid fin; clear fin
    rcases encErr_some he with ⟨hw, rfl, rfl⟩ | ⟨hw1, hw2, hh, rfl, rfl⟩ | ⟨hw1, hw2, h1, h2, hl, rfl, rfl⟩ | ⟨hw1, hw2, h1, h2, hl, j, hj, hall, hbad, rfl, rfl⟩
    · clear he
      rcases hw with hw | hw
      all_goals
        go_enter Tryd.func13, Tryd.ntmps13
        go_wp2_with fail
        refine (rawNew_fresh _ _ _ _ rfl).mono ?_; rintro e w5 ⟨b1, b2, rfl, l1, l2, hw5, hb5⟩
        obtain ⟨⟨q0, q1, q2⟩, f0, f1, f2⟩ := res3 rfl hb5
        go_wp2
        obtain ⟨w6, e6, ⟨r0, r1, r2⟩, hp⟩ := FIN.out w5 b1 b2 _ rfl hb5 (by simp at l1; omega) (by simp at l2; omega) hw5
        rw [e6]
        refine bodyPost_ret (v := .tuple #[.slice none 0 0, .agg #[.int .i64 3, .slice (some ⟨b1, 0, none⟩) 1 1, .slice (some ⟨b2, 0, none⟩) 1 1]]) (by simp [results, Tryd.results13, go_sem, r0, r1, r2]) rfl ?_
        exact hp
    · clear he
      rcases hh with hw | hw
      all_goals
        go_enter Tryd.func13, Tryd.ntmps13
        go_wp2_with fail
        refine (rawNew_fresh _ _ _ _ rfl).mono ?_; rintro e w5 ⟨b1, b2, rfl, l1, l2, hw5, hb5⟩
        obtain ⟨⟨q0, q1, q2⟩, f0, f1, f2⟩ := res3 rfl hb5
        go_wp2
        obtain ⟨w6, e6, ⟨r0, r1, r2⟩, hp⟩ := FIN.out w5 b1 b2 _ rfl hb5 (by simp at l1; omega) (by simp at l2; omega) hw5
        rw [e6]
        refine bodyPost_ret (v := .tuple #[.slice none 0 0, .agg #[.int .i64 3, .slice (some ⟨b1, 0, none⟩) 1 1, .slice (some ⟨b2, 0, none⟩) 1 1]]) (by simp [results, Tryd.results13, go_sem, r0, r1, r2]) rfl ?_
        exact hp
    · clear he
      first | skip | skip
      all_goals
        go_enter Tryd.func13, Tryd.ntmps13
        go_wp2_with fail
        refine (rawNew_fresh _ _ _ _ rfl).mono ?_; rintro e w5 ⟨b1, b2, rfl, l1, l2, hw5, hb5⟩
        obtain ⟨⟨q0, q1, q2⟩, f0, f1, f2⟩ := res3 rfl hb5
        go_wp2
        obtain ⟨w6, e6, ⟨r0, r1, r2⟩, hp⟩ := FIN.out w5 b1 b2 _ rfl hb5 (by simp at l1; omega) (by simp at l2; omega) hw5
        rw [e6]
        refine bodyPost_ret (v := .tuple #[.slice none 0 0, .agg #[.int .i64 4, .slice (some ⟨b1, 0, none⟩) 1 1, .slice (some ⟨b2, 0, none⟩) 1 1]]) (by simp [results, Tryd.results13, go_sem, r0, r1, r2]) rfl ?_
        exact hp
    · clear he
      have HA := Lib.hid hall; clear hall
      have HB := Lib.hid hbad; clear hbad
      obtain ⟨M, hM, hM1, hM2⟩ : ∃ M, most h = M ∧ 8 ≤ M ∧ M ≤ 64 := ⟨_, rfl, by have := most_cases h h1 h2; omega, by have := most_cases h h1 h2; omega⟩
      have hmost := fun (w : World) => most_any h w h1 h2
      have HM := Lib.hid hM; clear hM
      rw [HM.out] at hmost
      have HMO := Lib.hid hmost; clear hmost
      go_enter Tryd.func13, Tryd.ntmps13
      go_wp2_with fail
      go_loopw [8, 9] (fun v i wr => ∃ (k : Nat) (a' : Option Addr) (c' : Nat) (xs : List Value), k ≤ j ∧ i = .int .i64 k ∧ v = .slice a' (4 + 3 * k) c' ∧ wr.ownsRow (W.heap.size + 1) 5 1 (.slice a' (4 + 3 * k) c') (4 + 3 * k) xs ∧ Below (W.alloc (.cells #[.int .i64 0, .slice none 0 0, .slice none 0 0] 39)).heap.size (W.alloc (.cells #[.int .i64 0, .slice none 0 0, .slice none 0 0] 39)) wr) (fun _ i _ => l.length - (intOf i).toNat)
      case atStart => exact ⟨0, _, 4, _, by omega, rfl, rfl, own_lit (n := 4) (by simp) (by simp) (by decide) rfl, balloc (bnil _) _⟩
      case round =>
        obtain ⟨k, a', c', xs, hk, rfl, rfl, hown, hb⟩ := hrel
        have hlt : k < l.length := by omega
        have hbW : Below W.heap.size W wr := (balloc (bnil W) _).trans (hb.mono (by simp))
        obtain ⟨b, o, rfl, hbo, hcell⟩ := HR.out.2.resolve_left (by omega)
        obtain ⟨c0, c1, c2⟩ := ent_cells hbW hbo hcell k hlt
        clear hcell
        have hz := hb.size
        simp at hz
        by_cases hkj : k = j
        · subst hkj
          have hfit := HB.out
          simp only [fitsE, fitsB, HM.out, Bool.and_eq_false_iff, decide_eq_false_iff_not] at hfit
          clear HA HB
          generalize l[k] = x at *
          have hcase : x.1 < 0 ∨ (0 ≤ x.1 ∧ w ≤ x.1) ∨ (0 ≤ x.1 ∧ x.1 < w ∧ x.2.1 < 0) ∨ (0 ≤ x.1 ∧ x.1 < w ∧ 0 ≤ x.2.1 ∧ M ≤ x.2.1) ∨ (0 ≤ x.1 ∧ x.1 < w ∧ 0 ≤ x.2.1 ∧ x.2.1 < M ∧ x.2.2 < 0) ∨ (0 ≤ x.1 ∧ x.1 < w ∧ 0 ≤ x.2.1 ∧ x.2.1 < M ∧ 0 ≤ x.2.2 ∧ M ≤ x.2.2) := by omega
          clear hfit
          go_wp2_with fail
          rcases hcase with y1 | ⟨y1, y2⟩ | ⟨y1, y2, y3⟩ | ⟨y1, y2, y3, y4⟩ | ⟨y1, y2, y3, y4, y5⟩ | ⟨y1, y2, y3, y4, y5, y6⟩
          all_goals
            go_quiet ((go_at_call 21; exact Calls.quiet_of_same (HMO.out _)))
            go_wp2_with fail
            refine (rawNew_fresh _ _ _ _ rfl).mono ?_; rintro e w5 ⟨b1, b2, rfl, l1, l2, hw5, hb5⟩
            have hb6 := bstep (bdrewN (balloc hb _) _) hb5
            obtain ⟨⟨q0, q1, q2⟩, f0, f1, f2⟩ := res3 rfl hb6
            go_wp2
            obtain ⟨w6, e6, ⟨r0, r1, r2⟩, hp⟩ := FIN.out w5 b1 b2 _ rfl hb6 (by simp at l1; omega) (by simp at l2; omega) hw5
            rw [e6]
            refine bodyPost_ret (v := .tuple #[.slice none 0 0, .agg #[.int .i64 3, .slice (some ⟨b1, 0, none⟩) 1 1, .slice (some ⟨b2, 0, none⟩) 1 1]]) (by simp [results, Tryd.results13, go_sem, r0, r1, r2]) rfl ?_
            exact hp
        · have hlt2 : k < j := by omega
          have hfit := HA.out k hlt2
          simp only [fitsE, fitsB, HM.out, Bool.and_eq_true, decide_eq_true_eq] at hfit
          obtain ⟨⟨⟨⟨⟨x1, x2⟩, x3⟩, x4⟩, x5⟩, x6⟩ := hfit
          clear HA HB
          generalize l[k] = x at *
          go_wp2_with fail
          go_quiet ((go_at_call 21; exact Calls.quiet_of_same (HMO.out _)))
          have hz3 : W.heap.size + 1 ≤ (wr.alloc (.cells #[.int .i64 x.1, .int .i64 x.2.1, .int .i64 x.2.2] 33)).heap.size := by simp; omega
          have hb3 := bdrewN (balloc hb (.cells #[.int .i64 x.1, .int .i64 x.2.1, .int .i64 x.2.2] 33)) nq
          have hown3 := owns_up hown (bdrewN (balloc (bnil wr) (.cells #[.int .i64 x.1, .int .i64 x.2.1, .int .i64 x.2.2] 33)) nq)
          go_wp2_with (first
            | (at_builtin; refine app_lit rfl _ _ _ rfl (W.heap.size + 1) et_u8 _ (4 + 3 * k) _ hown3 rfl 3 _ _ rfl (by simp) rfl rfl (by unfold maxLen; omega) (by omega) hz3 ?_; intro a3 c3 w3 hown4 hgr4 hb4 hsz4))
          go_roundw
          case rel => exact ⟨k + 1, a3, c3, _, by omega, by go_num, rfl, hown4, hb3.trans (by simpa using hb4)⟩
          case measure => simp [intOf]; omega
  | none =>
    have H := encOk_of he
    have HN := Lib.hid he; clear he
    obtain ⟨hw1, hw2, h1, h2, hl, hf⟩ := H
    have HF := Lib.hid hf; clear hf
    obtain ⟨M, hM, hM1, hM2⟩ : ∃ M, most h = M ∧ 8 ≤ M ∧ M ≤ 64 := ⟨_, rfl, by have := most_cases h h1 h2; omega, by have := most_cases h h1 h2; omega⟩
    have hmost := fun (w : World) => most_any h w h1 h2
    have HM := Lib.hid hM; clear hM
    rw [HM.out] at hmost
    have HMO := Lib.hid hmost; clear hmost
    go_enter Tryd.func13, Tryd.ntmps13
    go_wp2_with fail
    go_loopw [8, 9] (fun v i wr => ∃ (k : Nat) (a' : Option Addr) (c' : Nat), k ≤ l.length ∧ i = .int .i64 k ∧ v = .slice a' (4 + 3 * k) c' ∧ wr.ownsRow (W.heap.size + 1) 5 1 (.slice a' (4 + 3 * k) c') (4 + 3 * k) ([.int .u8 69, .int .u8 68, .int .u8 w, .int .u8 h] ++ entsB (l.take k)) ∧ Below (W.alloc (.cells #[.int .i64 0, .slice none 0 0, .slice none 0 0] 39)).heap.size (W.alloc (.cells #[.int .i64 0, .slice none 0 0, .slice none 0 0] 39)) wr) (fun _ i _ => l.length - (intOf i).toNat)
    case atStart => exact ⟨0, _, 4, by omega, rfl, rfl, by simpa [entsB] using own_lit (n := 4) (sz := 1) (cs := #[.int .u8 69, .int .u8 68, .int .u8 w, .int .u8 h]) (by simp) (by simp) (by decide) rfl, balloc (bnil _) _⟩
    case round =>
      obtain ⟨k, a', c', hk, rfl, rfl, hown, hb⟩ := hrel
      have hbW : Below W.heap.size W wr := (balloc (bnil W) _).trans (hb.mono (by simp))
      have hz := hb.size
      simp at hz
      by_cases hlt : k < l.length
      · obtain ⟨b, o, rfl, hbo, hcell⟩ := HR.out.2.resolve_left (by omega)
        obtain ⟨c0, c1, c2⟩ := ent_cells hbW hbo hcell k hlt
        clear hcell
        have hfit0 := HF.out _ (List.getElem_mem hlt)
        have hfit := hfit0
        have hsn : entsB (l.take (k + 1)) = entsB (l.take k) ++ entB l[k] := entsB_snoc l k hlt
        have HS := Lib.hid hsn; clear hsn
        have hem := ent_mod h1 h2 hw2 (show fitsB w h l[k].1 l[k].2.1 l[k].2.2 = true from hfit0)
        have HEM := Lib.hid hem; clear hem hfit0
        simp only [fitsE, fitsB, HM.out, Bool.and_eq_true, decide_eq_true_eq] at hfit
        obtain ⟨⟨⟨⟨⟨x1, x2⟩, x3⟩, x4⟩, x5⟩, x6⟩ := hfit
        clear HF
        generalize l[k] = x at *
        go_wp2_with fail
        go_quiet ((go_at_call 21; exact Calls.quiet_of_same (HMO.out _)))
        have hz3 : W.heap.size + 1 ≤ (wr.alloc (.cells #[.int .i64 x.1, .int .i64 x.2.1, .int .i64 x.2.2] 33)).heap.size := by simp; omega
        have hb3 := bdrewN (balloc hb (.cells #[.int .i64 x.1, .int .i64 x.2.1, .int .i64 x.2.2] 33)) nq
        have hown3 := owns_up hown (bdrewN (balloc (bnil wr) (.cells #[.int .i64 x.1, .int .i64 x.2.1, .int .i64 x.2.2] 33)) nq)
        go_wp2_with (first
        | (at_builtin; refine app_lit rfl _ _ _ rfl (W.heap.size + 1) et_u8 _ (4 + 3 * k) _ hown3 rfl 3 _ _ rfl (by simp) rfl rfl (by unfold maxLen; omega) (by omega) hz3 ?_; intro a3 c3 w3 hown4 hgr4 hb4 hsz4))
        go_roundw
        case rel =>
          refine ⟨k + 1, a3, c3, by omega, by go_num, rfl, ?_, hb3.trans (by simpa using hb4)⟩
          rw [HS.out, ← List.append_assoc]
          first
            | exact hown4
            | (rw [HEM.out] at hown4; exact hown4)
        case measure => simp [intOf]; omega
      · obtain rfl : k = l.length := by omega
        obtain ⟨⟨q0, q1, q2⟩, f0, f1, f2⟩ := res3 rfl hb
        go_wp2
        obtain ⟨w6, e6, ⟨r0, r1, r2⟩, bel, hk6, hs6⟩ := res3_set (u0 := .int .i64 0) (u1 := .slice none 0 0) (u2 := .slice none 0 0) rfl hb
        rw [e6]
        refine bodyPost_ret (v := .tuple #[.slice a' (4 + 3 * l.length) c', .agg #[.int .i64 0, .slice none 0 0, .slice none 0 0]]) (by simp [results, Tryd.results13, go_sem, r0, r1, r2]) rfl ?_
        obtain ⟨g, rfl, hg1, _⟩ := own_form hown (by omega)
        rw [List.take_length] at hown
        refine ⟨bel, _, _, _, _, _, _, _, _, _, _, rfl, ?_⟩
        rw [HN.out]
        refine ⟨rfl, ?_, errVal_none _⟩
        rw [encL_map]
        have hrd := (owns_rd hown).2
        exact hrd.other hk6 hs6 (by omega)
end Go.Proofs.YtllngchcomiglaaDoor
