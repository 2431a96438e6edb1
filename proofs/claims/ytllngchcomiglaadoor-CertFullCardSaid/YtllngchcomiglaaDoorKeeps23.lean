/- The walk of edenlaw23.CertKeeps. -/
import Derived.Test.YtllngchcomiglaaDoorAwake23
import Derived.Test.YtllngchcomiglaaDoorEncL
import Derived.Test.YtllngchcomiglaaDoorApp
import Derived.WalkKit
import Derived.Deep.QuietTactic
import Derived.BigQuiet
import Derived.Lib.Hide
namespace Go.Proofs.YtllngchcomiglaaDoor
open Go.RowKit
set_option linter.unusedVariables false
set_option maxRecDepth 100000

theorem encode_okL (w h : Int) (a : Option Addr) (c n : Nat) (l : List (Int × Int × Int)) (W : World) (hn : n = l.length) (hR : Rd W a l.length 3 (entsC l)) (H : EncOk w h l) :
    Calls Tryd.prog 9 #[.int .i64 w, .int .i64 h, .slice a n c] W fun e w' =>
      ∃ a' c', e = .returned (.tuple #[.slice a' (4 + 3 * l.length) c', .nilIface]) ∧ w'.ownsRow W.heap.size 5 1 (.slice a' (4 + 3 * l.length) c') (4 + 3 * l.length) ((encL w h l).map (Value.int .u8)) ∧ Below W.heap.size W w' := by
  subst hn
  rw [encL_map]
  exact encode_ok w h a c l W hR H.w1 H.w2 H.h1 H.h2 H.len H.fit

theorem same_self (a1 a2 : Option Addr) (c1 c2 : Nat) (l : List (Int × Int × Int)) (W : World) (hR1 : Rd W a1 l.length 3 (entsC l)) (hR2 : Rd W a2 l.length 3 (entsC l)) (hm1 : l.length ≤ maxLen) :
    Calls Tryd.prog 11 #[.slice a1 l.length c1, .slice a2 l.length c2] W fun e w' => e = .returned (.bool true) ∧ ∃ n, w' = W.drewN n := by
  refine (same_any a1 a2 c1 c2 l l W hR1 hR2 hm1 hm1).mono fun e w' h => ?_
  rw [decide_eq_true rfl] at h
  exact h

/-- store into a row of the call's own -/
theorem own_set {w : World} {base sz n : Nat} {e : TypeId} {g c : Nat} {cs : List Value} (h : w.ownsRow base e sz (.slice (some ⟨g, 0, none⟩) n c) n cs) (j : Nat) (u : Value) :
    (w.setCell ⟨g, j, none⟩ u).ownsRow base e sz (.slice (some ⟨g, 0, none⟩) n c) n (cs.set j u) := (h.stored j u).1
theorem own_set_other {w : World} {base sz n g j : Nat} {e : TypeId} {v : Value} {cs : List Value} (h : w.ownsRow base e sz v n cs) (hne : v.ownBlock ≠ some g) (u : Value) : (w.setCell ⟨g, j, none⟩ u).ownsRow base e sz v n cs := by
  refine ⟨h.1, ?_⟩
  rcases h.2 with hn | ⟨g', cap, cur, rfl, hbg, hg, rest⟩
  · exact .inl hn
  · refine .inr ⟨g', cap, cur, rfl, hbg, ?_, rest⟩
    rw [Below.heap_setCell _ _ _ _ (by intro e; apply hne; simp [Value.ownBlock, e])]
    exact hg
theorem own_form {w : World} {base sz n c : Nat} {e : TypeId} {a : Option Addr} {cs : List Value} (h : w.ownsRow base e sz (.slice a n c) n cs) (hn : 0 < n) : ∃ g, a = some ⟨g, 0, none⟩ ∧ base ≤ g ∧ g < w.heap.size := by
  have hlt := h.lt
  rcases h.2 with ⟨h1, h2⟩ | ⟨g, cap, cur, h1, h2, h3, _⟩
  · omega
  · cases h1
    exact ⟨g, rfl, (hlt g rfl).1, (hlt g rfl).2⟩

theorem set_step (k : Nat) (u : Value) (bs : List Value) (hk : k < bs.length) : (List.replicate k u ++ bs.drop k).set k u = List.replicate (k + 1) u ++ bs.drop (k + 1) := by
  rw [List.set_append_right _ _ (by simp)]
  simp only [List.length_replicate, Nat.sub_self]
  rw [List.drop_eq_getElem_cons hk, List.set_cons_zero, List.replicate_succ', List.append_assoc]
  rfl

theorem set3_step (k : Nat) (l : List (Int × Int × Int)) (hk : k < l.length) (m : Int × Int × Int) :
    (((entsC (List.replicate k m ++ l.drop k)).set (k * 3) (.int .i64 m.1)).set (k * 3 + 1) (.int .i64 m.2.1)).set (k * 3 + 2) (.int .i64 m.2.2) = entsC (List.replicate (k + 1) m ++ l.drop (k + 1)) := by
  have e : ∀ (A B : List (Int × Int × Int)), entsC (A ++ B) = entsC A ++ entsC B := fun A B => by simp [entsC]
  rw [List.drop_eq_getElem_cons hk, List.replicate_succ', e, e, e]
  have hl : (entsC (List.replicate k m)).length = k * 3 := by rw [entsC_len]; simp; omega
  generalize entsC (List.replicate k m) = A at *
  have e2 : ∀ (y : Int × Int × Int) r, entsC (y :: r) = .int .i64 y.1 :: .int .i64 y.2.1 :: .int .i64 y.2.2 :: entsC r := fun y r => by simp only [entsC, entC, List.flatMap_cons]; rfl
  rw [e2]
  have e3 : entsC [m] = [.int .i64 m.1, .int .i64 m.2.1, .int .i64 m.2.2] := by simp [entsC, entC]
  rw [e3, ← hl]
  rw [List.set_append_right _ _ (by omega), List.set_append_right _ _ (by omega), List.set_append_right _ _ (by omega)]
  simp

/-- two values do not own one block -/
def Ap (v u : Value) : Prop := ∀ g, v.ownBlock = some g → u.ownBlock ≠ some g
theorem Ap.symm {v u : Value} (h : Ap v u) : Ap u v := fun g h1 h2 => h g h2 h1
theorem Ap.ne {v u : Value} (h : Ap v u) : u.ownBlock = none ∨ u.ownBlock ≠ v.ownBlock := by
  cases hu : u.ownBlock with
  | none => exact .inl rfl
  | some g => exact .inr fun e => h g e.symm hu
theorem Ap.app {base size n m : Nat} {e : TypeId} {w w' : World} {v v' u : Value} {xs news : List Value} (h : Ap v u) (ha : Appended base e size w w' v v' n m xs news) (hu : ∀ g, u.ownBlock = some g → g < w.heap.size) : Ap v' u := by
  intro g hg hug
  rcases ha.at_ with h1 | ⟨g', h1, h2⟩
  · exact h g (h1 ▸ hg) hug
  · rw [hg] at h1; cases h1; have := hu g hug; omega
theorem own_lt {w : World} {base sz n : Nat} {e : TypeId} {v : Value} {cs : List Value} (h : w.ownsRow base e sz v n cs) : ∀ g, v.ownBlock = some g → g < w.heap.size := fun g hg => (h.lt g hg).2
theorem own_off {w : World} {base sz n m c b o : Nat} {e : TypeId} {a : Option Addr} {cs : List Value} (h : w.ownsRow base e sz (.slice a m c) n cs) (ha : a = some ⟨b, o, none⟩) : o = 0 ∧ (Value.slice a m c).ownBlock = some b := by
  subst ha
  rcases h.2 with ⟨h1, _⟩ | ⟨g, _, _, h1, _⟩
  · cases h1
  · cases h1; exact ⟨rfl, rfl⟩
/-- what an owned row reads as stays while another row, or the same behind it, is appended to -/
theorem Appended.rd_own {base base' size n m sz k c : Nat} {e e' : TypeId} {w w0 w' : World} {v v' : Value} {a : Option Addr} {xs news cs cs' : List Value} (h : Appended base e size w w' v v' n m xs news)
    (ho : w0.ownsRow base' e' sz (.slice a k c) k cs') (hr : Rd w a k sz cs) (hn : Ap v (.slice a k c) ∨ k * sz ≤ n * size) : Rd w' a k sz cs := by
  refine h.rd hr fun b o hab hvb => ?_
  obtain ⟨rfl, h2⟩ := own_off ho hab
  rcases hn with hn | hn
  · exact absurd h2 (hn b hvb)
  · omega

/-- what holds at the head of the third loop -/
def Inv3 (W : World) (na len gb c3 c5 : Nat) (a5 : Option Addr) (bs es : List Value) (p q i : Value) (wr : World) : Prop :=
  ∃ (k : Nat) (a' b' : Option Addr) (c' d' : Nat), k ≤ 20 ∧ i = .int .i64 k ∧ p = .slice a' (na + k) c' ∧ q = .slice b' (len + k) d' ∧
    wr.ownsRow W.heap.size 5 1 (.slice a' (na + k) c') (na + k) (List.replicate (na + k) (.int .u8 1)) ∧
    wr.ownsRow W.heap.size 33 3 (.slice b' (len + k) d') (len + k) (entsC (List.replicate (len + k) (-1, 0, 0))) ∧
    wr.ownsRow W.heap.size 5 1 (.slice (some ⟨gb, 0, none⟩) na c3) na bs ∧
    wr.ownsRow W.heap.size 33 3 (.slice a5 len c5) len es ∧ Below W.heap.size W wr ∧
    Ap (.slice a' (na + k) c') (.slice (some ⟨gb, 0, none⟩) na c3) ∧ Ap (.slice a' (na + k) c') (.slice a5 len c5) ∧
    Ap (.slice b' (len + k) d') (.slice (some ⟨gb, 0, none⟩) na c3) ∧ Ap (.slice b' (len + k) d') (.slice a5 len c5) ∧ Ap (.slice a' (na + k) c') (.slice b' (len + k) d')
/-- what holds at the head of the fourth loop -/
def Inv4 (W : World) (na len gb c3 c5 : Nat) (a5 : Option Addr) (bs es : List Value) (P Q : Value) (S : Nat) (r s i : Value) (wr : World) : Prop :=
  ∃ (k : Nat) (a' b' : Option Addr) (c' d' : Nat) (xs ys : List Value), k ≤ 20 ∧ S ≤ wr.heap.size ∧ i = .int .i64 k ∧ r = .slice a' (na + k) c' ∧ s = .slice b' (len + k) d' ∧
    wr.ownsRow W.heap.size 5 1 (.slice a' (na + k) c') (na + k) xs ∧ wr.ownsRow W.heap.size 33 3 (.slice b' (len + k) d') (len + k) ys ∧
    wr.ownsRow W.heap.size 5 1 P (na + 20) (List.replicate (na + 20) (.int .u8 1)) ∧ wr.ownsRow W.heap.size 33 3 Q (len + 20) (entsC (List.replicate (len + 20) (-1, 0, 0))) ∧
    Rd wr (some ⟨gb, 0, none⟩) na 1 bs ∧ Rd wr a5 len 3 es ∧ Below W.heap.size W wr ∧
    Ap (.slice a' (na + k) c') P ∧ Ap (.slice a' (na + k) c') Q ∧ Ap (.slice b' (len + k) d') P ∧ Ap (.slice b' (len + k) d') Q ∧
    Ap (.slice a' (na + k) c') (.slice b' (len + k) d') ∧ Ap (.slice a' (na + k) c') (.slice a5 len c5) ∧ Ap (.slice b' (len + k) d') (.slice (some ⟨gb, 0, none⟩) na c3)

def TrueBelow (W : World) (e : Ending) (w' : World) : Prop := e = .returned (.bool true) ∧ Below W.heap.size W w'

set_option maxHeartbeats 4000000 in
theorem keeps_err (w h : Int) (a : Option Addr) (c : Nat) (l : List (Int × Int × Int)) (W : World) (R : Nat → Addr) (hG : Glob W R) (hR : Rd W a l.length 3 (entsC l)) (hlen : l.length ≤ maxLen) (at_ k : Int) (he : encErr w h l = some (at_, k)) :
    Calls Tryd.prog 3 #[.int .i64 w, .int .i64 h, .slice a l.length c] W (TrueBelow W) := by
  have HE := Lib.hid he; clear he
  have HG := Lib.hid hG; clear hG
  have HR := Lib.hid hR; clear hR
  go_enter Tryd.func3, Tryd.ntmps3
  go_wp2_with fail
  refine (awake_any _ R HG.out).mono ?_; rintro e w1 ⟨rfl, hb1⟩
  go_wp2_with fail
  refine (encode_err w h _ _ _ l _ R (HG.out.up hb1) rfl (HR.out.up hb1) hlen _ _ HE.out).mono ?_; rintro e w2 ⟨v2, rfl, ⟨g2, rfl, _, _⟩, hb2⟩
  go_wp2_with fail
  refine (encode_err w h _ _ _ l _ R (HG.out.up (bstep hb1 hb2)) rfl (HR.out.up (bstep hb1 hb2)) hlen _ _ HE.out).mono ?_; rintro e w3 ⟨v3, rfl, ⟨g3, rfl, _, _⟩, hb3⟩
  go_wp2
  go_ret
  exact ⟨rfl, bstep (bstep hb1 hb2) hb3⟩

set_option maxHeartbeats 4000000 in
theorem keeps_big (w h : Int) (a : Option Addr) (c : Nat) (l : List (Int × Int × Int)) (W : World) (R : Nat → Addr) (hG : Glob W R) (hR : Rd W a l.length 3 (entsC l)) (H : EncOk w h l) (hbig : 1000 < l.length) :
    Calls Tryd.prog 3 #[.int .i64 w, .int .i64 h, .slice a l.length c] W (TrueBelow W) := by
  have hl := H.len
  have HG := Lib.hid hG; clear hG
  have HR := Lib.hid hR; clear hR
  go_enter Tryd.func3, Tryd.ntmps3
  go_wp2_with fail
  refine (awake_any _ R HG.out).mono ?_; rintro e w1 ⟨rfl, hb1⟩
  go_wp2_with fail
  refine (encode_okL w h _ _ _ l _ rfl (HR.out.up hb1) H).mono ?_; rintro e w2 ⟨a2, c2, rfl, hown2, hb2⟩
  go_wp2_with fail
  refine (encode_okL w h _ _ _ l _ rfl (HR.out.up (bstep hb1 hb2)) H).mono ?_; rintro e w3 ⟨a3, c3, rfl, hown3, hb3⟩
  go_wp2
  go_ret
  exact ⟨rfl, bstep (bstep hb1 hb2) hb3⟩

set_option maxHeartbeats 8000000 in
theorem keeps_ok (w h : Int) (a : Option Addr) (c : Nat) (l : List (Int × Int × Int)) (W : World) (R : Nat → Addr) (hG : Glob W R) (hR : Rd W a l.length 3 (entsC l)) (H : EncOk w h l) (hbig : l.length ≤ 1000) :
    Calls Tryd.prog 3 #[.int .i64 w, .int .i64 h, .slice a l.length c] W (TrueBelow W) := by
  have HG := Lib.hid hG; clear hG
  have HR := Lib.hid hR; clear hR
  have HL := Lib.hid (encL_len w h l)
  go_enter Tryd.func3, Tryd.ntmps3
  go_wp2_with fail
  refine (awake_any _ R HG.out).mono ?_; rintro e w1 ⟨rfl, hb1⟩
  go_wp2_with fail
  refine (encode_okL w h _ _ _ l _ rfl (HR.out.up hb1) H).mono ?_; rintro e w2 ⟨a2, c2, rfl, hown2, hb2⟩
  go_wp2_with fail
  refine (encode_okL w h _ _ _ l _ rfl (HR.out.up (bstep hb1 hb2)) H).mono ?_; rintro e w3 ⟨a3, c3, rfl, hown3, hb3⟩
  have hG3 : Glob w3 R := HG.out.up (bstep (bstep hb1 hb2) hb3)
  have hR2 := ((owns_rd hown2).2.up hb3)
  have HG3 := Lib.hid hG3; clear hG3
  have HR2 := Lib.hid hR2; clear hR2
  go_wp2_with fail
  refine (decode_ok _ _ _ (encL w h l) _ R HG3.out HL.out.symm (by rw [HL.out]; exact HR2.out) (encL_bd H) (by rw [HL.out]; unfold maxLen; omega) w h l (decF_enc H)).mono ?_; rintro e w4 ⟨a4, c4, rfl, hown4, hb4⟩
  go_wp2_with fail
  refine (decode_ok _ _ _ (encL w h l) _ R (HG3.out.up hb4) HL.out.symm (by rw [HL.out]; exact HR2.out.up hb4) (encL_bd H) (by rw [HL.out]; unfold maxLen; omega) w h l (decF_enc H)).mono ?_; rintro e w5 ⟨a5, c5, rfl, hown5, hb5⟩
  have hb : Below W.heap.size W w5 := bstep (bstep (bstep (bstep hb1 hb2) hb3) hb4) hb5
  have hml : l.length ≤ maxLen := by unfold maxLen; omega
  go_wp2_with fail
  refine (same_self _ _ _ _ l _ ((owns_rd hown4).2.up hb5) (HR.out.up hb) hml).mono ?_; rintro e w6 ⟨rfl, n6, rfl⟩
  go_wp2_with fail
  refine (same_self _ _ _ _ l _ ((owns_rd hown5).2.up (bdrewN (bnil _) _)) (HR.out.up (bdrewN hb _)) hml).mono ?_; rintro e w6 ⟨rfl, n7, rfl⟩
  obtain ⟨ga, rfl, ga1, ga2⟩ := own_form hown2 (by omega)
  obtain ⟨gb, rfl, gb1, gb2⟩ := own_form hown3 (by omega)
  have lx := hown4.lt
  have ly := hown5.lt
  have z1 := hb1.size
  have z2 := hb2.size
  have z3 := hb3.size
  have z4 := hb4.size
  have z5 := hb5.size
  have hA := owns_up hown2 (bdrewN (bdrewN (bstep (bstep hb3 hb4) hb5) n6) n7)
  have hB := owns_up hown3 (bdrewN (bdrewN (bstep hb4 hb5) n6) n7)
  have hX := owns_up hown4 (bdrewN (bdrewN hb5 n6) n7)
  have hY := owns_up hown5 (bdrewN (bdrewN (bnil _) n6) n7)
  clear hown2 hown3 hown4 hown5
  have hb' : Below W.heap.size W ((w5.drewN n6).drewN n7) := bdrewN (bdrewN hb n6) n7
  generalize hw7 : (w5.drewN n6).drewN n7 = w7 at *
  clear hw7
  go_wp2_with fail
  go_loopw [19] (fun i wr => ∃ k : Nat, k ≤ 4 + 3 * l.length ∧ i = .int .i64 k ∧
      wr.ownsRow w1.heap.size 5 1 (.slice (some ⟨ga, 0, none⟩) (4 + 3 * l.length) c2) (4 + 3 * l.length) (List.replicate k (.int .u8 1) ++ ((encL w h l).map (Value.int .u8)).drop k) ∧
      wr.ownsRow w2.heap.size 5 1 (.slice (some ⟨gb, 0, none⟩) (4 + 3 * l.length) c3) (4 + 3 * l.length) ((encL w h l).map (Value.int .u8)) ∧
      wr.ownsRow w3.heap.size 33 3 (.slice a4 l.length c4) l.length (entsC l) ∧ wr.ownsRow w4.heap.size 33 3 (.slice a5 l.length c5) l.length (entsC l) ∧ Below W.heap.size W wr) (fun i _ => 4 + 3 * l.length - (intOf i).toNat)
  case atStart => exact ⟨0, by omega, rfl, by simpa using hA, hB, hX, hY, hb'⟩
  case round =>
    clear hA hB hX hY hb'
    obtain ⟨k, hk, rfl, hA, hB, hX, hY, hb'⟩ := hrel
    by_cases hlt : k < 4 + 3 * l.length
    · obtain ⟨u, hu⟩ : ∃ u, wr.cell? ⟨ga, k, none⟩ = some u := by
        rw [hA.cellAt k (by omega)]
        exact ⟨_, List.getElem?_eq_getElem (by rw [hA.1]; omega)⟩
      have hf := hA.frozenAt k
      have HS := Lib.hid (set_step k (.int .u8 1) ((encL w h l).map (Value.int .u8)) (by simp [HL.out]; omega))
      go_wp2
      go_roundw
      case rel =>
        refine ⟨k + 1, by omega, by go_num, ?_, own_set_other hB ?_ _, own_set_other hX ?_ _, own_set_other hY ?_ _, hb'.setCell (by show W.heap.size ≤ ga; omega) _⟩
        · rw [← HS.out]; exact own_set hA k _
        · simp [Value.ownBlock]; omega
        · intro e; have := lx _ e; omega
        · intro e; have := ly _ e; omega
      case measure => simp [intOf]; omega
    · obtain rfl : k = 4 + 3 * l.length := by omega
      have ed : ((encL w h l).map (Value.int .u8)).drop (4 + 3 * l.length) = [] := List.drop_eq_nil_of_le (by simp [HL.out])
      rw [ed, List.append_nil] at hA
      clear ed
      generalize wr = wA at *
      go_wp2_with fail
      go_loopw [20] (fun i wr => ∃ k : Nat, k ≤ l.length ∧ i = .int .i64 k ∧
          wr.ownsRow w1.heap.size 5 1 (.slice (some ⟨ga, 0, none⟩) (4 + 3 * l.length) c2) (4 + 3 * l.length) (List.replicate (4 + 3 * l.length) (.int .u8 1)) ∧
          wr.ownsRow w2.heap.size 5 1 (.slice (some ⟨gb, 0, none⟩) (4 + 3 * l.length) c3) (4 + 3 * l.length) ((encL w h l).map (Value.int .u8)) ∧
          wr.ownsRow w3.heap.size 33 3 (.slice a4 l.length c4) l.length (entsC (List.replicate k (-1, 0, 0) ++ l.drop k)) ∧ wr.ownsRow w4.heap.size 33 3 (.slice a5 l.length c5) l.length (entsC l) ∧ Below W.heap.size W wr) (fun i _ => l.length - (intOf i).toNat)
      case atStart => exact ⟨0, by omega, rfl, hA, hB, by simpa using hX, hY, hb'⟩
      case round =>
        clear hA hB hX hY hb'
        obtain ⟨k, hk, rfl, hA, hB, hX, hY, hb'⟩ := hrel
        by_cases hlt : k < l.length
        · obtain ⟨gx, rfl, gx1, gx2⟩ := own_form hX (by omega)
          have hc : ∀ j, j < 3 → ∃ u, wr.cell? ⟨gx, k * 3 + j, none⟩ = some u := fun j hj => by
            rw [hX.cellAt (k * 3 + j) (by omega)]
            exact ⟨_, List.getElem?_eq_getElem (by rw [hX.1]; omega)⟩
          obtain ⟨u0, hu0⟩ := hc 0 (by omega)
          obtain ⟨u1, hu1⟩ := hc 1 (by omega)
          obtain ⟨u2, hu2⟩ := hc 2 (by omega)
          rw [Nat.add_zero] at hu0
          have hf0 := hX.frozenAt (k * 3)
          have hf1 := hX.frozenAt (k * 3 + 1)
          have hf2 := hX.frozenAt (k * 3 + 2)
          have HS := Lib.hid (set3_step k l hlt (-1, 0, 0))
          clear hc
          go_wp2
          go_roundw
          case rel =>
            refine ⟨k + 1, by omega, by go_num, ?_, ?_, ?_, ?_, ((hb'.setCell (by show W.heap.size ≤ gx; omega) _).setCell (by show W.heap.size ≤ gx; omega) _).setCell (by show W.heap.size ≤ gx; omega) _⟩
            · have hne : (Value.slice (some ⟨ga, 0, none⟩) (4 + 3 * l.length) c2).ownBlock ≠ some gx := by simp [Value.ownBlock]; omega
              exact own_set_other (own_set_other (own_set_other hA hne _) hne _) hne _
            · have hne : (Value.slice (some ⟨gb, 0, none⟩) (4 + 3 * l.length) c3).ownBlock ≠ some gx := by simp [Value.ownBlock]; omega
              exact own_set_other (own_set_other (own_set_other hB hne _) hne _) hne _
            · rw [← HS.out]; exact own_set (own_set (own_set hX _ _) _ _) _ _
            · have hne : (Value.slice a5 l.length c5).ownBlock ≠ some gx := fun e => by have := ly gx e; have := lx gx rfl; omega
              exact own_set_other (own_set_other (own_set_other hY hne _) hne _) hne _
          case measure => simp [intOf]; omega
        · obtain rfl : k = l.length := by omega
          rw [List.drop_length, List.append_nil] at hX
          generalize wr = wB at *
          have pAB : Ap (.slice (some ⟨ga, 0, none⟩) (4 + 3 * l.length) c2) (.slice (some ⟨gb, 0, none⟩) (4 + 3 * l.length) c3) := by intro g h1 h2; simp [Value.ownBlock] at h1 h2; omega
          have pAX : Ap (.slice (some ⟨ga, 0, none⟩) (4 + 3 * l.length) c2) (.slice a4 l.length c4) := by intro g h1 h2; simp [Value.ownBlock] at h1; have := lx g h2; omega
          have pAY : Ap (.slice (some ⟨ga, 0, none⟩) (4 + 3 * l.length) c2) (.slice a5 l.length c5) := by intro g h1 h2; simp [Value.ownBlock] at h1; have := ly g h2; omega
          have pBX : Ap (.slice (some ⟨gb, 0, none⟩) (4 + 3 * l.length) c3) (.slice a4 l.length c4) := by intro g h1 h2; simp [Value.ownBlock] at h1; have := lx g h2; omega
          have pBY : Ap (.slice (some ⟨gb, 0, none⟩) (4 + 3 * l.length) c3) (.slice a5 l.length c5) := by intro g h1 h2; simp [Value.ownBlock] at h1; have := ly g h2; omega
          have pXY : Ap (.slice a4 l.length c4) (.slice a5 l.length c5) := by intro g h1 h2; have := lx g h1; have := ly g h2; omega
          clear lx ly ga1 ga2 gb1 gb2 hb1 hb2 hb3 hb4 hb5 hb
          go_wp2_with fail
          go_loopw [21, 22, 23] (fun p q i wr => Inv3 W (4 + 3 * l.length) l.length gb c3 c5 a5 ((encL w h l).map (Value.int .u8)) (entsC l) p q i wr) (fun _ _ i _ => 20 - (intOf i).toNat)
          case atStart => exact ⟨0, _, _, _, _, by omega, rfl, rfl, rfl, owns_base hA (by omega), owns_base hX (by omega), owns_base hB (by omega), owns_base hY (by omega), hb', pAB, pAY, pBX.symm, pXY, pAX⟩
          case round =>
            clear hA hB hX hY hb' pAB pAX pAY pBX pXY
            obtain ⟨k, a', b', c', d', hk, rfl, rfl, rfl, hP, hQ, hB, hY, hb', p1, p2, p3, p4, p5⟩ := hrel
            by_cases hlt : k < 20
            · have hz := hb'.size
              go_wp2_with (first
                | (at_builtin; refine apl rfl _ _ _ rfl W.heap.size et_u8 _ _ _ hP rfl 1 _ _ rfl rfl rfl rfl (by unfold maxLen; omega) (by omega) hz ?_; intro a8 c8 w8 h8)
                | (at_builtin; refine apl rfl _ _ _ rfl W.heap.size et_ent _ _ _ (h8.keeps hQ p5.ne) rfl 1 _ _ rfl rfl rfl rfl (by unfold maxLen; omega) (by omega) (Nat.le_trans hz h8.grew) ?_; intro a9 c9 w9 h9))
              first | refine ⟨⟨_, _, _, ?rel, rfl, rfl, rfl⟩, ?measure⟩ | go_roundw
              case rel =>
                have qP := p5.app h8 (own_lt hQ)
                refine ⟨k + 1, a8, a9, c8, c9, by omega, by go_num, rfl, rfl, ?_, ?_, h9.keeps (h8.keeps hB p1.ne) p3.ne, h9.keeps (h8.keeps hY p2.ne) p4.ne, (hb'.trans h8.below).trans h9.below,
                  p1.app h8 (own_lt hB), p2.app h8 (own_lt hY), p3.app h9 (own_lt (h8.keeps hB p1.ne)), p4.app h9 (own_lt (h8.keeps hY p2.ne)), (qP.symm.app h9 (own_lt h8.own)).symm⟩
                · have := h9.keeps h8.own qP.symm.ne
                  rw [show 4 + 3 * l.length + (k + 1) = 4 + 3 * l.length + k + 1 from rfl, List.replicate_succ']
                  exact this
                · have := h9.own
                  rw [show l.length + (k + 1) = l.length + k + 1 from rfl, List.replicate_succ', entsC_snoc]
                  exact this
              case measure => simp [intOf]; omega
            · obtain rfl : k = 20 := by omega
              generalize wr = wC at *
              have lp := own_lt hP
              have lq := own_lt hQ
              have hRB := (owns_rd hB).2
              have hRY := (owns_rd hY).2
              have oB := hB
              have oY := hY
              go_wp2_with fail
              go_loopw [24, 25, 26] (fun p q i wr => Inv4 W (4 + 3 * l.length) l.length gb c3 c5 a5 ((encL w h l).map (Value.int .u8)) (entsC l) (.slice a' (4 + 3 * l.length + 20) c') (.slice b' (l.length + 20) d') wC.heap.size p q i wr) (fun _ _ i _ => 20 - (intOf i).toNat)
              case atStart => exact ⟨0, _, _, _, _, _, _, by omega, Nat.le_refl _, rfl, rfl, rfl, hB, hY, hP, hQ, hRB, hRY, hb', p1.symm, p3.symm, p2.symm, p4.symm, pBY, pBY, pBY.symm⟩
              case round =>
                clear hP hQ hB hY hb' p1 p2 p3 p4 hRB hRY
                obtain ⟨k, a8, b8, c8, d8, xs, ys, hk, hS, rfl, rfl, rfl, hr, hs, hP, hQ, hRB, hRY, hb', q1, q2, q3, q4, q5, q6, q7⟩ := hrel
                by_cases hlt : k < 20
                · have hz := hb'.size
                  go_wp2_with (first
                    | (at_builtin; refine apl rfl _ _ _ rfl W.heap.size et_u8 _ _ _ hr rfl 1 _ _ rfl rfl rfl rfl (by unfold maxLen; omega) (by omega) hz ?_; intro a6 c6 w8 h8)
                    | (at_builtin; refine apl rfl _ _ _ rfl W.heap.size et_ent _ _ _ (h8.keeps hs q5.ne) rfl 1 _ _ rfl rfl rfl rfl (by unfold maxLen; omega) (by omega) (Nat.le_trans hz h8.grew) ?_; intro a9 c9 w9 h9))
                  first | refine ⟨⟨_, _, _, ?rel, rfl, rfl, rfl⟩, ?measure⟩ | go_roundw
                  case rel =>
                    have r5 := q5.app h8 (own_lt hs)
                    have hP8 := h8.keeps hP q1.ne
                    have hQ8 := h8.keeps hQ q2.ne
                    have hg8 := h8.grew
                    have hg9 := h9.grew
                    exact ⟨k + 1, a6, a9, c6, c9, _, _, by omega, by omega, by go_num, rfl, rfl, h9.keeps h8.own r5.symm.ne, h9.own, h9.keeps hP8 q3.ne, h9.keeps hQ8 q4.ne,
                      h9.rd_own oB (h8.rd_own oB hRB (.inr (by omega))) (.inl q7), h9.rd_own oY (h8.rd_own oY hRY (.inl q6)) (.inr (by omega)), (hb'.trans h8.below).trans h9.below,
                      q1.app h8 (own_lt hP), q2.app h8 (own_lt hQ), q3.app h9 (own_lt hP8), q4.app h9 (own_lt hQ8), (r5.symm.app h9 (own_lt h8.own)).symm, q6.app h8 (fun g hg => Nat.lt_of_lt_of_le (own_lt oY g hg) hS), q7.app h9 (fun g hg => Nat.lt_of_lt_of_le (own_lt oB g hg) (Nat.le_trans hS hg8))⟩
                  case measure => simp [intOf]; omega
                · obtain rfl : k = 20 := by omega
                  obtain ⟨gp, hgp, _, _⟩ := own_form hP (by omega)
                  obtain ⟨gq, hgq, _, _⟩ := own_form hQ (by omega)
                  subst hgp hgq
                  clear q1 q2 q3 q4 q5 q6 q7 hr hs
                  generalize wr = wD at *
                  go_wp2_with fail
                  go_loop [27] (fun i => ∃ k : Nat, k ≤ 4 + 3 * l.length + 20 ∧ i = .int .i64 k) (fun i => 4 + 3 * l.length + 20 - (intOf i).toNat)
                  case atStart => exact ⟨0, by omega, rfl⟩
                  case round =>
                    obtain ⟨k, hk2, rfl⟩ := hrel
                    by_cases hlt : k < 4 + 3 * l.length + 20
                    · have hc : wD.cell? ⟨gp, k, none⟩ = some (.int .u8 1) := by
                        rw [hP.cellAt k (by omega), List.getElem?_replicate, if_pos hlt]
                      go_wp2
                      go_round
                      case rel => exact ⟨k + 1, by omega, by go_num⟩
                      case measure => simp [intOf]; omega
                    · clear hk2
                      go_wp2_with fail
                      go_loop [28] (fun i => ∃ k : Nat, k ≤ l.length + 20 ∧ i = .int .i64 k) (fun i => l.length + 20 - (intOf i).toNat)
                      case atStart => exact ⟨0, by omega, rfl⟩
                      case round =>
                        obtain ⟨k, hk2, rfl⟩ := hrel
                        by_cases hlt : k < l.length + 20
                        · have hc : wD.cell? ⟨gq, k * 3, none⟩ = some (.int .i64 (-1)) := by
                            rw [hQ.cellAt (k * 3) (by omega)]
                            have := (entsC_at (List.replicate (l.length + 20) (-1, 0, 0)) k (by simpa using hlt)).1
                            rw [Nat.mul_comm 3 k] at this
                            simpa using this
                          go_wp2
                          go_round
                          case rel => exact ⟨k + 1, by omega, by go_num⟩
                          case measure => simp [intOf]; omega
                        · clear hk2
                          go_wp2_with fail
                          refine (encode_okL w h _ _ _ l _ rfl (HR.out.up hb') H).mono ?_; rintro e w12 ⟨a12, c12, rfl, hown12, hb12⟩
                          have cv1 := conv_str Tryd.underlying24 Tryd.underlying5 Tryd.underlying9 (c := c12) (owns_rd hown12).2
                          have cv2 := conv_str Tryd.underlying24 Tryd.underlying5 Tryd.underlying9 (c := c3) (hRB.up hb12)
                          have HY12 := Lib.hid (hRY.up hb12)
                          have HRl := Lib.hid (HR.out.up (bstep hb' hb12))
                          go_wp2_with (first
                            | (go_at_call 11; refine (same_self _ _ _ _ l _ HY12.out HRl.out hml).mono ?_; rintro e w13 ⟨rfl, n13, rfl⟩))
                          go_ret
                          exact ⟨rfl, bdrewN (bstep hb' hb12) _⟩
end Go.Proofs.YtllngchcomiglaaDoor
