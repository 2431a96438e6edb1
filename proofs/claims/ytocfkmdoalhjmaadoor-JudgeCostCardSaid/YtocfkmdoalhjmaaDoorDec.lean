/- The contract of cert.Decode. -/
import Derived.Test.YtocfkmdoalhjmaaDoorCert
import Derived.WalkKit
import Derived.Deep.QuietTactic
import Derived.BigQuiet
import Derived.StillTailTactics
import Derived.Lib.Hide
namespace Go.Proofs.YtocfkmdoalhjmaaDoor
open Go.RowKit
set_option linter.unusedVariables false
set_option maxRecDepth 100000

def bW (bs : List Int) (k : Nat) : Int := if 2 < k then bs.getD 2 1 else 1
def bH (bs : List Int) (k : Nat) : Int := if 3 < k then bs.getD 3 1 else 1
/-- may the byte at i stand there? -/
def okAt (bs : List Int) (i : Nat) : Bool := decide ((lim i (bW bs i) (bH bs i)).1 ≤ bs.getD i 0) && decide (bs.getD i 0 ≤ (lim i (bW bs i) (bH bs i)).2)
def okTo (bs : List Int) (k : Nat) : Prop := ∀ i, i < k → okAt bs i = true
def firstBad (bs : List Int) : Option Nat := (List.range bs.length).find? fun i => !okAt bs i
def entsOf : List Int → List (Int × Int × Int)
  | x :: y :: z :: r => (x, y, z) :: entsOf r
  | _ => []

theorem firstBad_some {bs : List Int} {k : Nat} (hk : k < bs.length) (ho : okTo bs k) (hb : okAt bs k = false) : firstBad bs = some k := by
  unfold firstBad
  rw [List.find?_range_eq_some]
  refine ⟨by simp [hb], by simpa using hk, fun j hj => by simp [ho j hj]⟩
theorem firstBad_none {bs : List Int} (ho : okTo bs bs.length) : firstBad bs = none := by
  unfold firstBad
  rw [List.find?_eq_none]
  intro i hi
  simp [ho i (by simpa using hi)]

theorem lim_bd (bs : List Int) (k : Nat) (ho : okTo bs k) : (4 ≤ (k : Int) → 1 ≤ bW bs k ∧ bW bs k ≤ 8) ∧ (4 ≤ (k : Int) → 1 ≤ bH bs k ∧ bH bs k ≤ 4) := by
  constructor
  · intro h
    have := ho 2 (by omega)
    simp [okAt, lim] at this
    unfold bW; rw [if_pos (by omega)]
    have e : bs.getD 2 0 = bs.getD 2 1 := by
      simp only [List.getD_eq_getElem?_getD] at this ⊢
      cases h2 : bs[2]? with
      | none => simp [h2] at this
      | some x => simp
    simp only [List.getD_eq_getElem?_getD] at this e ⊢
    omega
  · intro h
    have := ho 3 (by omega)
    simp [okAt, lim] at this
    unfold bH; rw [if_pos (by omega)]
    have e : bs.getD 3 0 = bs.getD 3 1 := by
      simp only [List.getD_eq_getElem?_getD] at this ⊢
      cases h2 : bs[3]? with
      | none => simp [h2] at this
      | some x => simp
    simp only [List.getD_eq_getElem?_getD] at this e ⊢
    omega

/-- What Decode answers: an error's place and number, or the parts. -/
def decF (bs : List Int) : Except (Int × Int) (Int × Int × List (Int × Int × Int)) :=
  if 131072 < bs.length then .error (0, 4) else
  match firstBad bs with
  | some i => .error (i, 8)
  | none => if bs.length < 4 ∨ ¬ ((bs.length : Int) - 4) % 3 = 0 then .error (bs.length, 8) else .ok (bs.getD 2 1, bs.getD 3 1, entsOf (bs.drop 4))

def DecPost (R : Nat → Addr) (bs : List Int) (W : World) (e : Ending) (w' : World) : Prop :=
  Below W.heap.size W w' ∧
  match decF bs with
  | .error (at_, n) => ∃ v, e = .returned (.tuple #[.int .i64 0, .int .i64 0, .slice none 0 0, v]) ∧ IsErr W.heap.size R w' v opCert at_ n
  | .ok (w, h, l) => ∃ a c, e = .returned (.tuple #[.int .i64 w, .int .i64 h, .slice a l.length c, .nilIface]) ∧ w'.ownsRow W.heap.size 82 3 (.slice a l.length c) l.length (entsC l)

theorem bs_cell {w w' : World} {B b o : Nat} {k : IntKind} {bs : List Int} (hb : Below B w w') (hB : b < B) (hc : ∀ j u, (bs.map (Value.int k))[j]? = some u → w.cell? ⟨b, o + j, none⟩ = some u) (i : Nat) (hi : i < bs.length) :
    w'.cell? ⟨b, o + i, none⟩ = some (.int k (bs.getD i 0)) := by
  rw [hb.cell (p := ⟨b, o + i, none⟩) hB]
  exact hc i _ (by simp [hi])

theorem bW_succ (bs : List Int) (k : Nat) (hk : k < bs.length) : bW bs (k + 1) = if k = 2 then bs.getD k 0 else bW bs k := by
  unfold bW
  by_cases h : k = 2
  · subst h; simp [hk]
  · rw [if_neg h]; by_cases h2 : 2 < k
    · rw [if_pos (by omega), if_pos h2]
    · rw [if_neg (by omega), if_neg h2]
theorem bH_succ (bs : List Int) (k : Nat) (hk : k < bs.length) : bH bs (k + 1) = if k = 3 then bs.getD k 0 else bH bs k := by
  unfold bH
  by_cases h : k = 3
  · subst h; simp [hk]
  · rw [if_neg h]; by_cases h2 : 3 < k
    · rw [if_pos (by omega), if_pos h2]
    · rw [if_neg (by omega), if_neg h2]
theorem okTo_succ {bs : List Int} {k : Nat} (h : okTo bs k) (h1 : okAt bs k = true) : okTo bs (k + 1) := by
  intro i hi
  by_cases e : i = k
  · subst e; exact h1
  · exact h i (by omega)

theorem entsOf_snoc (l : List Int) : ∀ k, 3 * k + 2 < l.length → entsOf (l.take (3 * k + 3)) = entsOf (l.take (3 * k)) ++ [(l.getD (3 * k) 0, l.getD (3 * k + 1) 0, l.getD (3 * k + 2) 0)] := by
  intro k
  induction k generalizing l with
  | zero =>
    intro h
    match l, h with
    | x :: y :: z :: r, _ => simp [entsOf]
  | succ k ih =>
    intro h
    match l, h with
    | x :: y :: z :: r, h =>
      have := ih r (by simp at h; omega)
      have e1 : 3 * (k + 1) = 3 * k + 1 + 1 + 1 := by omega
      have e2 : 3 * (k + 1) + 3 = (3 * k + 3) + 1 + 1 + 1 := by omega
      have e3 : 3 * (k + 1) + 1 = (3 * k + 1) + 1 + 1 + 1 := by omega
      have e4 : 3 * (k + 1) + 2 = (3 * k + 2) + 1 + 1 + 1 := by omega
      rw [e2, e3, e4, e1]
      simp only [List.take_succ_cons, entsOf, this, List.getD_cons_succ, List.cons_append]
theorem entsOf_len : ∀ (k : Nat) (l : List Int), l.length = 3 * k → (entsOf l).length = k := by
  intro k
  induction k with
  | zero => intro l h; match l, h with | [], _ => rfl
  | succ k ih =>
    intro l h
    match l, h with
    | x :: y :: z :: r, h => simp [entsOf, ih r (by simp at h; omega)]

theorem entsC_snoc (l : List (Int × Int × Int)) (x y z : Int) : entsC (l ++ [(x, y, z)]) = entsC l ++ (#[Value.int .i64 x, Value.int .i64 y, Value.int .i64 z] : Array Value).toList := by
  simp [entsC, entC]

theorem bd_at {bs : List Int} (hB : ∀ x ∈ bs, 0 ≤ x ∧ x ≤ 255) (k : Nat) : 0 ≤ bs.getD k 0 ∧ bs.getD k 0 ≤ 255 := by
  by_cases h : k < bs.length
  · have := hB bs[k] (List.getElem_mem h)
    simpa [h] using this
  · simp [List.getD, show bs.length ≤ k by omega]

theorem bW_next (bs : List Int) (k : Nat) (hk : k < bs.length) : bW bs (k + 1) = bif ((k : Int) == 2) then bs.getD k 0 else bW bs k := by
  rw [bW_succ bs k hk]
  by_cases h : k = 2
  · subst h; rfl
  · rw [if_neg h, show ((k : Int) == 2) = false from by simp; omega]; rfl
theorem bH_next (bs : List Int) (k : Nat) (hk : k < bs.length) : bH bs (k + 1) = bif ((k : Int) == 3) then bs.getD k 0 else bH bs k := by
  rw [bH_succ bs k hk]
  by_cases h : k = 3
  · subst h; rfl
  · rw [if_neg h, show ((k : Int) == 3) = false from by simp; omega]; rfl

set_option maxHeartbeats 2000000 in
theorem decode_any (a : Option Addr) (c : Nat) (bs : List Int) (W : World) (R : Nat → Addr) (hG : Glob W R) (hR : Rd W a bs.length 1 (bs.map (Value.int .u8))) (hB : ∀ x ∈ bs, 0 ≤ x ∧ x ≤ 255) (hlen : bs.length ≤ maxLen) :
    Calls Tryd.prog 44 #[.slice a bs.length c] W (DecPost R bs W) := by
  have hlen' : bs.length ≤ 9223372036854775807 := by unfold maxLen at hlen; omega
  have HB := Lib.hid hB; clear hB
  have HR := Lib.hid hR; clear hR
  have HG := Lib.hid hG; clear hG
  by_cases hbig : 131072 < bs.length
  · have hpost : ∀ (e : Ending) (w' : World) v, e = .returned (.tuple #[.int .i64 0, .int .i64 0, .slice none 0 0, v]) → IsErr W.heap.size R w' v opCert 0 4 → Below W.heap.size W w' → DecPost R bs W e w' := by
      intro e w' v h1 h2 h3
      unfold DecPost decF
      rw [if_pos hbig]
      exact ⟨h3, v, h1, h2⟩
    go_enter Tryd.func44, Tryd.ntmps44
    go_wp2_with (first
        | (go_at_call 89; refine (cert_wrong _ _ _ R HG.out rfl).mono ?_; rintro e w' ⟨rfl, rfl⟩))
    refine bodyPost_ret (results_tmp4 rfl _ _ _) rfl ?_
    exact hpost _ _ _ rfl (isErr_new (Nat.le_refl _)) ((Below.refl _ _).alloc (Nat.le_refl _) _)
  · go_enter Tryd.func44, Tryd.ntmps44
    go_wp2_with fail
    go_loopw [6, 7, 20] (fun x y i wr => ∃ (k n : Nat), k ≤ bs.length ∧ i = .int .i64 k ∧ x = .int .i64 (bW bs k) ∧ y = .int .i64 (bH bs k) ∧ okTo bs k ∧ wr = W.drewN n) (fun _ _ i _ => bs.length - (intOf i).toNat)
    case atStart => exact ⟨0, 0, by omega, rfl, rfl, rfl, fun i hi => absurd hi (by omega), rfl⟩
    case round =>
      obtain ⟨k, n, hk, rfl, rfl, rfl, hto, rfl⟩ := hrel
      have hbd := lim_bd bs k hto
      by_cases hlt : k < bs.length
      · obtain ⟨b, o, rfl, hbo, hcell⟩ := HR.out.2.resolve_left (by omega)
        have c0 : W.cell? ⟨b, o + k, none⟩ = some (.int .u8 (bs.getD k 0)) := bs_cell (Below.refl W.heap.size W) hbo hcell k hlt
        clear hcell
        obtain ⟨xb1, xb2⟩ := bd_at HB.out k
        have HW := Lib.hid (bW_next bs k hlt)
        have HH := Lib.hid (bH_next bs k hlt)
        have hiff : okAt bs k = true ↔ ((lim k (bW bs k) (bH bs k)).1 ≤ bs.getD k 0 ∧ bs.getD k 0 ≤ (lim k (bW bs k) (bH bs k)).2) := by simp [okAt]
        have HT : Hid (okAt bs k = true → okTo bs (k + 1)) := fun h => okTo_succ hto h
        have HP : Hid (¬ okAt bs k = true → ∀ (e : Ending) (w' : World) v, e = .returned (.tuple #[.int .i64 0, .int .i64 0, .slice none 0 0, v]) → IsErr W.heap.size R w' v opCert k 8 → Below W.heap.size W w' → DecPost R bs W e w') := by
          intro hno e w' v h1 h2 h3
          have hf := firstBad_some hlt hto (by simpa using hno)
          unfold DecPost decF
          rw [if_neg hbig, hf]
          exact ⟨h3, v, h1, h2⟩
        clear hto
        generalize bs.getD k 0 = x at *
        by_cases hok : okAt bs k = true
        · obtain ⟨l1, l2⟩ := hiff.1 hok
          have HT2 : Hid (okTo bs (k + 1)) := HT.out hok
          clear hok hiff
          go_wp2_with (first
            | (go_at_call 90; refine (limits_any _ _ _ _ (by omega) (by omega) hbd.1 hbd.2).mono ?_; rintro e w' ⟨rfl, m, rfl⟩))
          all_goals
            go_roundw
            case rel =>
              refine ⟨k + 1, _, by omega, by go_num, ?_, ?_, HT2.out, rfl⟩
              · rw [HW.out]; first | (rw [show ((k : Int) == 2) = true from by assumption]; rfl) | (rw [show ((k : Int) == 2) = false from by assumption]; rfl)
              · rw [HH.out]; first | (rw [show ((k : Int) == 3) = true from by assumption]; rfl) | (rw [show ((k : Int) == 3) = false from by assumption]; rfl) | (rw [show ((k : Int) == 3) = false from by simp only [beq_iff_eq, beq_eq_false_iff_ne] at *; omega]; rfl)
            case measure => simp [intOf]; omega
        · have hno : ¬ ((lim k (bW bs k) (bH bs k)).1 ≤ x ∧ x ≤ (lim k (bW bs k) (bH bs k)).2) := fun h => hok (hiff.2 h)
          have HP2 := Lib.hid (HP.out hok)
          clear hok hiff
          have hlo : x < (lim k (bW bs k) (bH bs k)).1 ∨ (lim k (bW bs k) (bH bs k)).2 < x := by omega
          clear hno
          rcases hlo with hlo | hlo
          all_goals
            go_wp2_with (first
              | (go_at_call 90; refine (limits_any _ _ _ _ (by omega) (by omega) hbd.1 hbd.2).mono ?_; rintro e w' ⟨rfl, m, rfl⟩)
              | (go_at_call 89; refine (cert_wrong _ _ _ R HG.out.drewN rfl).mono ?_; rintro e w' ⟨rfl, rfl⟩))
          all_goals
            refine bodyPost_ret (results_tmp4 rfl _ _ _) rfl ?_
            exact HP2.out _ _ _ rfl (isErr_new (Nat.le_refl _)) ((below_drewN (Below.refl _ _) _).alloc (Nat.le_refl _) _)
      · obtain rfl : k = bs.length := by omega
        have hfb := firstBad_none hto
        have HD : Hid (decF bs = if bs.length < 4 ∨ ¬ ((bs.length : Int) - 4) % 3 = 0 then .error (bs.length, 8) else .ok (bs.getD 2 1, bs.getD 3 1, entsOf (bs.drop 4))) := by
          unfold decF; rw [if_neg hbig, hfb]; rfl
        clear hto hfb hbd
        by_cases hgood : bs.length < 4 ∨ ¬ ((bs.length : Int) - 4) % 3 = 0
        · have HP2 : Hid (∀ (e : Ending) (w' : World) v, e = .returned (.tuple #[.int .i64 0, .int .i64 0, .slice none 0 0, v]) → IsErr W.heap.size R w' v opCert bs.length 8 → Below W.heap.size W w' → DecPost R bs W e w') := by
            intro e w' v h1 h2 h3
            unfold DecPost
            rw [HD.out, if_pos hgood]
            exact ⟨h3, v, h1, h2⟩
          rcases hgood with h4 | h3
          · go_wp2_with (first
              | (go_at_call 89; refine (cert_wrong _ _ _ R HG.out.drewN rfl).mono ?_; rintro e w' ⟨rfl, rfl⟩))
            refine bodyPost_ret (results_tmp4 rfl _ _ _) rfl ?_
            exact HP2.out _ _ _ rfl (isErr_new (Nat.le_refl _)) ((below_drewN (Below.refl _ _) _).alloc (Nat.le_refl _) _)
          · by_cases h4 : bs.length < 4
            · go_wp2_with (first
                | (go_at_call 89; refine (cert_wrong _ _ _ R HG.out.drewN rfl).mono ?_; rintro e w' ⟨rfl, rfl⟩))
              refine bodyPost_ret (results_tmp4 rfl _ _ _) rfl ?_
              exact HP2.out _ _ _ rfl (isErr_new (Nat.le_refl _)) ((below_drewN (Below.refl _ _) _).alloc (Nat.le_refl _) _)
            · have h3b : (((bs.length : Int) - 4) % 3 != 0) = true := by simpa using h3
              clear h3
              go_wp2_with (first
                | (go_at_call 89; refine (cert_wrong _ _ _ R HG.out.drewN rfl).mono ?_; rintro e w' ⟨rfl, rfl⟩))
              refine bodyPost_ret (results_tmp4 rfl _ _ _) rfl ?_
              exact HP2.out _ _ _ rfl (isErr_new (Nat.le_refl _)) ((below_drewN (Below.refl _ _) _).alloc (Nat.le_refl _) _)
        · have h4 : 4 ≤ bs.length := by omega
          have h3b : (((bs.length : Int) - 4) % 3 != 0) = false := by simp; omega
          obtain ⟨q, hq1, hq2⟩ : ∃ q : Nat, bs.length ≤ 4 + 3 * q ∧ 4 + 3 * q ≤ bs.length := ⟨(bs.length - 4) / 3, by omega, by omega⟩
          have HD2 := HD.out
          rw [if_neg hgood] at HD2
          have HD2 := Lib.hid HD2
          clear hgood HD
          have hll : (entsOf (bs.drop 4)).length = q := entsOf_len q _ (by simp; omega)
          have hfw : bW bs bs.length = bs.getD 2 1 := by unfold bW; rw [if_pos (by omega)]
          have hfh : bH bs bs.length = bs.getD 3 1 := by unfold bH; rw [if_pos (by omega)]
          have HP2 : Hid (∀ (e : Ending) (w' : World) (a : Option Addr) (c : Nat), e = .returned (.tuple #[.int .i64 (bW bs bs.length), .int .i64 (bH bs bs.length), .slice a q c, .nilIface]) → w'.ownsRow W.heap.size 82 3 (.slice a q c) q (entsC (entsOf (bs.drop 4))) → Below W.heap.size W w' → DecPost R bs W e w') := by
            intro e w' a c h1 h2 h3
            unfold DecPost
            rw [HD2.out]
            refine ⟨h3, a, c, ?_, ?_⟩
            · simp only [hll]; rw [h1, hfw, hfh]
            · simp only [hll]; exact h2
          clear hfw hfh HD2
          have Hll := Lib.hid hll; clear hll
          go_wp2_with (first
            | (at_make; refine mk_cap rfl _ _ _ rfl W.heap.size et_ent .i64 .i64 _ q rfl rfl (by omega) (by omega) (by unfold maxLen; omega) (Nat.le_refl _) ?_; intro w1 hown1 hb1 hsz1))
          go_loopw [12, 13] (fun v i wr => ∃ (j p : Nat) (a' : Option Addr) (c' : Nat), j ≤ q ∧ p = 4 + 3 * j ∧ i = .int .i64 p ∧ v = .slice a' j c' ∧ wr.ownsRow W.heap.size 82 3 (.slice a' j c') j (entsC (entsOf ((bs.drop 4).take (3 * j)))) ∧ Below W.heap.size W wr) (fun _ i _ => bs.length - (intOf i).toNat)
          case atStart => exact ⟨0, 4, _, _, by omega, rfl, rfl, rfl, by simpa [entsOf, entsC] using hown1, (below_drewN (Below.refl _ _) _).trans hb1⟩
          case round =>
            obtain ⟨j, p, a', c', hj, hp, rfl, rfl, hown, hb⟩ := hrel
            have hp1 : p ≤ 4 + 3 * j := by omega
            have hp2 : 4 + 3 * j ≤ p := by omega
            have Hp := Lib.hid hp; clear hp
            by_cases hlt : j < q
            · obtain ⟨b, o, rfl, hbo, hcell⟩ := HR.out.2.resolve_left (by omega)
              have c0 := bs_cell hb hbo hcell p (by omega)
              have c1 := bs_cell hb hbo hcell (p + 1) (by omega)
              have c2 := bs_cell hb hbo hcell (p + 2) (by omega)
              clear hcell
              obtain ⟨x1, x2⟩ := bd_at HB.out p
              obtain ⟨y1, y2⟩ := bd_at HB.out (p + 1)
              obtain ⟨z1, z2⟩ := bd_at HB.out (p + 2)
              have HS : Hid (entsOf ((bs.drop 4).take (3 * (j + 1))) = entsOf ((bs.drop 4).take (3 * j)) ++ [(bs.getD p 0, bs.getD (p + 1) 0, bs.getD (p + 2) 0)]) := by
                have := entsOf_snoc (bs.drop 4) j (by simp; omega)
                have e1 : 3 * (j + 1) = 3 * j + 3 := by omega
                rw [e1]
                refine this.trans ?_
                simp only [List.getD_eq_getElem?_getD, List.getElem?_drop]
                rw [Hp.out, show 4 + (3 * j + 1) = 4 + 3 * j + 1 from by omega, show 4 + (3 * j + 2) = 4 + 3 * j + 2 from by omega]
              generalize bs.getD p 0 = x at *
              generalize bs.getD (p + 1) 0 = y at *
              generalize bs.getD (p + 2) 0 = z at *
              have hz := hb.size
              have g0 : (0 : Int) ≤ (p : Int) := by omega
              have g1 : (p : Int) < (bs.length : Int) := by omega
              have g2 : (0 : Int) ≤ (p : Int) + 1 := by omega
              have g3 : (p : Int) + 1 < (bs.length : Int) := by omega
              have g4 : (0 : Int) ≤ (p : Int) + 2 := by omega
              have g5 : (p : Int) + 2 < (bs.length : Int) := by omega
              have s1 : IntKind.i64.wrap ((p : Int) + 1) = (p : Int) + 1 := IntWalk.i64_in _ (by omega)
              have s2 : IntKind.i64.wrap ((p : Int) + 2) = (p : Int) + 2 := IntWalk.i64_in _ (by omega)
              have n1 : ((p : Int) + 1).toNat = p + 1 := by omega
              have n2 : ((p : Int) + 2).toNat = p + 2 := by omega
              go_wp2_with fail
              go_region_held3 (fun w' => w'.cell? ⟨b, o + p, none⟩ = some (.int .u8 x) ∧ w'.cell? ⟨b, o + (p + 1), none⟩ = some (.int .u8 y) ∧ w'.cell? ⟨b, o + (p + 2), none⟩ = some (.int .u8 z))
                (first | go_keep | exact ⟨(hb3.cell hbo).trans c0, (hb3.cell hbo).trans c1, (hb3.cell hbo).trans c2⟩)
                ((refine step_app_lit (by rfl) _ _ _ (by rfl) W.heap.size et_ent _ j _ hown (by rfl) 1 _ _ (by rfl) (by simp) (by rfl) (by rfl) (by unfold maxLen; omega) (by omega) (by omega) ?_; intro a3 c3 w3 hown3 hgr3 hb3 hsz3))
              clear s1 s2 n1 n2 g0 g1 g2 g3 g4 g5
              go_wp2
              go_roundw
              case rel =>
                refine ⟨j + 1, p + 3, a3, c3, by omega, by omega, by go_num, rfl, ?_, hb.trans hb3⟩
                rw [HS.out, entsC_snoc]
                rw [IntWalk.i64_in x (by omega), IntWalk.i64_in y (by omega), IntWalk.i64_in z (by omega)] at hown3
                exact hown3
              case measure => simp [intOf]; omega
            · obtain rfl : j = q := by omega
              have et : (bs.drop 4).take (3 * j) = bs.drop 4 := List.take_of_length_le (by simp; omega)
              rw [et] at hown
              clear et
              go_wp2
              refine bodyPost_ret (results_tmp4 rfl _ _ _) rfl ?_
              exact HP2.out _ _ a' c' rfl hown hb
end Go.Proofs.YtocfkmdoalhjmaaDoor
