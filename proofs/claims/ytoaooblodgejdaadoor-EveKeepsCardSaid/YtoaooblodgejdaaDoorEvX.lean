/- eve.made: the column that three make. eve: what the search keeps in memory; (*search).try. eve: (*search).on. eve: (*search).found. eve: (*search).all. -/
import Derived.Test.YtoaooblodgejdaaDoorJdgX
import Derived.Test.YtoaooblodgejdaaDoorEvP
import Derived.Test.YtoaooblodgejdaaDoorBitI
import Derived.Deep.QuietTactic
import Derived.BigQuiet
import Derived.Deep.RegionHeld3
namespace Go.Proofs.YtoaooblodgejdaaDoor
open Go.RowKit
set_option linter.unusedVariables false
set_option maxRecDepth 100000

theorem symF_bit2 {t : List Int} (ht : IsTab t) (a b c y : Nat) : ∃ s : Nat, symF t a b c y = (s : Int) ∧ s ≤ 1 := by
  have hs : symF t a b c y = 0 ∨ symF t a b c y = 1 := by
    unfold symF
    have h9 := wixT_lt a b c y 3
    have h2 : (2 : Nat) ^ (3 * 3) = 512 := by decide
    refine ht.sym _ ?_
    rw [List.getD_eq_getElem?_getD, List.getElem?_eq_getElem (by rw [ht.len]; omega)]
    exact List.getElem_mem _
  rcases hs with h | h
  · exact ⟨0, h, by omega⟩
  · exact ⟨1, h, by omega⟩
theorem made_or2 {o s y : Nat} (ho : o < 2 ^ y) : o ||| s * 2 ^ y = o + s * 2 ^ y := by
  have h := Nat.two_pow_add_eq_or_of_lt ho s
  rw [Nat.or_comm, Nat.mul_comm s, Nat.add_comm]
  exact h.symm
set_option maxHeartbeats 8000000 in
theorem evmade_any (ab ao cT : Nat) (t : List Int) (h a b c : Nat) (W : World) (hT : RK .i64 W (some ⟨ab, ao, none⟩) 512 t) (ht : IsTab t) (hh : h ≤ 4) (ha : a < 1024) (hb : b < 1024) (hc : c < 1024) :
    Calls Tryd.prog 62 #[.slice (some ⟨ab, ao, none⟩) 512 cT, .int .i64 (h : Nat), .int .i64 (a : Nat), .int .i64 (b : Nat), .int .i64 (c : Nat)] W fun e w' => e = .returned (.int .i64 ((madeV t a b c h : Nat) : Int)) ∧ ∃ n, w' = W.drewN n := by
  have HT := Lib.hid hT
  have HIT := Lib.hid ht
  obtain ⟨ab2, ao2, hab0, _, hcell⟩ := hT.addr (by omega)
  cases hab0
  have HC := Lib.hid hcell
  clear hT ht hcell
  go_enter Tryd.func62, Tryd.ntmps62
  go_wp2_with fail
  go_loopw [11, 16] (fun ox yx wr => ∃ y m : Nat, y ≤ h ∧ yx = .int .i64 (y : Nat) ∧ ox = .int .i64 ((madeV t a b c y : Nat) : Int) ∧ wr = W.drewN m) (fun _ yx _ => h - (intOf yx).toNat)
  case atStart => exact ⟨0, 0, by omega, rfl, rfl, rfl⟩
  case round =>
    obtain ⟨y, m, hyh0, rfl, rfl, hwm⟩ := hrel
    have HWM := Lib.hid hwm
    clear hwm
    by_cases hyh : y < h
    · have hy : y ≤ 8 := by omega
      have hyI : (y : Int) < (h : Int) := by omega
      have hml := madeV_lt HIT.out a b c y
      obtain ⟨ov, hov⟩ : ∃ ov, madeV t a b c y = ov := ⟨_, rfl⟩
      rw [hov] at hml ⊢
      have HOV := Lib.hid hov
      have HML := Lib.hid hml
      clear hov hml
      go_wp2_with fail
      go_loopw [13, 19] (fun nx ix wr => ∃ i m2 : Nat, i ≤ 3 ∧ ix = .int .i64 (i : Nat) ∧ nx = .int .i64 (wixT a b c y i : Nat) ∧ wr = W.drewN m2) (fun _ ix _ => 3 - (intOf ix).toNat)
      case atStart => exact ⟨0, m, by omega, rfl, rfl, HWM.out⟩
      case round =>
        obtain ⟨i, m2, hi, rfl, rfl, hwm2⟩ := hrel
        have HWM2 := Lib.hid hwm2
        clear hwm2
        have hwl := wixT_lt a b c y i
        by_cases hi3 : i < 3
        · have hw64 : wixT a b c y i < 512 := by
            have h1 : 2 ^ (3 * i) ≤ 2 ^ 9 := Nat.pow_le_pow_right (by omega) (by omega)
            have h2 : (2 : Nat) ^ 9 = 512 := by decide
            omega
          have HN : Hid (wixT a b c y (i + 1) = (wixT a b c y i * 8 ||| cb a (y + i) * 4) ||| cb b (y + i) * 2 ||| cb c (y + i)) := rfl
          generalize wixT a b c y i = n at *
          obtain ⟨k2, hk2⟩ : ∃ k2, y + i = k2 := ⟨_, rfl⟩
          rw [hk2] at HN
          have hkI2 : (y : Int) + (i : Int) = (k2 : Int) := by omega
          have hkw : IntKind.i64.wrap (k2 : Int) = (k2 : Int) := IntWalk.i64_in _ (by omega)
          have k0 : (0 : Int) ≤ (k2 : Int) := by omega
          have k64 : (k2 : Int) ≤ 64 := by omega
          obtain ⟨A1, hA1⟩ : ∃ A1, a / 2 ^ k2 = A1 := ⟨_, rfl⟩
          obtain ⟨B1, hB1⟩ : ∃ B1, b / 2 ^ k2 = B1 := ⟨_, rfl⟩
          obtain ⟨C1, hC1⟩ : ∃ C1, c / 2 ^ k2 = C1 := ⟨_, rfl⟩
          have hAI : (a : Int) / 2 ^ k2 = (A1 : Int) := by rw [← hA1, Int.natCast_ediv, Int.natCast_pow]; rfl
          have hBI : (b : Int) / 2 ^ k2 = (B1 : Int) := by rw [← hB1, Int.natCast_ediv, Int.natCast_pow]; rfl
          have hCI : (c : Int) / 2 ^ k2 = (C1 : Int) := by rw [← hC1, Int.natCast_ediv, Int.natCast_pow]; rfl
          have hA2 : A1 < 1024 := by rw [← hA1]; exact Nat.lt_of_le_of_lt (Nat.div_le_self _ _) ha
          have hB2 : B1 < 1024 := by rw [← hB1]; exact Nat.lt_of_le_of_lt (Nat.div_le_self _ _) hb
          have hC2 : C1 < 1024 := by rw [← hC1]; exact Nat.lt_of_le_of_lt (Nat.div_le_self _ _) hc
          have haa := and1_i64 (a := A1) (by omega)
          have hbb := and1_i64 (a := B1) (by omega)
          have hcc := and1_i64 (a := C1) (by omega)
          have ep : cb a k2 = A1 % 2 := by unfold cb; rw [hA1]
          have eq : cb b k2 = B1 % 2 := by unfold cb; rw [hB1]
          have er : cb c k2 = C1 % 2 := by unfold cb; rw [hC1]
          rw [ep, eq, er] at HN
          have lp : A1 % 2 ≤ 1 := by omega
          have lq : B1 % 2 ≤ 1 := by omega
          have lr : C1 % 2 ≤ 1 := by omega
          generalize A1 % 2 = p at *
          generalize B1 % 2 = q at *
          generalize C1 % 2 = r at *
          obtain ⟨N8, hN8⟩ : ∃ N8, n * 8 = N8 := ⟨_, rfl⟩
          obtain ⟨P4, hP4⟩ : ∃ P4, p * 4 = P4 := ⟨_, rfl⟩
          obtain ⟨Q2, hQ2⟩ : ∃ Q2, q * 2 = Q2 := ⟨_, rfl⟩
          rw [hN8, hP4, hQ2] at HN
          have n8 : (n : Int) * 8 = (N8 : Int) := by omega
          have n8b : (n : Int) * 2 ^ 3 = (N8 : Int) := n8
          have p4 : (p : Int) * 4 = (P4 : Int) := by omega
          have p4b : (p : Int) * 2 ^ 2 = (P4 : Int) := p4
          have q2 : (q : Int) * 2 = (Q2 : Int) := by omega
          have q2b : (q : Int) * 2 ^ 1 = (Q2 : Int) := q2
          have wN : IntKind.i64.wrap (N8 : Int) = (N8 : Int) := IntWalk.i64_in _ (by omega)
          have wP : IntKind.i64.wrap (P4 : Int) = (P4 : Int) := IntWalk.i64_in _ (by omega)
          have wQ : IntKind.i64.wrap (Q2 : Int) = (Q2 : Int) := IntWalk.i64_in _ (by omega)
          have bN : N8 < 2 ^ 12 := by have : (2 : Nat) ^ 12 = 4096 := by decide
                                      omega
          have bP : P4 < 2 ^ 12 := by have : (2 : Nat) ^ 12 = 4096 := by decide
                                      omega
          have bQ : Q2 < 2 ^ 12 := by have : (2 : Nat) ^ 12 = 4096 := by decide
                                      omega
          have o1 := or_i64 (a := N8) (b := P4) (by omega) (by omega)
          have l1 := Nat.or_lt_two_pow bN bP
          obtain ⟨M1, hM1⟩ : ∃ M1, N8 ||| P4 = M1 := ⟨_, rfl⟩
          rw [hM1] at o1 l1 HN
          have o2 := or_i64 (a := M1) (b := Q2) (by omega) (by omega)
          have l2 := Nat.or_lt_two_pow l1 bQ
          obtain ⟨M2, hM2⟩ : ∃ M2, M1 ||| Q2 = M2 := ⟨_, rfl⟩
          rw [hM2] at o2 l2 HN
          have o3 := or_i64 (a := M2) (b := r) (by omega) (by omega)
          obtain ⟨M3, hM3⟩ : ∃ M3, M2 ||| r = M3 := ⟨_, rfl⟩
          rw [hM3] at o3 HN
          clear hk2 hA1 hB1 hC1 ep eq er hN8 hP4 hQ2 hM1 hM2 hM3 hwl hw64 bN bP bQ l1 l2 lp lq lr
          have iwq : IntKind.i64.wrap ((i : Int) + 1) = (i : Int) + 1 := IntWalk.i64_in _ (by omega)
          go_wp2_with fail
          go_quiet (fail)
          go_wp2
          go_roundw
          case rel => exact ⟨i + 1, m2 + nq, by omega, by go_num, by rw [HN.out], by rw [HWM2.out]; exact World.drewN_drewN _ _ _⟩
          case measure => simp [intOf]; omega
        · obtain rfl : i = 3 := by omega
          have h9 : wixT a b c y 3 < 512 := hwl
          obtain ⟨s, hs, hs1⟩ := symF_bit2 HIT.out a b c y
          have hy0 : t.getD (wixT a b c y 3) 0 = (s : Int) := hs
          have z0 : wr.cell? ⟨ab, ao + wixT a b c y 3, none⟩ = some (.int .i64 (s : Nat)) := by rw [HWM2.out, ← hy0]; exact HC.out _ h9
          have hm1 : madeV t a b c (y + 1) = ov ||| s * 2 ^ y := by
            rw [made_or2 HML.out, ← HOV.out]
            show _ + (symF t a b c y).toNat * 2 ^ y = _
            rw [hs, Int.toNat_natCast]
          have hp16 : 2 ^ y ≤ 16 := by
            have := Nat.pow_le_pow_right (n := 2) (by omega) (show y ≤ 4 by omega)
            have h2 : (2 : Nat) ^ 4 = 16 := by decide
            omega
          obtain ⟨sv, hsv⟩ : ∃ sv, s * 2 ^ y = sv := ⟨_, rfl⟩
          have hsvb : sv ≤ 16 := by rw [← hsv]; exact Nat.le_trans (Nat.mul_le_mul hs1 hp16) (by omega)
          have hsvI : (s : Int) * 2 ^ y = (sv : Int) := by rw [← hsv, Int.natCast_mul, Int.natCast_pow]; rfl
          have hsvw : IntKind.i64.wrap (sv : Int) = (sv : Int) := IntWalk.i64_in _ (by omega)
          rw [hsv] at hm1
          have hor := or_i64 (a := ov) (b := sv) (by have := HML.out; omega) (by omega)
          have HM1 := Lib.hid hm1
          generalize wixT a b c y 3 = n at *
          have n0 : (0 : Int) ≤ (n : Int) := by omega
          have n1 : (n : Int) < 512 := by omega
          have y0 : (0 : Int) ≤ (y : Int) := by omega
          have y64 : (y : Int) ≤ 64 := by omega
          have yw : IntKind.i64.wrap ((y : Int) + 1) = (y : Int) + 1 := IntWalk.i64_in _ (by omega)
          clear hy0 hs hm1 hsv hwl
          go_wp2
          go_roundw
          case rel => exact ⟨y + 1, m2, by omega, by go_num, by rw [HM1.out], HWM2.out⟩
          case measure => simp [intOf]; omega
    · obtain rfl : y = h := by omega
      have hyI : ¬ (y : Int) < (y : Int) := by omega
      go_wp2
      go_ret
      exact ⟨rfl, _, HWM.out⟩
end Go.Proofs.YtoaooblodgejdaaDoor
namespace Go.Proofs.YtoaooblodgejdaaDoor
open Go.RowKit
set_option linter.unusedVariables false
set_option maxRecDepth 100000

theorem madeV_bit {t : List Int} (ht : IsTab t) (a b c : Nat) : ∀ k j, j < k → ((cb (madeV t a b c k) j : Nat) : Int) = symF t a b c j
  | 0, j, hj => by omega
  | k + 1, j, hj => by
    obtain ⟨s, hs, hs1⟩ := symF_bit2 ht a b c k
    have hlt := madeV_lt ht a b c k
    have e : madeV t a b c (k + 1) = madeV t a b c k + s * 2 ^ k := by
      show _ + (symF t a b c k).toNat * 2 ^ k = _
      rw [hs, Int.toNat_natCast]
    rw [e]
    unfold cb
    rcases Nat.lt_or_ge j k with h1 | h1
    · rw [← madeV_bit ht a b c k j h1]
      unfold cb
      have e2 : s * 2 ^ k = 2 ^ j * (2 * (s * 2 ^ (k - j - 1))) := by
        have e3 : 2 ^ k = 2 ^ j * (2 * 2 ^ (k - j - 1)) := by
          rw [← Nat.mul_assoc, ← Nat.pow_succ, ← Nat.pow_add]; congr 1; omega
        rw [e3, Nat.mul_left_comm, Nat.mul_left_comm s 2]
      rw [e2, Nat.add_mul_div_left _ _ (Nat.two_pow_pos j), Nat.add_mul_mod_self_left]
    · obtain rfl : j = k := by omega
      rw [Nat.add_mul_div_right _ _ (Nat.two_pow_pos j), Nat.div_eq_of_lt hlt, Nat.zero_add, hs]
      omega
theorem made_mk {t cols : List Int} {h col : Nat} (ht : IsTab t) {want : Nat} (hw : cols.getD col 0 = (want : Int)) (hlt : want < 2 ^ h) (a b c : Nat) : decide (((madeV t a b c h : Nat) : Int) = (want : Int)) = mkL t cols h col a b c := by
  rw [Bool.eq_iff_iff, decide_eq_true_iff]
  unfold mkL
  rw [hw, Int.toNat_natCast, looksF_all]
  constructor
  · intro e j hj
    have e2 : madeV t a b c h = want := by omega
    rw [Nat.zero_add, ← madeV_bit ht a b c h j hj, e2]
  · intro hall
    have := madeV_of (t := t) (a := a) (b := b) (c := c) (x := want) h (fun j hj => by have := hall j hj; rwa [Nat.zero_add] at this)
    rw [Nat.mod_eq_of_lt hlt] at this
    omega
theorem colL_want {w h : Nat} {l : List Int} (hp : IsPatch w h l) {x : Nat} (hx : x < w) : ∃ want : Nat, (colL w h l).getD x 0 = (want : Int) ∧ want < 2 ^ h := by
  refine ⟨colV w l x h, ?_, colV_lt hp hx h (Nat.le_refl h)⟩
  exact colL_getD hx
/-- what does not change in the search's block -/
structure SK where
  g : Nat
  ab : Nat
  ao : Nat
  cT : Nat
  aP : Option Addr
  nP : Nat
  cP : Nat
  gc : Nat
  oc : Nat
  cC : Nat
  w : Nat
  h : Nat
  m : Nat
  gd : Nat
  N : Nat
abbrev sObj (k : SK) (tr lf : Nat) (aO : Option Addr) (nO cO : Nat) (aW : Option Addr) (nW cW : Nat) : Obj :=
  .cells #[.slice (some ⟨k.ab, k.ao, none⟩) 512 k.cT, .int .i64 (k.w : Nat), .int .i64 (k.h : Nat), .slice k.aP k.nP k.cP, .slice (some ⟨k.gc, k.oc, none⟩) k.w k.cC, .int .i64 (k.m : Nat), .int .i64 (tr : Nat), .int .i64 (lf : Nat), .slice (some ⟨k.gd, 0, none⟩) k.N k.N, .slice aO nO cO, .slice aW nW cW] 100
structure SM (k : SK) (S : SS) (wv : World) (aO : Option Addr) (cO : Nat) (aW : Option Addr) (cW : Nat) : Prop where
  box : wv.heap[k.g]? = some (sObj k S.tries S.left aO S.order.length cO aW S.way.length cW)
  dead : wv.ownsRow (k.g + 1) 4 1 (.slice (some ⟨k.gd, 0, none⟩) k.N k.N) k.N (bools k.N (ahB k.m S.order))
  ord : wv.ownsRow (k.g + 1) 90 3 (.slice aO S.order.length cO) S.order.length (entsC S.order)
  way : OwI wv (k.g + 1) aW S.way.length cW S.way
theorem s_cells {k : SK} {tr lf nO cO nW cW : Nat} {aO aW : Option Addr} {w : World} (h : w.heap[k.g]? = some (sObj k tr lf aO nO cO aW nW cW)) :
    (w.cell? ⟨k.g, 0, none⟩ = some (.slice (some ⟨k.ab, k.ao, none⟩) 512 k.cT) ∧ w.cell? ⟨k.g, 1, none⟩ = some (.int .i64 (k.w : Nat)) ∧ w.cell? ⟨k.g, 2, none⟩ = some (.int .i64 (k.h : Nat)) ∧ w.cell? ⟨k.g, 4, none⟩ = some (.slice (some ⟨k.gc, k.oc, none⟩) k.w k.cC) ∧ w.cell? ⟨k.g, 5, none⟩ = some (.int .i64 (k.m : Nat)) ∧ w.cell? ⟨k.g, 6, none⟩ = some (.int .i64 (tr : Nat)) ∧ w.cell? ⟨k.g, 7, none⟩ = some (.int .i64 (lf : Nat)) ∧ w.cell? ⟨k.g, 8, none⟩ = some (.slice (some ⟨k.gd, 0, none⟩) k.N k.N) ∧ w.cell? ⟨k.g, 9, none⟩ = some (.slice aO nO cO) ∧ w.cell? ⟨k.g, 10, none⟩ = some (.slice aW nW cW)) ∧
    ∀ j, w.frozen? ⟨k.g, j, none⟩ = false := by
  refine ⟨by simp [World.cell?, h], fun j => ?_⟩
  simp [World.frozen?, h]
/-- rows of two types lie in two blocks -/
theorem ap_ty {w : World} {b1 b2 s1 s2 n1 n2 : Nat} {e1 e2 : TypeId} {v1 v2 : Value} {c1 c2 : List Value} (h1 : w.ownsRow b1 e1 s1 v1 n1 c1) (h2 : w.ownsRow b2 e2 s2 v2 n2 c2) (he : e1 ≠ e2) : Ap v1 v2 := by
  intro g hg hg2
  rcases h1.2 with ⟨rfl, _⟩ | ⟨k1, _, _, rfl, _, q1, _⟩
  · cases hg
  · rcases h2.2 with ⟨rfl, _⟩ | ⟨k2, _, _, rfl, _, q2, _⟩
    · cases hg2
    · simp only [Value.ownBlock, Option.some.injEq] at hg hg2
      subst hg hg2
      rw [q1] at q2
      simp only [Option.some.injEq, Obj.cells.injEq] at q2
      exact he q2.2.1
/-- a row stays where another is written -/
theorem own_grown {w w' : World} {b sz n : Nat} {e : TypeId} {v u : Value} {cs : List Value} (h : w.ownsRow b e sz v n cs) (hg : w.grownBy w' u.ownBlock) (hne : Ap u v) : w'.ownsRow b e sz v n cs := by
  refine ⟨h.1, ?_⟩
  rcases h.2 with hn | ⟨g, cap, cur, rfl, hbg, hb, rest⟩
  · exact .inl hn
  · refine .inr ⟨g, cap, cur, rfl, hbg, ?_, rest⟩
    rw [hg.block g (Array.getElem?_eq_some_iff.1 hb).1 (fun e => hne g e.symm rfl)]
    exact hb
theorem blk_grown {w w' : World} {g : Nat} {o : Obj} {u : Value} (h : w.heap[g]? = some o) (hg : w.grownBy w' u.ownBlock) (hne : u.ownBlock ≠ some g) : w'.heap[g]? = some o := by
  rw [hg.block g (heap_ltT h) (fun e => hne e.symm)]
  exact h
theorem own_neG {w : World} {g sz n : Nat} {e : TypeId} {v : Value} {cs : List Value} (h : w.ownsRow (g + 1) e sz v n cs) : v.ownBlock ≠ some g := fun e2 => by have := (h.lt g e2).1; omega
theorem Ap.of_ne {w : World} {g sz n : Nat} {e : TypeId} {v : Value} {cs : List Value} (h : w.ownsRow (g + 1) e sz v n cs) : v.ownBlock ≠ some g := own_neG h
theorem SM.below {k : SK} {S : SS} {wv wv' : World} {aO aW : Option Addr} {cO cW : Nat} (h : SM k S wv aO cO aW cW) (hb : Below wv.heap.size wv wv') : SM k S wv' aO cO aW cW :=
  ⟨(hb.block _ (heap_ltT h.box)).trans h.box, owns_up h.dead hb, owns_up h.ord hb, h.way.up hb⟩
/-- results of the type api.Found stay as they are -/
def KeepF (w w' : World) : Prop := ∀ (j : Nat) (cs : Array Value), w.heap[j]? = some (.cells cs 28) → w'.heap[j]? = some (.cells cs 28)
theorem KeepF.trans {a b c : World} (h : KeepF a b) (h2 : KeepF b c) : KeepF a c := fun j cs e => h2 j cs (h j cs e)
theorem keepF_below {a b : World} (h : Below a.heap.size a b) : KeepF a b := fun j cs e => (h.block j (heap_ltT e)).trans e
theorem keepF_set {w : World} {g j : Nat} {u : Value} {cs : Array Value} {ty : TypeId} {fr : Nat × Nat} (h : w.heap[g]? = some (.cells cs ty fr)) (hne : ty ≠ 28) : KeepF w (w.setCell ⟨g, j, none⟩ u) := fun j2 cs2 e => by
  rw [Below.heap_setCell _ _ _ _ (by
    intro e2
    have e3 : j2 = g := e2
    subst e3
    rw [h] at e
    simp only [Option.some.injEq, Obj.cells.injEq] at e
    exact hne e.2.1)]
  exact e
theorem keepF_grown {w w' : World} {b sz n : Nat} {e : TypeId} {v : Value} {cs : List Value} (h : w.ownsRow b e sz v n cs) (hne : e ≠ 28) (hg : w.grownBy w' v.ownBlock) : KeepF w w' := fun j cs2 e2 => by
  rw [hg.block j (heap_ltT e2) (fun e3 => by
    rcases h.2 with ⟨rfl, _⟩ | ⟨k1, _, _, rfl, _, q1, _⟩
    · cases e3
    · simp only [Value.ownBlock, Option.some.injEq] at e3
      subst e3
      rw [q1] at e2
      simp only [Option.some.injEq, Obj.cells.injEq] at e2
      exact hne e2.2.1)]
  exact e2
/-- a try is written down -/
theorem sObj_set {k : SK} {tr lf nO cO nW cW : Nat} {aO aW : Option Addr} {w : World} (h : w.heap[k.g]? = some (sObj k tr lf aO nO cO aW nW cW)) :
    (∀ u : Nat, (w.setCell ⟨k.g, 7, none⟩ (.int .i64 (u : Nat))).heap[k.g]? = some (sObj k tr u aO nO cO aW nW cW)) ∧ (∀ u : Nat, (w.setCell ⟨k.g, 6, none⟩ (.int .i64 (u : Nat))).heap[k.g]? = some (sObj k u lf aO nO cO aW nW cW)) ∧
    (∀ a2 n2 c2, (w.setCell ⟨k.g, 9, none⟩ (.slice a2 n2 c2)).heap[k.g]? = some (sObj k tr lf a2 n2 c2 aW nW cW)) ∧ (∀ a2 n2 c2, (w.setCell ⟨k.g, 10, none⟩ (.slice a2 n2 c2)).heap[k.g]? = some (sObj k tr lf aO nO cO a2 n2 c2)) ∧ (∀ n2 : Nat, True) := by
  refine ⟨fun u => ?_, fun u => ?_, fun a2 n2 c2 => ?_, fun a2 n2 c2 => ?_, fun _ => trivial⟩ <;> simp [World.setCell, Array.getElem?_modify, h]
theorem SM.trySet {k : SK} {S : SS} {wv : World} {aO aW : Option Addr} {cO cW : Nat} (h : SM k S wv aO cO aW cW) (u v : Nat) :
    SM k { S with left := u, tries := v } ((wv.setCell ⟨k.g, 7, none⟩ (.int .i64 (u : Nat))).setCell ⟨k.g, 6, none⟩ (.int .i64 (v : Nat))) aO cO aW cW := by
  refine ⟨(sObj_set ((sObj_set h.box).1 u)).2.1 v, ?_, ?_, ?_⟩
  · exact own_set_other (own_set_other h.dead (own_neG h.dead) _) (own_neG h.dead) _
  · exact own_set_other (own_set_other h.ord (own_neG h.ord) _) (own_neG h.ord) _
  · exact ⟨own_set_other (own_set_other h.way.own (own_neG h.way.own) _) (own_neG h.way.own) _⟩
/-- the search's surroundings: table, columns, the listed errors, as they lay ahead of its block -/
structure ST (k : SK) (t l : List Int) (R : Nat → Addr) (w0 : World) : Prop where
  sz : w0.heap.size = k.g
  sent : Sent w0 R
  tab : RK .i64 w0 (some ⟨k.ab, k.ao, none⟩) 512 t
  col : RK .i64 w0 (some ⟨k.gc, k.oc, none⟩) k.w (colL k.w k.h l)
  ist : IsTab t
  isp : IsPatch k.w k.h l
  w8 : k.w ≤ 8
  h4 : k.h ≤ 4
  me : k.m = 4 * 2 ^ k.h
  ne : k.N = k.w * k.m * k.m
abbrev nbV (R : Nat → Addr) : Value := .iface 190 (.pointer (some (R 4)))
theorem ST.up {k : SK} {t l : List Int} {R : Nat → Addr} {w0 wv : World} (h : ST k t l R w0) (hb : Below k.g w0 wv) : Sent wv R ∧ RK .i64 wv (some ⟨k.ab, k.ao, none⟩) 512 t ∧ RK .i64 wv (some ⟨k.gc, k.oc, none⟩) k.w (colL k.w k.h l) := by
  have hb2 : Below w0.heap.size w0 wv := by rw [h.sz]; exact hb
  exact ⟨h.sent.up hb2, h.tab.up hb2, h.col.up hb2⟩
set_option maxHeartbeats 8000000 in
theorem evtry_no (k : SK) (t l : List Int) (R : Nat → Addr) (w0 : World) (S : SS) (wv : World) (aO aW : Option Addr) (cO cW : Nat) (hst : ST k t l R w0) (hm : SM k S wv aO cO aW cW) (hb : Below k.g w0 wv) (hl : S.left = 0) (col a b c : Int) :
    Calls Tryd.prog 112 #[.pointer (some ⟨k.g, 0, none⟩), .int .i64 col, .int .i64 a, .int .i64 b, .int .i64 c] wv fun e w' => e = .returned (.tuple #[.bool false, nbV R]) ∧ Below wv.heap.size wv w' := by
  obtain ⟨⟨c0, c1, c2, c4, c5, c6, c7, c8, c9, c10⟩, hf⟩ := s_cells hm.box
  rw [hl] at c7
  have hgl := (hst.up hb).1.glob 4 (by omega)
  have hgl2 : wv.cell? ⟨0, 0, none⟩ = some (nbV R) := hgl
  go_enter Tryd.func112, Tryd.ntmps112
  go_wp2_with fail
  go_quiet (fail)
  go_wp2
  go_ret2
  exact ⟨rfl, bdrewN (bnil wv) _⟩
set_option maxHeartbeats 8000000 in
theorem evtry_ok (k : SK) (t l : List Int) (R : Nat → Addr) (w0 : World) (S : SS) (wv : World) (aO aW : Option Addr) (cO cW : Nat) (hst : ST k t l R w0) (hm : SM k S wv aO cO aW cW) (hb : Below k.g w0 wv) (hl : S.left ≠ 0) (hL : S.tries + S.left ≤ 1099511627776) (col a b c : Nat) (hc : col < k.w) (ha : a < k.m) (hbb : b < k.m) (hcc : c < k.m) :
    Calls Tryd.prog 112 #[.pointer (some ⟨k.g, 0, none⟩), .int .i64 (col : Nat), .int .i64 (a : Nat), .int .i64 (b : Nat), .int .i64 (c : Nat)] wv fun e w' => e = .returned (.tuple #[.bool (mkL t (colL k.w k.h l) k.h col a b c), .nilIface]) ∧ SM k { S with left := S.left - 1, tries := S.tries + 1 } w' aO cO aW cW ∧ Below k.g w0 w' ∧ KeepF wv w' := by
  have hm64 := (m_le hst.h4).1
  rw [← hst.me] at hm64
  obtain ⟨want, hwt, hwl⟩ := colL_want hst.isp hc
  have hmk := made_mk (t := t) hst.ist hwt hwl a b c
  rw [← hmk]
  obtain ⟨⟨c0, c1, c2, c4, c5, c6, c7, c8, c9, c10⟩, hf⟩ := s_cells hm.box
  have hsm := hm.trySet (S.left - 1) (S.tries + 1)
  obtain ⟨w1, hw1⟩ : ∃ w1, wv.setCell ⟨k.g, 7, none⟩ (.int .i64 ((S.left - 1 : Nat) : Int)) = w1 := ⟨_, rfl⟩
  rw [hw1] at hsm
  obtain ⟨w2, hw2⟩ : ∃ w2, w1.setCell ⟨k.g, 6, none⟩ (.int .i64 ((S.tries + 1 : Nat) : Int)) = w2 := ⟨_, rfl⟩
  rw [hw2] at hsm
  have hb2 : Below k.g w0 w2 := by
    rw [← hw2, ← hw1]
    exact (hb.setCell (p := ⟨k.g, 7, none⟩) (Nat.le_refl _) _).setCell (p := ⟨k.g, 6, none⟩) (Nat.le_refl _) _
  have HKF : Hid (KeepF wv w2) := by
    show KeepF _ _
    rw [← hw2, ← hw1]
    exact (keepF_set hm.box (by decide)).trans (keepF_set ((sObj_set hm.box).1 _) (by decide))
  have HSM := Lib.hid hsm
  have HB2 := Lib.hid hb2
  have hI1 : (S.left : Int) - 1 = ((S.left - 1 : Nat) : Int) := by omega
  have hI1w : IntKind.i64.wrap ((S.left - 1 : Nat) : Int) = ((S.left - 1 : Nat) : Int) := IntWalk.i64_in _ (by omega)
  have hI2 : (S.tries : Int) + 1 = ((S.tries + 1 : Nat) : Int) := by omega
  have hI2w : IntKind.i64.wrap ((S.tries + 1 : Nat) : Int) = ((S.tries + 1 : Nat) : Int) := IntWalk.i64_in _ (by omega)
  have hl0 : ((S.left : Int) == 0) = false := by rw [beq_eq_false_iff_ne]; omega
  have hl1 : ¬ (S.left : Int) = 0 := by omega
  have d6 : w1.cell? ⟨k.g, 6, none⟩ = some (.int .i64 (S.tries : Nat)) := by
    rw [← hw1]
    exact (s_cells ((sObj_set hm.box).1 (S.left - 1))).1.2.2.2.2.2.1
  have hf1 : w1.frozen? ⟨k.g, 6, none⟩ = false := by
    rw [← hw1]
    exact (s_cells ((sObj_set hm.box).1 (S.left - 1))).2 6
  have hf7 := hf 7
  obtain ⟨⟨e0, e1, e2, e4, e5, e6, e7, e8, e9, e10⟩, _⟩ := s_cells hsm.box
  obtain ⟨_, _, hgq, _, hcc2⟩ := (hst.up hb2).2.2.addr (by omega)
  cases hgq
  have hcw := hcc2 col hc
  rw [hwt] at hcw
  have hMD := fun q => evmade_any k.ab k.ao k.cT t k.h a b c (w2.drewN q) ((hst.up (below_drewN hb2 q)).2.1) hst.ist hst.h4 (by omega) (by omega) (by omega)
  have HMD := Lib.hid hMD
  have HW := Lib.hid (And.intro hw1 hw2)
  have q0 : (0 : Int) ≤ (col : Int) := by omega
  have q1 : (col : Int) < (k.w : Int) := by omega
  generalize S.left - 1 = lf at *
  generalize S.tries + 1 = tr at *
  clear hf hmk hcc2 hwt hMD hsm hb2 e6 e7 e9 e10 e8 c8 c9 c10
  go_enter Tryd.func112, Tryd.ntmps112
  go_wp2_with fail
  go_quiet ((go_at_call 62; exact Calls.quiet_of (HMD.out _)))
  go_wp2
  go_ret2
  exact ⟨rfl, HSM.out.below (bdrewN (bnil _) _), below_drewN HB2.out _, HKF.out.trans (keepF_below (bdrewN (bnil _) _))⟩
end Go.Proofs.YtoaooblodgejdaaDoor
namespace Go.Proofs.YtoaooblodgejdaaDoor
open Go.RowKit
set_option linter.unusedVariables false
set_option maxRecDepth 100000

theorem ety_i : ET Tryd.prog 22 3 (.int .i64 0) 1 8 := et_int
theorem SM.wayApp {k : SK} {S : SS} {wv w' : World} {aO aW a2 : Option Addr} {cO cW c2 : Nat} {news : List Int} (h : SM k S wv aO cO aW cW) (hg : wv.grownBy w' (Value.slice aW S.way.length cW).ownBlock)
    (ho : w'.ownsRow (k.g + 1) 3 1 (.slice a2 (S.way.length + news.length) c2) (S.way.length + news.length) ((S.way ++ news).map (Value.int .i64))) :
    SM k { S with way := S.way ++ news } (w'.setCell ⟨k.g, 10, none⟩ (.slice a2 (S.way.length + news.length) c2)) aO cO a2 c2 := by
  have hb := blk_grown h.box hg (own_neG h.way.own)
  have hd := own_grown h.dead hg (ap_ty h.way.own h.dead (by decide))
  have hr := own_grown h.ord hg (ap_ty h.way.own h.ord (by decide))
  have hl : S.way.length + news.length = (S.way ++ news).length := by rw [List.length_append]
  rw [hl] at ho ⊢
  exact ⟨(sObj_set hb).2.2.2.1 _ _ _, own_set_other hd (own_neG hd) _, own_set_other hr (own_neG hr) _, ⟨own_set_other ho (own_neG ho) _⟩⟩
theorem SM.ordApp {k : SK} {S : SS} {wv w' : World} {aO aW a2 : Option Addr} {cO cW c2 : Nat} {x : Ent} (h : SM k S wv aO cO aW cW) {wd : World} (hd0 : wd = wv.setCell ⟨k.gd, posE k.m x, none⟩ (.bool true)) (hlt : posE k.m x < k.N) (hg : wd.grownBy w' (Value.slice aO S.order.length cO).ownBlock)
    (ho : w'.ownsRow (k.g + 1) 90 3 (.slice a2 (S.order.length + 1) c2) (S.order.length + 1) (entsC S.order ++ [.int .i64 x.1, .int .i64 x.2.1, .int .i64 x.2.2])) :
    SM k { S with order := S.order ++ [x] } (w'.setCell ⟨k.g, 9, none⟩ (.slice a2 (S.order.length + 1) c2)) a2 c2 aW cW := by
  have hgd : k.g + 1 ≤ k.gd := (h.dead.lt k.gd rfl).1
  have hbd : wd.heap[k.g]? = some (sObj k S.tries S.left aO S.order.length cO aW S.way.length cW) := by
    rw [hd0, Below.heap_setCell _ _ _ _ (by show k.g ≠ k.gd; omega)]
    exact h.box
  have hdd := own_set h.dead (posE k.m x) (.bool true)
  rw [bools_set _ (ahB k.m (S.order ++ [x])) (fun j _ => ahB_snoc k.m S.order x j), ← hd0] at hdd
  have hdo : wd.ownsRow (k.g + 1) 90 3 (.slice aO S.order.length cO) S.order.length (entsC S.order) := by
    rw [hd0]
    exact own_set_other h.ord (fun e => (ap_ty h.dead h.ord (by decide)) k.gd rfl e) _
  have hdw : wd.ownsRow (k.g + 1) 3 1 (.slice aW S.way.length cW) S.way.length (S.way.map (Value.int .i64)) := by
    rw [hd0]
    exact own_set_other h.way.own (fun e => (ap_ty h.dead h.way.own (by decide)) k.gd rfl e) _
  have hb := blk_grown hbd hg (own_neG hdo)
  have hd := own_grown hdd hg (ap_ty hdo hdd (by decide))
  have hw := own_grown hdw hg (ap_ty hdo hdw (by decide))
  have hl : S.order.length + 1 = (S.order ++ [x]).length := by rw [List.length_append, List.length_singleton]
  have hc : entsC S.order ++ [.int .i64 x.1, .int .i64 x.2.1, .int .i64 x.2.2] = entsC (S.order ++ [x]) := by simp [entsC, entC]
  rw [hl, hc] at ho
  rw [hl]
  exact ⟨(sObj_set hb).2.2.1 _ _ _, own_set_other hd (own_neG hd) _, own_set_other ho (own_neG ho) _, ⟨own_set_other hw (own_neG hw) _⟩⟩
/-- what on answers -/
def onV (R : Nat → Addr) (o : Option Bool) : Value := .tuple #[.bool (o == some true), match o with | none => nbV R | some _ => .nilIface]
/-- what a call of on brings about, in memory -/
def OnRet (k : SK) (R : Nat → Addr) (w0 wv : World) (X : SS × Option Bool) (e : Ending) (w' : World) : Prop := ∃ aO cO aW cW, e = .returned (onV R X.2) ∧ SM k X.1 w' aO cO aW cW ∧ Below k.g w0 w' ∧ KeepF wv w'
abbrev mkK (k : SK) (t l : List Int) := mkL t (colL k.w k.h l) k.h
set_option maxHeartbeats 16000000 in
theorem evon_end (k : SK) (t l : List Int) (R : Nat → Addr) (w0 : World) (hst : ST k t l R w0) (S : SS) (wv : World) (aO aW : Option Addr) (cO cW : Nat) (a b : Nat) (hm : SM k S wv aO cO aW cW) (hb : Below k.g w0 wv) (hw : S.way = []) :
    Calls Tryd.prog 100 #[.pointer (some ⟨k.g, 0, none⟩), .int .i64 (k.w : Nat), .int .i64 (a : Nat), .int .i64 (b : Nat)] wv (OnRet k R w0 wv ({ S with way := S.way ++ [(b : Int), (a : Int)] }, some true)) := by
  obtain ⟨⟨c0, c1, c2, c4, c5, c6, c7, c8, c9, c10⟩, hf⟩ := s_cells hm.box
  have hf10 := hf 10
  have hlb : S.way.length ≤ 100 := by rw [hw]; exact Nat.zero_le _
  have hgl := heap_ltT hm.box
  have HM := Lib.hid hm
  have HB := Lib.hid hb
  have d10 : (wv.alloc (.cells #[.int .i64 (b : Nat), .int .i64 (a : Nat)] 3)).cell? ⟨k.g, 10, none⟩ = some (.slice aW S.way.length cW) := al000 c10
  have hown := hm.way.own
  clear hm hb hf c0 c2 c4 c5 c6 c7 c8 c9 hw
  go_enter Tryd.func100, Tryd.ntmps100
  go_wp2_with (first
    | (at_builtin; refine app_lit rfl _ _ _ rfl (k.g + 1) et_int _ S.way.length _ hown (by rfl) 2 _ _ (by rfl) (by rfl) (by simp) (by rfl) (by unfold maxLen; omega) (by omega) hgl ?_; intro a5 c5 w5 ho5 hg5 hb5 hs5; have HO5 := Lib.hid ho5; have HG5 := Lib.hid hg5; have HB5 := Lib.hid hb5; have y5 : w5.cell? ⟨k.g, 10, none⟩ = some (.slice aW S.way.length cW) := (hb5.cell (p := ⟨k.g, 10, none⟩) (Nat.lt_succ_self k.g)).trans c10; have f5 := (hb5.frozen (p := ⟨k.g, 10, none⟩) (Nat.lt_succ_self k.g)).trans hf10; clear ho5 hg5 hb5 hs5))
  go_wp2
  go_ret2
  have ho6 : w5.ownsRow (k.g + 1) 3 1 (.slice a5 (S.way.length + [(b : Int), (a : Int)].length) c5) (S.way.length + [(b : Int), (a : Int)].length) ((S.way ++ [(b : Int), (a : Int)]).map (Value.int .i64)) := by
    have h := HO5.out
    rw [List.map_append]
    exact h
  exact ⟨_, _, _, _, rfl, HM.out.wayApp HG5.out ho6, (HB.out.trans (HB5.out.mono (Nat.le_succ k.g))).setCell (p := ⟨k.g, 10, none⟩) (Nat.le_refl _) _, (keepF_grown HM.out.way.own (by decide) HG5.out).trans (keepF_set (blk_grown HM.out.box HG5.out (own_neG HM.out.way.own)) (by decide))⟩
theorem inv_begin {t cols : List Int} {h m w L0 col a b : Nat} {S : SS} (hi : Inv t cols h m w L0 S) (hA : ∀ x ∈ S.st, (col : Int) ≤ x.1 → x ∈ S.order) (hmem : ¬ entN col a b ∈ S.order) (hfit : Fit3 w m (entN col a b)) :
    Inv t cols h m w L0 { S with st := S.st ++ [entN col a b] } ∧ ∀ x ∈ S.st ++ [entN col a b], ((col + 1 : Nat) : Int) ≤ x.1 → x ∈ S.order := by
  have hnew : ¬ entN col a b ∈ S.st := fun hin => hmem (hA _ hin (Int.le_refl _))
  refine ⟨⟨hi.fit, hi.all, fun x hx => ?_, ?_, fun x hx => List.mem_append_left _ (hi.sub x hx), hi.ond, hi.sum⟩, fun x hx hc => ?_⟩
  · rcases List.mem_append.1 hx with hx | hx
    · exact hi.sfit x hx
    · obtain rfl : x = entN col a b := by simpa using hx
      exact hfit
  · show (S.st ++ [entN col a b]).Nodup
    rw [List.nodup_append]
    exact ⟨hi.nd, by simp, fun x hx y hy e => by
      obtain rfl : y = entN col a b := by simpa using hy
      rw [e] at hx
      exact hnew hx⟩
  · rcases List.mem_append.1 hx with hx | hx
    · exact hA x hx (by omega)
    · obtain rfl : x = entN col a b := by simpa using hx
      exact absurd hc (by show ¬ ((col + 1 : Nat) : Int) ≤ (col : Int); omega)
/-- where a call of on ends, by the end of its loop -/
def endO (col a b : Nat) (Y : SS × Option Bool) : SS × Option Bool := match Y with
  | (S2, none) => (S2, none)
  | (S2, some true) => (S2, some true)
  | (S2, some false) => ({ S2 with order := S2.order ++ [entN col a b] }, some false)
theorem onF_run {mk : Nat → Nat → Nat → Nat → Bool} {m d col a b : Nat} {S : SS} {Y : SS × Option Bool} (hmem : ¬ entN col a b ∈ S.order) (h : lpF (mk col a b) (fun c S => onF mk m d (col + 1) b c S) a m 0 { S with st := S.st ++ [entN col a b] } = Y) : onF mk m (d + 1) col a b S = endO col a b Y := by
  rw [show onF mk m (d + 1) col a b S = (if entN col a b ∈ S.order then (S, some false) else endO col a b (lpF (mk col a b) (fun c S => onF mk m d (col + 1) b c S) a m 0 { S with st := S.st ++ [entN col a b] })) from rfl, if_neg hmem, h]
theorem onF_dead {mk : Nat → Nat → Nat → Nat → Bool} {m d col a b : Nat} {S : SS} (hmem : entN col a b ∈ S.order) : onF mk m (d + 1) col a b S = (S, some false) := by
  unfold onF
  rw [if_pos hmem]
theorem wayL_len (v : Nat → Nat) (w col : Nat) : (wayL v w col).length = w + 2 - col := by simp [wayL]
set_option maxHeartbeats 32000000 in
theorem evon_step (k : SK) (t l : List Int) (R : Nat → Addr) (w0 : World) (hst : ST k t l R w0) (L0 : Nat) (hL0 : L0 ≤ 1099511627776) (d : Nat)
    (IH : ∀ (col a b : Nat) (S : SS) (wv : World) (aO aW : Option Addr) (cO cW : Nat), col + d = k.w → a < k.m → b < k.m → Inv t (colL k.w k.h l) k.h k.m k.w L0 S → (∀ x ∈ S.st, (col : Int) ≤ x.1 → x ∈ S.order) → S.way = [] → SM k S wv aO cO aW cW → Below k.g w0 wv →
      Calls Tryd.prog 100 #[.pointer (some ⟨k.g, 0, none⟩), .int .i64 (col : Nat), .int .i64 (a : Nat), .int .i64 (b : Nat)] wv (OnRet k R w0 wv (onF (mkK k t l) k.m d col a b S)))
    (col a b : Nat) (S : SS) (wv : World) (aO aW : Option Addr) (cO cW : Nat) (hd : col + (d + 1) = k.w) (ha : a < k.m) (hb : b < k.m) (hi : Inv t (colL k.w k.h l) k.h k.m k.w L0 S) (hA : ∀ x ∈ S.st, (col : Int) ≤ x.1 → x ∈ S.order) (hw : S.way = []) (hm : SM k S wv aO cO aW cW) (hbl : Below k.g w0 wv) :
    Calls Tryd.prog 100 #[.pointer (some ⟨k.g, 0, none⟩), .int .i64 (col : Nat), .int .i64 (a : Nat), .int .i64 (b : Nat)] wv (OnRet k R w0 wv (onF (mkK k t l) k.m (d + 1) col a b S)) := by
  have hcw : col < k.w := by omega
  have hfit := entN_fit (w := k.w) hcw ha hb
  have hm64 := (m_le hst.h4).1
  rw [← hst.me] at hm64
  have hw8 := hst.w8
  have hpl := posE_lt hfit
  rw [← hst.ne] at hpl
  have hN := (enough_le hst.w8 hst.h4).1
  rw [← hst.me, ← hst.ne] at hN
  obtain ⟨P2, hP2⟩ : ∃ P2, col * k.m = P2 := ⟨_, rfl⟩
  have hP2b : P2 ≤ 512 := by rw [← hP2]; exact Nat.le_trans (Nat.mul_le_mul (show _ ≤ 8 by omega) hm64) (by omega)
  obtain ⟨Q2, hQ2⟩ : ∃ Q2, P2 + a = Q2 := ⟨_, rfl⟩
  obtain ⟨R2, hR2⟩ : ∃ R2, Q2 * k.m = R2 := ⟨_, rfl⟩
  have hR2b : R2 ≤ 36864 := by rw [← hR2]; exact Nat.le_trans (Nat.mul_le_mul (show _ ≤ 576 by omega) hm64) (by omega)
  obtain ⟨I2, hI2⟩ : ∃ I2, R2 + b = I2 := ⟨_, rfl⟩
  have hpe : posE k.m (entN col a b) = I2 := by rw [← hI2, ← hR2, ← hQ2, ← hP2]; rfl
  rw [hpe] at hpl
  have p2I : (col : Int) * (k.m : Int) = (P2 : Int) := by rw [← hP2]; exact (Int.natCast_mul _ _).symm
  have q2I : (P2 : Int) + (a : Int) = (Q2 : Int) := by omega
  have r2I : (Q2 : Int) * (k.m : Int) = (R2 : Int) := by rw [← hR2]; exact (Int.natCast_mul _ _).symm
  have s2I : (R2 : Int) + (b : Int) = (I2 : Int) := by omega
  have p2W : IntKind.i64.wrap (P2 : Int) = (P2 : Int) := IntWalk.i64_in _ (by omega)
  have q2W : IntKind.i64.wrap (Q2 : Int) = (Q2 : Int) := IntWalk.i64_in _ (by omega)
  have r2W : IntKind.i64.wrap (R2 : Int) = (R2 : Int) := IntWalk.i64_in _ (by omega)
  have s2W : IntKind.i64.wrap (I2 : Int) = (I2 : Int) := IntWalk.i64_in _ (by omega)
  have s20 : (0 : Int) ≤ (I2 : Int) := by omega
  have s21 : (I2 : Int) < (k.N : Int) := by omega
  have hcI : ((col : Int) == (k.w : Int)) = false := by rw [beq_eq_false_iff_ne]; omega
  have hcJ : ¬ (col : Int) = (k.w : Int) := by omega
  obtain ⟨⟨c0, c1, c2, c4, c5, c6, c7, c8, c9, c10⟩, hf⟩ := s_cells hm.box
  have hcs := hm.dead.cellAt I2 (by omega)
  rw [bools_at _ hpl, ← hpe, ahB_mem hi.fit hfit, hpe] at hcs
  have HM := Lib.hid hm
  have HB := Lib.hid hbl
  have HPE := Lib.hid hpe
  have HST := Lib.hid hst
  clear hP2 hQ2 hR2 hI2 hP2b hR2b hpe c0 c2 c4 c6 c7 c9 c10 hf
  by_cases hmem : entN col a b ∈ S.order
  · rw [onF_dead hmem]
    rw [decide_eq_true hmem] at hcs
    clear hm hbl hA hmem hst
    go_enter Tryd.func100, Tryd.ntmps100
    go_wp2_with fail
    go_quiet (fail)
    go_wp2
    go_ret2
    exact ⟨_, _, _, _, rfl, HM.out.below (bdrewN (bnil _) _), below_drewN HB.out _, keepF_below (bdrewN (bnil _) _)⟩
  rw [decide_eq_false hmem] at hcs
  obtain ⟨hi1, hA1⟩ := inv_begin hi hA hmem hfit
  obtain ⟨Y, hY⟩ : ∃ Y, lpF (mkK k t l col a b) (fun c S => onF (mkK k t l) k.m d (col + 1) b c S) a k.m 0 { S with st := S.st ++ [entN col a b] } = Y := ⟨_, rfl⟩
  rw [onF_run hmem hY]
  obtain ⟨S1, hS1⟩ : ∃ S1, ({ S with st := S.st ++ [entN col a b] } : SS) = S1 := ⟨_, rfl⟩
  have hm1 : SM k S1 wv aO cO aW cW := by rw [← hS1]; exact ⟨hm.box, hm.dead, hm.ord, hm.way⟩
  have hA1' : ∀ x ∈ S1.st, ((col + 1 : Nat) : Int) ≤ x.1 → x ∈ S1.order := by rw [← hS1]; exact hA1
  have hw1 : S1.way = [] := by rw [← hS1]; exact hw
  rw [hS1] at hi1 hY
  have HIH := Lib.hid IH
  have HM1 := Lib.hid hm1
  have H1 := Lib.hid (And.intro hY (And.intro hi1 (And.intro hA1' hw1)))
  obtain ⟨K1, hK1⟩ : ∃ K1, col + 1 = K1 := ⟨_, rfl⟩
  have kI : (col : Int) + 1 = (K1 : Int) := by omega
  have kW : IntKind.i64.wrap (K1 : Int) = (K1 : Int) := IntWalk.i64_in _ (by omega)
  have HK1 := Lib.hid hK1
  have HFIT := Lib.hid hfit
  clear hm hbl hA hmem hst hi1 hA1 hY hS1 hm1 hA1' hw1 IH HM hi hw hK1 hfit
  go_enter Tryd.func100, Tryd.ntmps100
  go_wp2_with fail
  go_quiet (fail)
  go_wp2_with fail
  go_loopw [59] (fun cx wr => ∃ (c : Nat) (S2 : SS) (aO : Option Addr) (cO : Nat) (aW : Option Addr) (cW : Nat), c ≤ k.m ∧ cx = .int .i64 (c : Nat) ∧ SM k S2 wr aO cO aW cW ∧ (Below k.g w0 wr ∧ KeepF wv wr) ∧ lpF (mkK k t l col a b) (fun c S => onF (mkK k t l) k.m d (col + 1) b c S) a (k.m - c) c S2 = Y ∧ Inv t (colL k.w k.h l) k.h k.m k.w L0 S2 ∧ (∀ x ∈ S2.st, ((col + 1 : Nat) : Int) ≤ x.1 → x ∈ S2.order) ∧ S2.way = []) (fun cx _ => k.m - (intOf cx).toNat)
  case atStart => exact ⟨0, S1, aO, cO, aW, cW, by omega, rfl, HM1.out.below (bdrewN (bnil _) _), ⟨below_drewN HB.out _, keepF_below (bdrewN (bnil _) _)⟩, H1.out⟩
  case round =>
    clear hcs c1 c5 c8
    obtain ⟨c, S2, aO2, cO2, aW2, cW2, hc, rfl, hm2, ⟨hb2, hkf⟩, hrun, hi2, hA2, hw2⟩ := hrel
    have HKF := Lib.hid hkf
    clear hkf
    obtain ⟨⟨e0, e1, e2, e4, e5, e6, e7, e8, e9, e10⟩, hf⟩ := s_cells hm2.box
    have hsum := hi2.sum
    have HM2 := Lib.hid hm2
    have HB2 := Lib.hid hb2
    have HI2 := Lib.hid (And.intro hi2 (And.intro hA2 hw2))
    by_cases hcm : c < k.m
    · have ci : (c : Int) < (k.m : Int) := by omega
      have cw : IntKind.i64.wrap ((c : Int) + 1) = (c : Int) + 1 := IntWalk.i64_in _ (by omega)
      obtain ⟨r, hr⟩ : ∃ r, k.m - c = r + 1 := ⟨k.m - c - 1, by omega⟩
      have hr2 : k.m - (c + 1) = r := by omega
      rw [hr] at hrun
      unfold lpF at hrun
      rw [← hr2] at hrun
      clear hr hr2 hm2 hb2 hi2 hA2 hw2 e0 e1 e2 e4 e5 e6 e7 e8 e9 e10 hf
      by_cases hl : S2.left = 0
      · rw [if_pos hl] at hrun
        have HR := Lib.hid hrun
        clear hrun
        go_wp2_with fail
        refine (evtry_no k t l R w0 S2 wr aO2 aW2 cO2 cW2 HST.out HM2.out HB2.out hl _ _ _ _).mono ?_; rintro e w5 ⟨rfl, hb5⟩
        have HB5 := Lib.hid hb5
        clear hb5
        go_wp2
        go_ret2
        rw [← HR.out]
        exact ⟨_, _, _, _, rfl, HM2.out.below HB5.out, HB2.out.trans (HB5.out.mono (Nat.le_of_lt (heap_ltT HM2.out.box))), HKF.out.trans (keepF_below HB5.out)⟩
      rw [if_neg hl] at hrun
      have hct := evtry_ok k t l R w0 S2 wr aO2 aW2 cO2 cW2 HST.out HM2.out HB2.out hl (by omega) col a b c hcw ha hb hcm
      have hi3 := inv_try HI2.out.1 hl
      obtain ⟨S3, hS3⟩ : ∃ S3, ({ S2 with left := S2.left - 1, tries := S2.tries + 1 } : SS) = S3 := ⟨_, rfl⟩
      rw [hS3] at hrun hct hi3
      have HA3 : Hid (∀ x ∈ S3.st, ((col + 1 : Nat) : Int) ≤ x.1 → x ∈ S3.order) := by show ∀ x ∈ S3.st, _; rw [← hS3]; exact HI2.out.2.1
      have HW3 : Hid (S3.way = []) := by show _ = _; rw [← hS3]; exact HI2.out.2.2
      have HI3 := Lib.hid hi3
      obtain ⟨bb, hbb⟩ : ∃ bb, mkK k t l col a b c = bb := ⟨_, rfl⟩
      have hbb2 : mkL t (colL k.w k.h l) k.h col a b c = bb := hbb
      rw [hbb] at hrun
      rw [hbb2] at hct
      have HCT := Lib.hid hct
      have HRUN := Lib.hid hrun
      clear hS3 hi3 hbb hbb2 hct hrun hsum HI2
      cases bb with
      | false =>
        have hrn := HRUN.out
        rw [if_neg (by decide)] at hrn
        have HRN := Lib.hid hrn
        clear hrn
        go_wp2_with fail
        refine HCT.out.mono ?_; rintro e w5 ⟨rfl, hm5, hb5, hkf⟩
        have HM5 := Lib.hid hm5
        have HB5 := Lib.hid hb5
        have HK5 := Lib.hid (HKF.out.trans hkf)
        clear hm5 hb5 hkf
        go_wp2
        go_roundw
        case rel => exact ⟨c + 1, S3, aO2, cO2, aW2, cW2, by omega, by go_num, HM5.out, ⟨HB5.out, HK5.out⟩, HRN.out, HI3.out, HA3.out, HW3.out⟩
        case measure => simp [intOf]; omega
      | true =>
        have hrn := HRUN.out
        rw [if_pos rfl] at hrn
        have hpo := on_post (t := t) (cols := colL k.w k.h l) (h := k.h) (m := k.m) (w := k.w) (L0 := L0) d (col + 1) b c S3 (by omega) hb hcm HI3.out HA3.out
        have hih := fun wv hm hb2 => HIH.out (col + 1) b c S3 wv aO2 aW2 cO2 cW2 (by omega) hb hcm HI3.out HA3.out HW3.out hm hb2
        obtain ⟨S4, o4, hX⟩ : ∃ S4 o4, onF (mkK k t l) k.m d (col + 1) b c S3 = (S4, o4) := ⟨_, _, rfl⟩
        rw [hX] at hrn hpo
        simp only [hX] at hih
        simp only [HK1.out] at hih
        have HIHC := Lib.hid hih
        have HPO := Lib.hid hpo
        have HRN := Lib.hid hrn
        clear hih hX hrn hpo
        go_wp2_with fail
        refine HCT.out.mono ?_; rintro e w5 ⟨rfl, hm5, hb5, hkf⟩
        have HM5 := Lib.hid hm5
        have HB5 := Lib.hid hb5
        have HK5 := Lib.hid (HKF.out.trans hkf)
        clear hm5 hb5 hkf
        go_wp2_with fail
        refine (HIHC.out _ HM5.out HB5.out).mono ?_; rintro e w6 ⟨aO6, cO6, aW6, cW6, rfl, hm6, hb6, hkf⟩
        have HM6 := Lib.hid hm6
        have HB6 := Lib.hid hb6
        have HK6 := Lib.hid (HK5.out.trans hkf)
        clear hm6 hb6 hkf
        cases o4 with
        | none =>
          have hv : onV R none = .tuple #[.bool false, nbV R] := rfl
          rw [hv]
          clear hv
          go_wp2
          go_ret2
          rw [← HRN.out]
          exact ⟨_, _, _, _, rfl, HM6.out, HB6.out, HK6.out⟩
        | some o4 =>
          cases o4 with
          | true =>
            have hv : onV R (some true) = .tuple #[.bool true, .nilIface] := rfl
            rw [hv]
            obtain ⟨v, _, _, _, hway⟩ := HPO.out.yes rfl
            have hlb : S4.way.length ≤ 100 := by
              rw [hway, HW3.out, List.nil_append, wayL_len]
              omega
            obtain ⟨⟨e0, e1, e2, e4, e5, e6, e7, e8, e9, e10⟩, hf⟩ := s_cells HM6.out.box
            have hf10 := hf 10
            have d10 : (w6.alloc (.cells #[.int .i64 (a : Nat)] 3)).cell? ⟨k.g, 10, none⟩ = some (.slice aW6 S4.way.length cW6) := al000 e10
            have hown := HM6.out.way.own
            have hgl := heap_ltT HM6.out.box
            clear hway hv e0 e1 e2 e4 e5 e6 e7 e8 e9 hf
            go_wp2_with (first
              | (at_builtin; refine app_lit rfl _ _ _ rfl (k.g + 1) et_int _ S4.way.length _ hown (by rfl) 1 _ _ (by rfl) (by rfl) (by simp) (by rfl) (by unfold maxLen; omega) (by omega) hgl ?_; intro a7 c7 w7 ho7 hg7 hb7 hs7; have HO7 := Lib.hid ho7; have HG7 := Lib.hid hg7; have HB7 := Lib.hid hb7; have y7 : w7.cell? ⟨k.g, 10, none⟩ = some (.slice aW6 S4.way.length cW6) := (hb7.cell (p := ⟨k.g, 10, none⟩) (Nat.lt_succ_self k.g)).trans e10; have f7 := (hb7.frozen (p := ⟨k.g, 10, none⟩) (Nat.lt_succ_self k.g)).trans hf10; clear ho7 hg7 hb7 hs7))
            go_wp2
            go_ret2
            rw [← HRN.out]
            have ho8 : w7.ownsRow (k.g + 1) 3 1 (.slice a7 (S4.way.length + [(a : Int)].length) c7) (S4.way.length + [(a : Int)].length) ((S4.way ++ [(a : Int)]).map (Value.int .i64)) := by
              have h := HO7.out
              rw [List.map_append]
              exact h
            exact ⟨_, _, _, _, rfl, HM6.out.wayApp HG7.out ho8, (HB6.out.trans (HB7.out.mono (Nat.le_succ k.g))).setCell (p := ⟨k.g, 10, none⟩) (Nat.le_refl _) _, HK6.out.trans ((keepF_grown HM6.out.way.own (by decide) HG7.out).trans (keepF_set (blk_grown HM6.out.box HG7.out (own_neG HM6.out.way.own)) (by decide)))⟩
          | false =>
            have hv : onV R (some false) = .tuple #[.bool false, .nilIface] := rfl
            rw [hv]
            clear hv
            obtain ⟨n1, n2, n3⟩ := HPO.out.no rfl
            have HN1 : Hid (S4.way = []) := n1.trans HW3.out
            have HN3 := Lib.hid n3
            clear n1 n2 n3
            go_wp2
            go_roundw
            case rel => exact ⟨c + 1, S4, aO6, cO6, aW6, cW6, by omega, by go_num, HM6.out, ⟨HB6.out, HK6.out⟩, HRN.out, HPO.out.inv, HN3.out, HN1.out⟩
            case measure => simp [intOf]; omega
    · obtain rfl : c = k.m := by omega
      rw [Nat.sub_self] at hrun
      unfold lpF at hrun
      have HRUN := Lib.hid hrun
      have ci : ¬ (k.m : Int) < (k.m : Int) := by omega
      have hol := ents_len hi2.ond hi2.fit
      rw [← HST.out.ne] at hol
      have hcs := hm2.dead.cellAt I2 (by omega)
      rw [bools_at _ hpl] at hcs
      have hfd := hm2.dead.frozenAt I2
      obtain ⟨wd, hwd⟩ : ∃ wd, wr.setCell ⟨k.gd, I2, none⟩ (.bool true) = wd := ⟨_, rfl⟩
      have hgd : k.g + 1 ≤ k.gd := (hm2.dead.lt k.gd rfl).1
      have hbd : wd.heap[k.g]? = some (sObj k S2.tries S2.left aO2 S2.order.length cO2 aW2 S2.way.length cW2) := by
        rw [← hwd, Below.heap_setCell _ _ _ _ (by show k.g ≠ k.gd; omega)]
        exact hm2.box
      have hown : wd.ownsRow (k.g + 1) 90 3 (.slice aO2 S2.order.length cO2) S2.order.length (entsC S2.order) := by
        rw [← hwd]
        exact own_set_other hm2.ord (fun e => (ap_ty hm2.dead hm2.ord (by decide)) k.gd rfl e) _
      obtain ⟨⟨u0, u1, u2, u4, u5, u6, u7, u8, u9, u10⟩, uf⟩ := s_cells hbd
      have hf9 := uf 9
      have hgl := heap_ltT hbd
      have d9 : (wd.alloc (.cells #[.int .i64 (col : Nat), .int .i64 (a : Nat), .int .i64 (b : Nat)] 90)).cell? ⟨k.g, 9, none⟩ = some (.slice aO2 S2.order.length cO2) := al000 u9
      have HKD : Hid (KeepF wv wd ∧ wd.heap[k.g]? = some (sObj k S2.tries S2.left aO2 S2.order.length cO2 aW2 S2.way.length cW2) ∧ wd.ownsRow (k.g + 1) 90 3 (.slice aO2 S2.order.length cO2) S2.order.length (entsC S2.order)) := by
        refine ⟨?_, hbd, hown⟩
        rw [← hwd]
        obtain ⟨ddg, ddc, ddr, dde, _, ddq, _⟩ := hm2.dead.2.resolve_left (fun e => by have := e.1; cases this)
        cases dde
        exact HKF.out.trans (keepF_set ddq (by decide))
      have HWD := Lib.hid hwd
      have HBD : Hid (Below k.g w0 wd) := by show Below _ _ _; rw [← hwd]; exact hb2.setCell (p := ⟨k.gd, I2, none⟩) (by show k.g ≤ k.gd; omega) _
      clear hrun hi2 hA2 hw2 hm2 hb2 u0 u1 u2 u4 u5 u6 u7 u8 u10 uf hgd e0 e1 e2 e4 e5 e6 e7 e9 e10 hf hsum
      go_wp2_with (first
        | (at_builtin; refine app_lit rfl _ _ _ rfl (k.g + 1) et_ent _ S2.order.length _ hown (by rfl) 1 _ _ (by rfl) (by rfl) (by simp) (by rfl) (by unfold maxLen; omega) (by omega) hgl ?_; intro a7 c7 w7 ho7 hg7 hb7 hs7; have HO7 := Lib.hid ho7; have HG7 := Lib.hid hg7; have HB7 := Lib.hid hb7; have y7 : w7.cell? ⟨k.g, 9, none⟩ = some (.slice aO2 S2.order.length cO2) := (hb7.cell (p := ⟨k.g, 9, none⟩) (Nat.lt_succ_self k.g)).trans u9; have f7 := (hb7.frozen (p := ⟨k.g, 9, none⟩) (Nat.lt_succ_self k.g)).trans hf9; clear ho7 hg7 hb7 hs7))
      go_wp2
      go_ret2
      rw [← HRUN.out]
      exact ⟨_, _, _, _, rfl, SM.ordApp (x := entN col a b) HM2.out (by rw [HPE.out]; exact HWD.out.symm) (by rw [HPE.out]; exact hpl) HG7.out HO7.out, (HBD.out.trans (HB7.out.mono (Nat.le_succ k.g))).setCell (p := ⟨k.g, 9, none⟩) (Nat.le_refl _) _, HKD.out.1.trans ((keepF_grown HKD.out.2.2 (by decide) HG7.out).trans (keepF_set (blk_grown HKD.out.2.1 HG7.out (own_neG HKD.out.2.2)) (by decide)))⟩
theorem evon_any (k : SK) (t l : List Int) (R : Nat → Addr) (w0 : World) (hst : ST k t l R w0) (L0 : Nat) (hL0 : L0 ≤ 1099511627776) : ∀ (d col a b : Nat) (S : SS) (wv : World) (aO aW : Option Addr) (cO cW : Nat), col + d = k.w → a < k.m → b < k.m → Inv t (colL k.w k.h l) k.h k.m k.w L0 S → (∀ x ∈ S.st, (col : Int) ≤ x.1 → x ∈ S.order) → S.way = [] → SM k S wv aO cO aW cW → Below k.g w0 wv →
      Calls Tryd.prog 100 #[.pointer (some ⟨k.g, 0, none⟩), .int .i64 (col : Nat), .int .i64 (a : Nat), .int .i64 (b : Nat)] wv (OnRet k R w0 wv (onF (mkK k t l) k.m d col a b S))
  | 0, col, a, b, S, wv, aO, aW, cO, cW, hd, ha, hb, hi, hA, hw, hm, hbl => by
    obtain rfl : col = k.w := by omega
    exact evon_end k t l R w0 hst S wv aO aW cO cW a b hm hbl hw
  | d + 1, col, a, b, S, wv, aO, aW, cO, cW, hd, ha, hb, hi, hA, hw, hm, hbl =>
    evon_step k t l R w0 hst L0 hL0 d (evon_any k t l R w0 hst L0 hL0 d) col a b S wv aO aW cO cW hd ha hb hi hA hw hm hbl
end Go.Proofs.YtoaooblodgejdaaDoor
namespace Go.Proofs.YtoaooblodgejdaaDoor
open Go.RowKit
set_option linter.unusedVariables false
set_option maxRecDepth 100000

abbrev fndV (kd : Int) (w h : Int) (a : Option Addr) (n c : Nat) (a2 : Option Addr) (n2 c2 : Nat) : Value := .agg #[.int .i64 kd, .int .i64 w, .int .i64 h, .slice a n c, .slice a2 n2 c2]
theorem f_cells {w : World} {g : Nat} {x0 x1 x2 x3 x4 : Value} {t : TypeId} (h : w.heap[g]? = some (.cells #[x0, x1, x2, x3, x4] t)) : (w.cell? ⟨g, 0, none⟩ = some x0 ∧ w.cell? ⟨g, 1, none⟩ = some x1 ∧ w.cell? ⟨g, 2, none⟩ = some x2 ∧ w.cell? ⟨g, 3, none⟩ = some x3 ∧ w.cell? ⟨g, 4, none⟩ = some x4) ∧ ∀ j, w.frozen? ⟨g, j, none⟩ = false := by
  refine ⟨by simp [World.cell?, h], fun j => ?_⟩
  simp [World.frozen?, h]
theorem set5f {w : World} {g : Nat} {x0 x1 x2 x3 x4 : Value} {t : TypeId} {fr : Nat × Nat} (h : w.heap[g]? = some (.cells #[x0, x1, x2, x3, x4] t fr)) (u0 u1 u2 u3 u4 : Value) :
    ∃ w6, (((((w.setCell ⟨g, 0, none⟩ u0).setCell ⟨g, 1, none⟩ u1).setCell ⟨g, 2, none⟩ u2).setCell ⟨g, 3, none⟩ u3).setCell ⟨g, 4, none⟩ u4) = w6 ∧ (w6.cell? ⟨g, 0, none⟩ = some u0 ∧ w6.cell? ⟨g, 1, none⟩ = some u1 ∧ w6.cell? ⟨g, 2, none⟩ = some u2 ∧ w6.cell? ⟨g, 3, none⟩ = some u3 ∧ w6.cell? ⟨g, 4, none⟩ = some u4) ∧ (∀ k, k ≠ g → w6.heap[k]? = w.heap[k]?) ∧ w6.heap.size = w.heap.size ∧ ∀ (V : World) (B : Nat), B ≤ g → Below B V w → Below B V w6 := by
  refine ⟨_, rfl, ?_, fun k hk => ?_, ?_, fun V B hB hb => ?_⟩
  · simp [World.cell?, World.setCell, Array.getElem?_modify, h]
  · rw [Below.heap_setCell _ _ _ _ hk, Below.heap_setCell _ _ _ _ hk, Below.heap_setCell _ _ _ _ hk, Below.heap_setCell _ _ _ _ hk, Below.heap_setCell _ _ _ _ hk]
  · simp [World.setCell]
  · exact ((((hb.setCell (p := ⟨g, 0, none⟩) hB _).setCell (p := ⟨g, 1, none⟩) hB _).setCell (p := ⟨g, 2, none⟩) hB _).setCell (p := ⟨g, 3, none⟩) hB _).setCell (p := ⟨g, 4, none⟩) hB _
set_option maxHeartbeats 16000000 in
theorem evfound (k : SK) (t l : List Int) (R : Nat → Addr) (w0 : World) (hst : ST k t l R w0) (S : SS) (W : World) (aO aW : Option Addr) (cO cW : Nat) (v : Nat → Nat) (hm : SM k S W aO cO aW cW) (hb : Below k.g w0 W) (hv : S.way.reverse = colsV v k.w) (hj : JoinOk (k.h + 2) (colsV v k.w)) :
    Calls Tryd.prog 101 #[.pointer (some ⟨k.g, 0, none⟩)] W fun e w' => ∃ a n c, e = .returned (.tuple #[fndV 1 ((k.w + 2 : Nat) : Int) ((k.h + 2 : Nat) : Int) a n c none 0 0, .nilIface]) ∧ OwI w' W.heap.size a n c (joinL (k.h + 2) (colsV v k.w)) ∧ Below W.heap.size W w' := by
  have hw8 := hst.w8
  have hh4 := hst.h4
  have hsn := (hst.up hb).1
  have hlen : S.way.length = k.w + 2 := by
    have h := congrArg List.length hv
    rw [List.length_reverse] at h
    rw [h]
    simp [colsV]
  obtain ⟨nW, hnW⟩ : ∃ nW, S.way.length = nW := ⟨_, rfl⟩
  have hbox := hm.box
  have hway := hm.way.rk
  rw [hnW] at hbox hway hlen
  have hcol : ∀ j, j < nW → S.way.getD (nW - 1 - j) 0 = (colsV v k.w).getD j 0 := fun j hj2 => by
    rw [← hv]
    rw [List.getD_eq_getElem?_getD, List.getD_eq_getElem?_getD, List.getElem?_reverse (by rw [hnW]; exact hj2), hnW]
  have hcl : (colsV v k.w).length = nW := by rw [hlen]; simp [colsV]
  obtain ⟨CS, hCS⟩ : ∃ CS, colsV v k.w = CS := ⟨_, rfl⟩
  rw [hCS] at hcol hcl hj ⊢
  have hjd := joinD_of hj
  have hjo : joinO ((k.h + 2 : Nat) : Int) CS = (((k.w + 2 : Nat) : Int), ((k.h + 2 : Nat) : Int), joinL (k.h + 2) CS) := by unfold joinO; rw [if_pos hjd, hcl, hlen]; rfl
  obtain ⟨HH, hHH⟩ : ∃ HH, k.h + 2 = HH := ⟨_, rfl⟩
  obtain ⟨WW, hWW⟩ : ∃ WW, k.w + 2 = WW := ⟨_, rfl⟩
  rw [hHH] at hjd hjo ⊢
  rw [hWW] at hjo ⊢
  have hHI : (k.h : Int) + 2 = (HH : Int) := by omega
  have hHw : IntKind.i64.wrap (HH : Int) = (HH : Int) := IntWalk.i64_in _ (by omega)
  have hnb : nW ≤ 10 := by omega
  have hnb1 : 1 ≤ nW := by omega
  have HCL := Lib.hid (And.intro hcol hcl)
  have HJO := Lib.hid (And.intro hjd hjo)
  clear hm hst hv hj hnW hlen hCS hcol hcl hjd hjo hHH hWW hb
  have T0 := Tk.nil W
  have T1 := T0.add (fun wv => Below W.heap.size W wv) (bnil W)
  clear T0
  have T2 := T1.add (fun wv => Sent wv R) (hsn)
  clear T1
  have T3 := T2.add (fun wv => wv.heap[k.g]? = some (sObj k S.tries S.left aO S.order.length cO aW nW cW)) (hbox)
  clear T2
  have T4 := T3.add (fun wv => RK .i64 wv aW nW S.way) (hway)
  clear T3
  clear hsn hbox hway
  obtain ⟨Wb, hWb⟩ : ∃ Wb, W.alloc (.cells #[.int .i64 0, .int .i64 0, .int .i64 0, .slice none 0 0, .slice none 0 0] 28) = Wb := ⟨_, rfl⟩
  have hbWb : Below W.heap.size W Wb := by rw [← hWb]; exact balloc (bnil W) _
  have T5 := T4.up hbWb
  clear T4
  have HWb := Lib.hid hWb
  clear hWb hbWb
  have hz : Wb.heap[W.heap.size]? = some (.cells #[.int .i64 0, .int .i64 0, .int .i64 0, .slice none 0 0, .slice none 0 0] 28) := by rw [← HWb.out]; exact heap_alloc_new W _
  have hsz : W.heap.size + 1 = Wb.heap.size := by rw [← HWb.out]; simp
  have T6 := T5.add (fun wv => wv.heap[W.heap.size]? = some (.cells #[.int .i64 0, .int .i64 0, .int .i64 0, .slice none 0 0, .slice none 0 0] 28)) (hz)
  clear T5
  have HSZ := Lib.hid hsz
  clear hz hsz
  go_enter Tryd.func101, Tryd.ntmps101
  obtain ⟨⟨e0, e1, e2, e4, e5, e6, e7, e8, e9, e10⟩, _⟩ := s_cells (T6.out.1.1.2)
  clear e0 e1 e2 e4 e5 e6 e7 e8 e9
  have e10' : (W.alloc (.cells #[.int .i64 0, .int .i64 0, .int .i64 0, .slice none 0 0, .slice none 0 0] 28)).cell? ⟨k.g, 10, none⟩ = some (.slice aW nW cW) := by rw [HWb.out]; exact e10
  go_wp2_with (first
    | (at_make; rw [HWb.out]; refine mk_cap rfl _ _ _ rfl Wb.heap.size et_int .i64 .i64 _ nW rfl rfl rfl (by omega) (by unfold maxLen; omega) (Nat.le_refl _) ?_; intro w5 hown5 hb5 hsz5; have HOB := Lib.hid hown5; have HBB := Lib.hid hb5; have y10 : w5.cell? ⟨k.g, 10, none⟩ = some (.slice aW nW cW) := cpa hb5 e10; clear hown5 hb5 hsz5))
  obtain ⟨gl, hgl⟩ : ∃ gl, Wb.heap.size = gl := ⟨_, rfl⟩
  have HO0 : Hid (OwI w5 gl (some ⟨gl, 0, none⟩) 0 nW (CS.take 0)) := by show OwI _ _ _ _ _ _; rw [← hgl]; exact ⟨HOB.out⟩
  have HB0 : Hid (Below gl Wb w5) := by rw [← hgl]; exact HBB.out
  have HGL := Lib.hid hgl
  have hnI : ((nW : Int) - 1) = ((nW - 1 : Nat) : Int) := by omega
  have hnw : IntKind.i64.wrap ((nW - 1 : Nat) : Int) = ((nW - 1 : Nat) : Int) := IntWalk.i64_in _ (by omega)
  try rw [hgl]
  clear hgl HOB HBB
  go_wp2_with fail
  go_loopw [4, 5] (fun lx ix wr => ∃ (j : Nat) (aa : Option Addr) (cc : Nat) (iv : Int), j ≤ nW ∧ ix = .int .i64 iv ∧ iv = (nW : Int) - 1 - (j : Int) ∧ lx = .slice aa j cc ∧ OwI wr gl aa j cc (CS.take j) ∧ Below gl Wb wr) (fun _ ix _ => (intOf ix + 1).toNat)
  case atStart => exact ⟨0, _, _, _, by omega, rfl, by omega, rfl, HO0.out, HB0.out⟩
  case round =>
    clear y10 e10 e10'
    obtain ⟨j, aa, cc, iv, hj, rfl, hiv, rfl, ho, hb⟩ := hrel
    have HO := Lib.hid ho
    have HBx := Lib.hid hb
    have hbT : Below Wb.heap.size Wb wr := by rw [HGL.out]; exact hb
    clear ho hb HO0 HB0
    have T7 := T6.up hbT
    clear T6
    clear hbT
    by_cases hjn : j < nW
    · skip
      obtain ⟨q, hq⟩ : ∃ q, nW - 1 - j = q := ⟨_, rfl⟩
      obtain rfl : iv = (q : Int) := by omega
      obtain ⟨bw, ow, haw, _, hcw⟩ := (T7.out.1.2).addr (by omega)
      subst haw
      have z1 := hcw q (by omega)
      have hv1 := HCL.out.1 j hjn
      rw [hq] at hv1
      rw [hv1] at z1
      obtain ⟨u, hu⟩ : ∃ u, CS.getD j 0 = u := ⟨_, rfl⟩
      rw [hu] at z1
      have hsn := take_snoc (l := CS) (k := j) (by rw [HCL.out.2]; exact hjn)
      rw [hu] at hsn
      have HSN := Lib.hid hsn
      obtain ⟨⟨e0, e1, e2, e4, e5, e6, e7, e8, e9, e10⟩, _⟩ := s_cells (T7.out.1.1.2)
      have q0 : (0 : Int) ≤ (q : Int) := by omega
      have q1 : (q : Int) < (nW : Int) := by omega
      have qI : (q : Int) - 1 = (nW : Int) - 1 - ((j + 1 : Nat) : Int) := by omega
      have qw : IntKind.i64.wrap ((nW : Int) - 1 - ((j + 1 : Nat) : Int)) = (nW : Int) - 1 - ((j + 1 : Nat) : Int) := IntWalk.i64_in _ (by omega)
      have qw2 : IntKind.i64.wrap ((q : Int) - 1) = (q : Int) - 1 := IntWalk.i64_in _ (by omega)
      have hgs : gl ≤ wr.heap.size := by rw [← HGL.out]; exact HBx.out.size
      have hown := HO.out.own
      clear hcw hv1 hu hsn e0 e1 e2 e4 e5 e6 e7 e8 e9
      go_wp2_with (first
        | (at_builtin; refine app_lit rfl _ _ _ rfl gl et_int _ j _ hown (by rfl) 1 _ _ (by rfl) (by rfl) (by simp) (by rfl) (by unfold maxLen; omega) (by omega) hgs ?_; intro a7 c7 w7 ho7 hg7 hb7 hs7; have HO7 := Lib.hid ho7; have HB7 := Lib.hid hb7; clear ho7 hg7 hb7 hs7))
      have HO8 : Hid (OwI w7 gl a7 (j + 1) c7 (CS.take (j + 1))) := by
        refine ⟨?_⟩
        rw [← HSN.out]
        exact HO7.out
      have HB8 : Hid (Below gl Wb w7) := HBx.out.trans HB7.out
      clear hown
      go_wp2
      go_roundw
      case rel => exact ⟨j + 1, by omega, by omega, a7, c7, ⟨rfl, rfl, rfl⟩, HO8.out, HB8.out⟩
      case measure => simp [intOf]; omega
    obtain rfl : j = nW := by omega
    have HWL : Hid (W.heap.size < wr.heap.size) := heap_ltT (T7.out.2)
    have ho := HO.out
    rw [List.take_of_length_le (by rw [HCL.out.2]; exact Nat.le_refl _)] at ho
    obtain rfl : iv = -1 := by omega
    have T8 := T7.add (fun wv => OwI wv gl aa j cc CS) (ho)
    clear T7
    clear ho HO
    obtain ⟨⟨e0, e1, e2, e4, e5, e6, e7, e8, e9, e10⟩, _⟩ := s_cells (T8.out.1.1.1.2)
    clear e0 e1 e4 e5 e6 e7 e8 e9 e10
    go_wp2_with fail
    refine (join_any HH aa j cc CS wr R T8.out.1.1.1.1.2 (T8.out.2).rk (by unfold maxLen; omega)).mono ?_; rintro e w8 ⟨a7, n7, c7, ev7, rfl, ho7, he7, hbw8⟩
    have T9 := T8.up hbw8
    clear T8
    clear e2
    rw [HJO.out.1] at he7
    rw [HJO.out.2] at ho7
    rw [HJO.out.2]
    obtain rfl : ev7 = .nilIface := he7
    have T10 := T9.add (fun wv => OwI wv wr.heap.size a7 n7 c7 (joinL HH CS)) (ho7)
    clear T9
    have hwr : W.heap.size ≤ wr.heap.size := by have h1 := heap_ltT (T10.out.1.1.2); have := hbw8.size; have h2 := HBx.out.size; have := HGL.out; have := HSZ.out; omega
    clear ho7
    obtain ⟨w9, hw9⟩ : ∃ w9, w8.alloc (.cells #[.int .i64 (WW : Nat), .int .i64 (HH : Nat), .slice a7 n7 c7] 24) = w9 := ⟨_, rfl⟩
    have hbw9 : Below w8.heap.size w8 w9 := by rw [← hw9]; exact balloc (bnil w8) _
    have T11 := T10.up hbw9
    clear T10
    have T12 := T11.add (fun wv => wv.cell? ⟨w8.heap.size, 0, none⟩ = some (.int .i64 (WW : Nat)) ∧ wv.cell? ⟨w8.heap.size, 1, none⟩ = some (.int .i64 (HH : Nat)) ∧ wv.cell? ⟨w8.heap.size, 2, none⟩ = some (.slice a7 n7 c7)) (by rw [← hw9]; exact ⟨cnw (by simp) rfl, cnw (by simp) rfl, cnw (by simp) rfl⟩)
    clear T11
    have Hw9 := Lib.hid hw9
    clear hw9 hbw9
    obtain ⟨⟨z0, z1, z2, z3, z4⟩, zf⟩ := f_cells (T12.out.1.1.1.2)
    have zf0 := zf 0
    have zf1 := zf 1
    have zf2 := zf 2
    have zf3 := zf 3
    have zf4 := zf 4
    obtain ⟨wA, eA, ⟨r0, r1, r2, r3, r4⟩, hkA, hsA, hbA⟩ := set5f (T12.out.1.1.1.2) (.int .i64 1) (.int .i64 (WW : Nat)) (.int .i64 (HH : Nat)) (.slice a7 n7 c7) (.slice none 0 0)
    rw [← Hw9.out] at z0 z1 z2 z3 z4 zf0 zf1 zf2 zf3 zf4 eA
    have HEA := Lib.hid eA
    have HRA := Lib.hid (And.intro r0 (And.intro r1 (And.intro r2 (And.intro r3 r4))))
    have HBA := Lib.hid (hbA W W.heap.size (Nat.le_refl _) (T12.out.1.1.1.1.1.1.1.2))
    have hoA : OwI wA W.heap.size a7 n7 c7 (joinL HH CS) := by
      have h7 := T12.out.1.2
      have hlz := heap_ltT (T12.out.1.1.1.2)
      exact OwI.base ⟨own_of_heap' h7.own fun b hb => hkA b (by have h1 := (h7.own.lt b hb).1; have h2 : W.heap.size < wr.heap.size := HWL.out; omega)⟩ hwr
    have HOA := Lib.hid hoA
    clear zf r0 r1 r2 r3 r4 hkA hsA hbA eA hoA hwr
    have v_p0 : (w8.alloc (.cells #[.int .i64 (WW : Nat), .int .i64 (HH : Nat), .slice a7 n7 c7] 24)).cell? ⟨w8.heap.size, 0, none⟩ = some (.int .i64 (WW : Nat)) := by rw [Hw9.out]; exact T12.out.2.1
    have v_p1 : (w8.alloc (.cells #[.int .i64 (WW : Nat), .int .i64 (HH : Nat), .slice a7 n7 c7] 24)).cell? ⟨w8.heap.size, 1, none⟩ = some (.int .i64 (HH : Nat)) := by rw [Hw9.out]; exact T12.out.2.2.1
    have v_p2 : (w8.alloc (.cells #[.int .i64 (WW : Nat), .int .i64 (HH : Nat), .slice a7 n7 c7] 24)).cell? ⟨w8.heap.size, 2, none⟩ = some (.slice a7 n7 c7) := by rw [Hw9.out]; exact T12.out.2.2.2
    go_wp2
    rw [HEA.out]
    have r0 := HRA.out.1
    have r1 := HRA.out.2.1
    have r2 := HRA.out.2.2.1
    have r3 := HRA.out.2.2.2.1
    have r4 := HRA.out.2.2.2.2
    refine bodyPost_ret (v := .tuple #[fndV 1 (WW : Nat) (HH : Nat) a7 n7 c7 none 0 0, .nilIface]) (by simp [results, Tryd.results101, go_sem, r0, r1, r2, r3, r4]) rfl ?_
    exact ⟨_, _, _, rfl, HOA.out, HBA.out⟩
end Go.Proofs.YtoaooblodgejdaaDoor
namespace Go.Proofs.YtoaooblodgejdaaDoor
open Go.RowKit
set_option linter.unusedVariables false
set_option maxRecDepth 100000

theorem encode_okM (w h : Int) (a : Option Addr) (c n : Nat) (l : List (Int × Int × Int)) (W : World) (hn : n = l.length) (hR : Rd W a l.length 3 (entsC l)) (H : EncOk w h l) :
    Calls Tryd.prog 55 #[.int .i64 w, .int .i64 h, .slice a n c] W fun e w' =>
      ∃ a' c', e = .returned (.tuple #[.slice a' (4 + 3 * l.length) c', .nilIface]) ∧ w'.ownsRow W.heap.size 5 1 (.slice a' (4 + 3 * l.length) c') (4 + 3 * l.length) ((encL w h l).map (Value.int .u8)) ∧ Below W.heap.size W w' := by
  subst hn
  rw [encL_map]
  exact encode_ok w h a c l W hR H.w1 H.w2 H.h1 H.h2 H.len H.fit
theorem own_nF {w : World} {b sz n gr : Nat} {e : TypeId} {v : Value} {cs : List Value} {xs : Array Value} (h : w.ownsRow b e sz v n cs) (hne : e ≠ 28) (hz : w.heap[gr]? = some (.cells xs 28)) : v.ownBlock ≠ some gr := fun e3 => by
  rcases h.2 with ⟨rfl, _⟩ | ⟨k1, _, _, rfl, _, q1, _⟩
  · cases e3
  · simp only [Value.ownBlock, Option.some.injEq] at e3
    subst e3
    rw [q1] at hz
    simp only [Option.some.injEq, Obj.cells.injEq] at hz
    exact hne hz.2.1
theorem SM.oth {k : SK} {S : SS} {w w' : World} {aO aW : Option Addr} {cO cW gr : Nat} {xs : Array Value} (h : SM k S w aO cO aW cW) (hz : w.heap[gr]? = some (.cells xs 28)) (hk : ∀ j, j ≠ gr → w'.heap[j]? = w.heap[j]?) : SM k S w' aO cO aW cW := by
  have hg : k.g ≠ gr := fun e => by
    have h1 := h.box
    rw [e, hz] at h1
    simp only [Option.some.injEq, Obj.cells.injEq] at h1
    exact absurd h1.2.1 (by decide)
  refine ⟨(hk _ hg).trans h.box, own_of_heap' h.dead fun b hb => hk b fun e => ?_, own_of_heap' h.ord fun b hb => hk b fun e => ?_, ⟨own_of_heap' h.way.own fun b hb => hk b fun e => ?_⟩⟩
  · exact own_nF h.dead (by decide) hz (e ▸ hb)
  · exact own_nF h.ord (by decide) hz (e ▸ hb)
  · exact own_nF h.way.own (by decide) hz (e ▸ hb)
/-- what the search hands back -/
def FndR (k : SK) (R : Nat → Addr) (B : Nat) (w' : World) (X : SS × Option Bool) (val ev : Value) : Prop := match X.2 with
  | none => val = fndV 0 0 0 none 0 0 none 0 0 ∧ ev = nbV R
  | some true => ∃ a n c, val = fndV 1 ((k.w + 2 : Nat) : Int) ((k.h + 2 : Nat) : Int) a n c none 0 0 ∧ ev = .nilIface ∧ OwI w' B a n c (joinL (k.h + 2) X.1.way.reverse)
  | some false => ∃ a c, val = fndV 2 0 0 none 0 0 a (4 + 3 * X.1.order.length) c ∧ ev = .nilIface ∧ w'.ownsRow B 5 1 (.slice a (4 + 3 * X.1.order.length) c) (4 + 3 * X.1.order.length) ((encL (k.w : Int) (k.h : Int) X.1.order).map (Value.int .u8))
def AllRet (k : SK) (R : Nat → Addr) (w0 W : World) (X : SS × Option Bool) (e : Ending) (w' : World) : Prop := ∃ val ev aO cO aW cW, e = .returned (.tuple #[val, ev]) ∧ SM k X.1 w' aO cO aW cW ∧ Below k.g w0 w' ∧ FndR k R W.heap.size w' X val ev
set_option maxHeartbeats 32000000 in
theorem evall (k : SK) (t l : List Int) (R : Nat → Addr) (w0 : World) (hst : ST k t l R w0) (L0 : Nat) (hL0 : L0 ≤ 1099511627776) (W : World) (aO aW : Option Addr) (cO cW : Nat) (hm : SM k (S0 L0) W aO cO aW cW) (hb : Below k.g w0 W) :
    Calls Tryd.prog 59 #[.pointer (some ⟨k.g, 0, none⟩)] W (AllRet k R w0 W (seekF t (colL k.w k.h l) k.h k.m k.w L0)) := by
  have hm64 := (m_le hst.h4).1
  rw [← hst.me] at hm64
  have hend := seek_end (t := t) (l := l) hst.ist hst.isp hst.w8 hst.h4 L0
  rw [← hst.me] at hend
  obtain ⟨Y, hY⟩ : ∃ Y, seekF t (colL k.w k.h l) k.h k.m k.w L0 = Y := ⟨_, rfl⟩
  rw [hY] at hend ⊢
  have hY2 : allF (mkK k t l) k.m k.w (k.m * k.m - 0 * k.m) (0 * k.m) (S0 L0) = Y := by rw [Nat.zero_mul, Nat.sub_zero]; exact hY
  have hlw : W.heap.size < (W.alloc (.cells #[.int .i64 0, .int .i64 0, .int .i64 0, .slice none 0 0, .slice none 0 0] 28)).heap.size := by simp
  obtain ⟨gr, hgr⟩ : ∃ gr, W.heap.size = gr := ⟨_, rfl⟩
  have hbx := hm.box
  obtain ⟨Wb, hWb⟩ : ∃ Wb, W.alloc (.cells #[.int .i64 0, .int .i64 0, .int .i64 0, .slice none 0 0, .slice none 0 0] 28) = Wb := ⟨_, rfl⟩
  have hz : Wb.heap[gr]? = some (.cells #[.int .i64 0, .int .i64 0, .int .i64 0, .slice none 0 0, .slice none 0 0] 28) := by rw [← hWb, ← hgr]; exact heap_alloc_new W _
  have hbb : Below W.heap.size W Wb := by rw [← hWb]; exact balloc (bnil W) _
  have hmb := hm.below hbb
  have hbw := hb.trans (hbb.mono (Nat.le_of_lt (heap_ltT hbx)))
  obtain ⟨⟨e0, e1, e2, e4, e5, e6, e7, e8, e9, e10⟩, _⟩ := s_cells hmb.box
  rw [← hWb] at e5
  have HZ0 := Lib.hid hz
  have HMB := Lib.hid hmb
  have HBB := Lib.hid hbw
  have HWB := Lib.hid hWb
  have HST := Lib.hid hst
  have HEND := Lib.hid hend
  have HY := Lib.hid hY2
  have HGR : Hid (k.g < gr) := by show _ < _; rw [← hgr]; exact heap_ltT hbx
  have HGW := Lib.hid hgr
  clear hm hb hst hend hY hY2 hbx hz hbb hmb hbw e0 e1 e2 e4 e6 e7 e8 e9 e10 hWb hlw
  go_enter Tryd.func59, Tryd.ntmps59
  go_wp2_with fail
  rw [HWB.out]
  try rw [HGW.out]
  clear e5 hgr
  go_loopw [14] (fun cx wr => ∃ (a : Nat) (S2 : SS) (aO : Option Addr) (cO : Nat) (aW : Option Addr) (cW : Nat), a ≤ k.m ∧ cx = .int .i64 (a : Nat) ∧ SM k S2 wr aO cO aW cW ∧ Below k.g w0 wr ∧ wr.heap[gr]? = some (.cells #[.int .i64 0, .int .i64 0, .int .i64 0, .slice none 0 0, .slice none 0 0] 28) ∧ allF (mkK k t l) k.m k.w (k.m * k.m - a * k.m) (a * k.m) S2 = Y ∧ Inv t (colL k.w k.h l) k.h k.m k.w L0 S2 ∧ (∀ x ∈ S2.st, x ∈ S2.order) ∧ S2.way = []) (fun cx _ => k.m - (intOf cx).toNat)
  case atStart => exact ⟨0, S0 L0, aO, cO, aW, cW, by omega, rfl, HMB.out, HBB.out, HZ0.out, HY.out, inv0 _ _ _ _ _ _, nofun, rfl⟩
  case round =>
    clear HZ0 HMB HBB HY
    obtain ⟨a, S2, aO2, cO2, aW2, cW2, ha, rfl, hm2, hb2, hz2, hrun, hi2, hA2, hw2⟩ := hrel
    obtain ⟨⟨e0, e1, e2, e4, e5, e6, e7, e8, e9, e10⟩, hf⟩ := s_cells hm2.box
    have HM2 := Lib.hid hm2
    have HB2 := Lib.hid hb2
    have HZ2 := Lib.hid hz2
    have HI2 := Lib.hid (And.intro hi2 (And.intro hA2 hw2))
    clear hm2 hb2 hz2 hi2 hA2 hw2 hf e0 e4 e6 e7 e8 e10
    by_cases ham : a < k.m
    · have ai : (a : Int) < (k.m : Int) := by omega
      have aw : IntKind.i64.wrap ((a : Int) + 1) = (a : Int) + 1 := IntWalk.i64_in _ (by omega)
      have hrn : allF (mkK k t l) k.m k.w (k.m * k.m - (a * k.m + 0)) (a * k.m + 0) S2 = Y := hrun
      have HRN := Lib.hid hrn
      clear hrun hrn e1 e2 e9
      go_wp2_with fail
      go_loopw [21] (fun cx wr => ∃ (b : Nat) (S2 : SS) (aO : Option Addr) (cO : Nat) (aW : Option Addr) (cW : Nat), b ≤ k.m ∧ cx = .int .i64 (b : Nat) ∧ SM k S2 wr aO cO aW cW ∧ Below k.g w0 wr ∧ wr.heap[gr]? = some (.cells #[.int .i64 0, .int .i64 0, .int .i64 0, .slice none 0 0, .slice none 0 0] 28) ∧ allF (mkK k t l) k.m k.w (k.m * k.m - (a * k.m + b)) (a * k.m + b) S2 = Y ∧ Inv t (colL k.w k.h l) k.h k.m k.w L0 S2 ∧ (∀ x ∈ S2.st, x ∈ S2.order) ∧ S2.way = []) (fun cx _ => k.m - (intOf cx).toNat)
      case atStart => exact ⟨0, S2, aO2, cO2, aW2, cW2, by omega, rfl, HM2.out, HB2.out, HZ2.out, HRN.out, HI2.out⟩
      case round =>
        clear HM2 HB2 HZ2 HI2 HRN e5
        obtain ⟨b, S3, aO3, cO3, aW3, cW3, hb, rfl, hm3, hb3, hz3, hrun, hi3, hA3, hw3⟩ := hrel
        have HM3 := Lib.hid hm3
        have HB3 := Lib.hid hb3
        have HZ3 := Lib.hid hz3
        have HI3 := Lib.hid (And.intro hi3 (And.intro hA3 hw3))
        clear hm3 hb3 hz3
        by_cases hbm : b < k.m
        · have bi : (b : Int) < (k.m : Int) := by omega
          have bw : IntKind.i64.wrap ((b : Int) + 1) = (b : Int) + 1 := IntWalk.i64_in _ (by omega)
          have hpl : a * k.m + b < k.m * k.m := by
            have h1 : (a + 1) * k.m ≤ k.m * k.m := Nat.mul_le_mul_right _ ham
            rw [Nat.succ_mul] at h1
            omega
          obtain ⟨r, hr⟩ : ∃ r, k.m * k.m - (a * k.m + b) = r + 1 := ⟨k.m * k.m - (a * k.m + b) - 1, by omega⟩
          have hr2 : k.m * k.m - (a * k.m + (b + 1)) = r := by omega
          rw [hr] at hrun
          unfold allF at hrun
          rw [pair_div hbm, pair_rem hbm, ← hr2, Nat.add_assoc] at hrun
          have hpo := on_post (t := t) (cols := colL k.w k.h l) (h := k.h) (m := k.m) (w := k.w) (L0 := L0) k.w 0 a b S3 (by omega) ham hbm hi3 (fun x hx _ => hA3 x hx)
          have hC : Calls Tryd.prog 100 #[.pointer (some ⟨k.g, 0, none⟩), .int .i64 0, .int .i64 (a : Nat), .int .i64 (b : Nat)] wr (OnRet k R w0 wr (onF (mkK k t l) k.m k.w 0 a b S3)) :=
            evon_any k t l R w0 HST.out L0 hL0 k.w 0 a b S3 wr aO3 aW3 cO3 cW3 (by omega) ham hbm hi3 (fun x hx _ => hA3 x hx) hw3 HM3.out HB3.out
          obtain ⟨S4, o4, hX⟩ : ∃ S4 o4, onF (mkK k t l) k.m k.w 0 a b S3 = (S4, o4) := ⟨_, _, rfl⟩
          rw [hX] at hrun hpo hC
          have HC := Lib.hid hC
          have HPO := Lib.hid hpo
          have HRN := Lib.hid hrun
          clear hC hX hrun hpo hr hr2 hi3 hA3 hw3 hpl
          go_wp2_with fail
          refine HC.out.mono ?_; rintro e w6 ⟨aO6, cO6, aW6, cW6, rfl, hm6, hb6, hkf⟩
          have HM6 := Lib.hid hm6
          have HBW := Lib.hid hb6
          have hzW := hkf _ _ HZ3.out
          have HZW := Lib.hid hzW
          clear hm6 hb6 hkf
          cases o4 with
          | none =>
            have hv : onV R none = .tuple #[.bool false, nbV R] := rfl
            rw [hv]
            clear hv
            have HRY : Hid ((S4, none) = Y) := HRN.out
            obtain ⟨⟨z0, z1, z2, z3, z4⟩, zf⟩ := f_cells hzW
            have zf0 := zf 0
            have zf1 := zf 1
            have zf2 := zf 2
            have zf3 := zf 3
            have zf4 := zf 4
            obtain ⟨wA, eA, ⟨r0, r1, r2, r3, r4⟩, hkA, hsA, hbA⟩ := set5f hzW (.int .i64 0) (.int .i64 0) (.int .i64 0) (.slice none 0 0) (.slice none 0 0)
            have HEA := Lib.hid eA
            have HRA := Lib.hid (And.intro r0 (And.intro r1 (And.intro r2 (And.intro r3 r4))))
            have HBA := Lib.hid (hbA w0 k.g (by have := HGR.out; omega) HBW.out)
            have HSA := Lib.hid (SM.oth HM6.out hzW hkA)
            have HKA := Lib.hid hkA
            clear zf r0 r1 r2 r3 r4 hkA hsA hbA eA
            go_wp2
            rw [HEA.out]
            have r0 := HRA.out.1
            have r1 := HRA.out.2.1
            have r2 := HRA.out.2.2.1
            have r3 := HRA.out.2.2.2.1
            have r4 := HRA.out.2.2.2.2
            refine bodyPost_ret (v := .tuple #[fndV 0 0 0 none 0 0 none 0 0, nbV R]) (by simp [results, Tryd.results59, go_sem, r0, r1, r2, r3, r4]) rfl ?_
            exact ⟨_, _, _, _, _, _, rfl, by rw [← HRY.out]; exact HSA.out, HBA.out, by rw [← HRY.out]; exact ⟨rfl, rfl⟩⟩
          | some o4 =>
            cases o4 with
            | true =>
              have hv : onV R (some true) = .tuple #[.bool true, .nilIface] := rfl
              rw [hv]
              clear hv hzW
              have HRY : Hid ((S4, some true) = Y) := HRN.out
              obtain ⟨v, v1, v2, v3, _, _⟩ := HEND.out.patch (by rw [← HRY.out])
              rw [← HRY.out] at v1
              have HV := Lib.hid (And.intro v1 v2)
              have hFC := evfound k t l R w0 HST.out S4 w6 aO6 aW6 cO6 cW6 v HM6.out HBW.out HV.out.1 HV.out.2
              obtain ⟨WW, hWW⟩ : ∃ WW, k.w + 2 = WW := ⟨_, rfl⟩
              obtain ⟨HH, hHH⟩ : ∃ HH, k.h + 2 = HH := ⟨_, rfl⟩
              simp only [hWW, hHH] at hFC
              have HFC := Lib.hid hFC
              have HWH := Lib.hid (And.intro hWW hHH)
              clear v1 v2 v3 hFC hWW hHH
              go_wp2_with fail
              refine HFC.out.mono ?_; rintro e w7 ⟨a7, n7, c7, rfl, ho7, hb7⟩
              have HM7 := Lib.hid (HM6.out.below hb7)
              have HO7 := Lib.hid ho7
              have hB7 := HBW.out.trans (hb7.mono (Nat.le_of_lt (heap_ltT HM6.out.box)))
              have hzW := (hb7.block _ (heap_ltT HZW.out)).trans HZW.out
              have hlt6 := heap_ltT HZW.out
              clear HBW
              have HBW := Lib.hid hB7
              have HLT6 := Lib.hid hlt6
              clear hb7 ho7 hB7 hlt6
              obtain ⟨⟨z0, z1, z2, z3, z4⟩, zf⟩ := f_cells hzW
              have zf0 := zf 0
              have zf1 := zf 1
              have zf2 := zf 2
              have zf3 := zf 3
              have zf4 := zf 4
              obtain ⟨wA, eA, ⟨r0, r1, r2, r3, r4⟩, hkA, hsA, hbA⟩ := set5f hzW (.int .i64 1) (.int .i64 (WW : Nat)) (.int .i64 (HH : Nat)) (.slice a7 n7 c7) (.slice none 0 0)
              have HEA := Lib.hid eA
              have HRA := Lib.hid (And.intro r0 (And.intro r1 (And.intro r2 (And.intro r3 r4))))
              have HBA := Lib.hid (hbA w0 k.g (by have := HGR.out; omega) HBW.out)
              have HSA := Lib.hid (SM.oth HM7.out hzW hkA)
              have HKA := Lib.hid hkA
              clear zf r0 r1 r2 r3 r4 hkA hsA hbA eA
              go_wp2
              rw [HEA.out]
              have r0 := HRA.out.1
              have r1 := HRA.out.2.1
              have r2 := HRA.out.2.2.1
              have r3 := HRA.out.2.2.2.1
              have r4 := HRA.out.2.2.2.2
              refine bodyPost_ret (v := .tuple #[fndV 1 (WW : Nat) (HH : Nat) a7 n7 c7 none 0 0, .nilIface]) (by simp [results, Tryd.results59, go_sem, r0, r1, r2, r3, r4]) rfl ?_
              exact ⟨_, _, _, _, _, _, rfl, by rw [← HRY.out]; exact HSA.out, HBA.out, by rw [← HRY.out]; exact ⟨_, _, _, by rw [HWH.out.1, HWH.out.2], rfl, by rw [HV.out.1, HWH.out.2]; exact OwI.base ⟨own_of_heap' HO7.out.own fun b hb => HKA.out b (by have h1 := (HO7.out.own.lt b hb).1; have := HLT6.out; omega)⟩ (by have := HLT6.out; rw [HGW.out]; omega)⟩⟩
            | false =>
              have hv : onV R (some false) = .tuple #[.bool false, .nilIface] := rfl
              rw [hv]
              clear hv hzW
              obtain ⟨n1, n2, n3⟩ := HPO.out.no rfl
              have HN1 : Hid (S4.way = []) := n1.trans HI3.out.2.2
              have HN3 : Hid (∀ x ∈ S4.st, x ∈ S4.order) := fun x hx => n3 x hx (HPO.out.inv.sfit x hx).a0
              clear n1 n2 n3
              go_wp2
              go_roundw
              case rel => exact ⟨b + 1, S4, aO6, cO6, aW6, cW6, by omega, by go_num, HM6.out, HBW.out, HZW.out, HRN.out, HPO.out.inv, HN3.out, HN1.out⟩
              case measure => simp [intOf]; omega
        · obtain rfl : b = k.m := by omega
          have HRN : Hid (allF (mkK k t l) k.m k.w (k.m * k.m - (a + 1) * k.m) ((a + 1) * k.m) S3 = Y) := by show _ = _; rw [Nat.succ_mul]; exact hrun
          have bi : ¬ (k.m : Int) < (k.m : Int) := by omega
          clear hrun hi3 hA3 hw3
          go_wp2
          go_roundw
          case rel => exact ⟨a + 1, S3, aO3, cO3, aW3, cW3, by omega, by go_num, HM3.out, HB3.out, HZ3.out, HRN.out, HI3.out⟩
          case measure => simp [intOf]; omega
    · obtain rfl : a = k.m := by omega
      rw [Nat.sub_self] at hrun
      have HRY : Hid ((S2, some false) = Y) := hrun
      have hen := HEND.out.enc
      rw [← HRY.out] at hen
      have hrd := (owns_rd HM2.out.ord).2
      have HEN := Lib.hid (And.intro hen hrd)
      have ai : ¬ (k.m : Int) < (k.m : Int) := by omega
      have HS0 : Hid (wr.drew.cell? ⟨k.g, 1, none⟩ = some (.int .i64 (k.w : Nat)) ∧ wr.drew.cell? ⟨k.g, 2, none⟩ = some (.int .i64 (k.h : Nat)) ∧ wr.drew.cell? ⟨k.g, 9, none⟩ = some (.slice aO2 S2.order.length cO2)) := ⟨e1, e2, e9⟩
      clear hrun hen hrd
      go_wp2_with fail
      go_region_held3 (fun w' => w'.cell? ⟨k.g, 1, none⟩ = some (.int .i64 (k.w : Nat)) ∧ w'.cell? ⟨k.g, 2, none⟩ = some (.int .i64 (k.h : Nat)) ∧ w'.cell? ⟨k.g, 9, none⟩ = some (.slice aO2 S2.order.length cO2))
        (first | with_reducible exact HS5.out | with_reducible exact HS0.out | go_keep)
        (first
          | (go_at_call 55; refine (encode_okM (k.w : Int) (k.h : Int) aO2 cO2 _ S2.order wr.drew rfl (HEN.out.2.up (Below.drew (bnil wr))) HEN.out.1).mono ?_; rintro e w7 ⟨a7, c7, rfl, ho7, hb7⟩; have HO7 := Lib.hid ho7; have HB7 := Lib.hid hb7; have HS5 := Lib.hid (And.intro (cpa hb7 (HS0.out).1) (And.intro (cpa hb7 (HS0.out).2.1) (cpa hb7 (HS0.out).2.2))); clear ho7 hb7))
      all_goals
        have hb7 : Below wr.heap.size wr w7 := (Below.drew (bnil wr)).trans HB7.out
        have HM7 := Lib.hid (HM2.out.below hb7)
        have HBW := Lib.hid (HB2.out.trans (hb7.mono (Nat.le_of_lt (heap_ltT HM2.out.box))))
        have hzW := (hb7.block _ (heap_ltT HZ2.out)).trans HZ2.out
        have hlt6 := heap_ltT HZ2.out
        have HLT6 : Hid (gr < wr.drew.heap.size) := hlt6
        clear hb7 hlt6 e1 e2 e9 HS0 HS5
        obtain ⟨⟨z0, z1, z2, z3, z4⟩, zf⟩ := f_cells hzW
        have zf0 := zf 0
        have zf1 := zf 1
        have zf2 := zf 2
        have zf3 := zf 3
        have zf4 := zf 4
        obtain ⟨wA, eA, ⟨r0, r1, r2, r3, r4⟩, hkA, hsA, hbA⟩ := set5f hzW (.int .i64 2) (.int .i64 0) (.int .i64 0) (.slice none 0 0) (.slice a7 (4 + 3 * S2.order.length) c7)
        have HEA := Lib.hid eA
        have HRA := Lib.hid (And.intro r0 (And.intro r1 (And.intro r2 (And.intro r3 r4))))
        have HBA := Lib.hid (hbA w0 k.g (by have := HGR.out; omega) HBW.out)
        have HSA := Lib.hid (SM.oth HM7.out hzW hkA)
        have HKA := Lib.hid hkA
        clear zf r0 r1 r2 r3 r4 hkA hsA hbA eA
        go_wp2
        rw [HEA.out]
        have r0 := HRA.out.1
        have r1 := HRA.out.2.1
        have r2 := HRA.out.2.2.1
        have r3 := HRA.out.2.2.2.1
        have r4 := HRA.out.2.2.2.2
        refine bodyPost_ret (v := .tuple #[fndV 2 0 0 none 0 0 a7 (4 + 3 * S2.order.length) c7, .nilIface]) (by simp [results, Tryd.results59, go_sem, r0, r1, r2, r3, r4]) rfl ?_
        exact ⟨_, _, _, _, _, _, rfl, by rw [← HRY.out]; exact HSA.out, HBA.out, by rw [← HRY.out]; exact ⟨_, _, rfl, rfl, owns_base (own_of_heap' HO7.out fun b hb => HKA.out b (by have h1 := (HO7.out.lt b hb).1; have := HLT6.out; omega)) (by have := HLT6.out; rw [HGW.out]; omega)⟩⟩
end Go.Proofs.YtoaooblodgejdaaDoor
