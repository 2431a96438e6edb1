/- eve: (*search).on. -/
import Derived.Test.YtoaooblodgejdaaDoorEvN
import Derived.Deep.QuietTactic
import Derived.BigQuiet
namespace Go.Proofs.YtoaooblodgejdaaDoor
open Go.RowKit
set_option linter.unusedVariables false
set_option maxRecDepth 100000

theorem ety_i : ET Tryd.prog 22 3 (.int .i64 0) 1 8 := et_int
theorem SM.wayApp {k : SK} {S : SS} {wv w' : World} {aO aW a2 : Option Addr} {cO cW c2 : Nat} {news : List Int} (h : SM k S wv aO cO aW cW) (hg : wv.grownBy w' (Value.slice aW S.way.length cW).ownBlock)
    (ho : w'.ownsRow (k.g + 1) 3 1 (.slice a2 (S.way.length + news.length) c2) (S.way.length + news.length) ((S.way ++ news).map (Value.int .i64))) :
    SM k { S with way := S.way ++ news } (w'.setCell ⟨k.g, 10, none⟩ (.slice a2 (S.way.length + news.length) c2)) aO cO a2 c2 := by
  have hb := blk_grown h.box hg (own_neG h.way.own)
  have hd := own_grown h.dead hg (ap_ty h.way.own h.dead (by decide))
  have hr := own_grown h.ord hg (ap_ty h.way.own h.ord (by decide))
  have hl : S.way.length + news.length = (S.way ++ news).length := by rw [List.length_append]
  rw [hl] at ho ⊢
  exact ⟨(sObj_set hb).2.2.2.1 _ _ _, own_set_other hd (own_neG hd) _, own_set_other hr (own_neG hr) _, ⟨own_set_other ho (own_neG ho) _⟩⟩
theorem SM.ordApp {k : SK} {S : SS} {wv w' : World} {aO aW a2 : Option Addr} {cO cW c2 : Nat} {x : Ent} (h : SM k S wv aO cO aW cW) {wd : World} (hd0 : wd = wv.setCell ⟨k.gd, posE k.m x, none⟩ (.bool true)) (hlt : posE k.m x < k.N) (hg : wd.grownBy w' (Value.slice aO S.order.length cO).ownBlock)
    (ho : w'.ownsRow (k.g + 1) 90 3 (.slice a2 (S.order.length + 1) c2) (S.order.length + 1) (entsC S.order ++ [.int .i64 x.1, .int .i64 x.2.1, .int .i64 x.2.2])) :
    SM k { S with order := S.order ++ [x] } (w'.setCell ⟨k.g, 9, none⟩ (.slice a2 (S.order.length + 1) c2)) a2 c2 aW cW := by
  have hgd : k.g + 1 ≤ k.gd := (h.dead.lt k.gd rfl).1
  have hbd : wd.heap[k.g]? = some (sObj k S.tries S.left aO S.order.length cO aW S.way.length cW) := by
    rw [hd0, Below.heap_setCell _ _ _ _ (by show k.g ≠ k.gd; omega)]
    exact h.box
  have hdd := own_set h.dead (posE k.m x) (.bool true)
  rw [bools_set _ (ahB k.m (S.order ++ [x])) (fun j _ => ahB_snoc k.m S.order x j), ← hd0] at hdd
  have hdo : wd.ownsRow (k.g + 1) 90 3 (.slice aO S.order.length cO) S.order.length (entsC S.order) := by
    rw [hd0]
    exact own_set_other h.ord (fun e => (ap_ty h.dead h.ord (by decide)) k.gd rfl e) _
  have hdw : wd.ownsRow (k.g + 1) 3 1 (.slice aW S.way.length cW) S.way.length (S.way.map (Value.int .i64)) := by
    rw [hd0]
    exact own_set_other h.way.own (fun e => (ap_ty h.dead h.way.own (by decide)) k.gd rfl e) _
  have hb := blk_grown hbd hg (own_neG hdo)
  have hd := own_grown hdd hg (ap_ty hdo hdd (by decide))
  have hw := own_grown hdw hg (ap_ty hdo hdw (by decide))
  have hl : S.order.length + 1 = (S.order ++ [x]).length := by rw [List.length_append, List.length_singleton]
  have hc : entsC S.order ++ [.int .i64 x.1, .int .i64 x.2.1, .int .i64 x.2.2] = entsC (S.order ++ [x]) := by simp [entsC, entC]
  rw [hl, hc] at ho
  rw [hl]
  exact ⟨(sObj_set hb).2.2.1 _ _ _, own_set_other hd (own_neG hd) _, own_set_other ho (own_neG ho) _, ⟨own_set_other hw (own_neG hw) _⟩⟩
/-- what on answers -/
def onV (R : Nat → Addr) (o : Option Bool) : Value := .tuple #[.bool (o == some true), match o with | none => nbV R | some _ => .nilIface]
/-- what a call of on brings about, in memory -/
def OnRet (k : SK) (R : Nat → Addr) (w0 wv : World) (X : SS × Option Bool) (e : Ending) (w' : World) : Prop := ∃ aO cO aW cW, e = .returned (onV R X.2) ∧ SM k X.1 w' aO cO aW cW ∧ Below k.g w0 w' ∧ KeepF wv w'
abbrev mkK (k : SK) (t l : List Int) := mkL t (colL k.w k.h l) k.h
set_option maxHeartbeats 16000000 in
theorem evon_end (k : SK) (t l : List Int) (R : Nat → Addr) (w0 : World) (hst : ST k t l R w0) (S : SS) (wv : World) (aO aW : Option Addr) (cO cW : Nat) (a b : Nat) (hm : SM k S wv aO cO aW cW) (hb : Below k.g w0 wv) (hw : S.way = []) :
    Calls Tryd.prog 100 #[.pointer (some ⟨k.g, 0, none⟩), .int .i64 (k.w : Nat), .int .i64 (a : Nat), .int .i64 (b : Nat)] wv (OnRet k R w0 wv ({ S with way := S.way ++ [(b : Int), (a : Int)] }, some true)) := by
  obtain ⟨⟨c0, c1, c2, c4, c5, c6, c7, c8, c9, c10⟩, hf⟩ := s_cells hm.box
  have hf10 := hf 10
  have hlb : S.way.length ≤ 100 := by rw [hw]; exact Nat.zero_le _
  have hgl := heap_ltT hm.box
  have HM := Lib.hid hm
  have HB := Lib.hid hb
  have d10 : (wv.alloc (.cells #[.int .i64 (b : Nat), .int .i64 (a : Nat)] 3)).cell? ⟨k.g, 10, none⟩ = some (.slice aW S.way.length cW) := al000 c10
  have hown := hm.way.own
  clear hm hb hf c0 c2 c4 c5 c6 c7 c8 c9 hw
  go_enter Tryd.func100, Tryd.ntmps100
  go_wp2_with (first
    | (at_builtin; refine app_lit rfl _ _ _ rfl (k.g + 1) et_int _ S.way.length _ hown (by rfl) 2 _ _ (by rfl) (by rfl) (by simp) (by rfl) (by unfold maxLen; omega) (by omega) hgl ?_; intro a5 c5 w5 ho5 hg5 hb5 hs5; have HO5 := Lib.hid ho5; have HG5 := Lib.hid hg5; have HB5 := Lib.hid hb5; have y5 : w5.cell? ⟨k.g, 10, none⟩ = some (.slice aW S.way.length cW) := (hb5.cell (p := ⟨k.g, 10, none⟩) (Nat.lt_succ_self k.g)).trans c10; have f5 := (hb5.frozen (p := ⟨k.g, 10, none⟩) (Nat.lt_succ_self k.g)).trans hf10; clear ho5 hg5 hb5 hs5))
  go_wp2
  go_ret2
  have ho6 : w5.ownsRow (k.g + 1) 3 1 (.slice a5 (S.way.length + [(b : Int), (a : Int)].length) c5) (S.way.length + [(b : Int), (a : Int)].length) ((S.way ++ [(b : Int), (a : Int)]).map (Value.int .i64)) := by
    have h := HO5.out
    rw [List.map_append]
    exact h
  exact ⟨_, _, _, _, rfl, HM.out.wayApp HG5.out ho6, (HB.out.trans (HB5.out.mono (Nat.le_succ k.g))).setCell (p := ⟨k.g, 10, none⟩) (Nat.le_refl _) _, (keepF_grown HM.out.way.own (by decide) HG5.out).trans (keepF_set (blk_grown HM.out.box HG5.out (own_neG HM.out.way.own)) (by decide))⟩
theorem inv_begin {t cols : List Int} {h m w L0 col a b : Nat} {S : SS} (hi : Inv t cols h m w L0 S) (hA : ∀ x ∈ S.st, (col : Int) ≤ x.1 → x ∈ S.order) (hmem : ¬ entN col a b ∈ S.order) (hfit : Fit3 w m (entN col a b)) :
    Inv t cols h m w L0 { S with st := S.st ++ [entN col a b] } ∧ ∀ x ∈ S.st ++ [entN col a b], ((col + 1 : Nat) : Int) ≤ x.1 → x ∈ S.order := by
  have hnew : ¬ entN col a b ∈ S.st := fun hin => hmem (hA _ hin (Int.le_refl _))
  refine ⟨⟨hi.fit, hi.all, fun x hx => ?_, ?_, fun x hx => List.mem_append_left _ (hi.sub x hx), hi.ond, hi.sum⟩, fun x hx hc => ?_⟩
  · rcases List.mem_append.1 hx with hx | hx
    · exact hi.sfit x hx
    · obtain rfl : x = entN col a b := by simpa using hx
      exact hfit
  · show (S.st ++ [entN col a b]).Nodup
    rw [List.nodup_append]
    exact ⟨hi.nd, by simp, fun x hx y hy e => by
      obtain rfl : y = entN col a b := by simpa using hy
      rw [e] at hx
      exact hnew hx⟩
  · rcases List.mem_append.1 hx with hx | hx
    · exact hA x hx (by omega)
    · obtain rfl : x = entN col a b := by simpa using hx
      exact absurd hc (by show ¬ ((col + 1 : Nat) : Int) ≤ (col : Int); omega)
/-- where a call of on ends, by the end of its loop -/
def endO (col a b : Nat) (Y : SS × Option Bool) : SS × Option Bool := match Y with
  | (S2, none) => (S2, none)
  | (S2, some true) => (S2, some true)
  | (S2, some false) => ({ S2 with order := S2.order ++ [entN col a b] }, some false)
theorem onF_run {mk : Nat → Nat → Nat → Nat → Bool} {m d col a b : Nat} {S : SS} {Y : SS × Option Bool} (hmem : ¬ entN col a b ∈ S.order) (h : lpF (mk col a b) (fun c S => onF mk m d (col + 1) b c S) a m 0 { S with st := S.st ++ [entN col a b] } = Y) : onF mk m (d + 1) col a b S = endO col a b Y := by
  rw [show onF mk m (d + 1) col a b S = (if entN col a b ∈ S.order then (S, some false) else endO col a b (lpF (mk col a b) (fun c S => onF mk m d (col + 1) b c S) a m 0 { S with st := S.st ++ [entN col a b] })) from rfl, if_neg hmem, h]
theorem onF_dead {mk : Nat → Nat → Nat → Nat → Bool} {m d col a b : Nat} {S : SS} (hmem : entN col a b ∈ S.order) : onF mk m (d + 1) col a b S = (S, some false) := by
  unfold onF
  rw [if_pos hmem]
theorem wayL_len (v : Nat → Nat) (w col : Nat) : (wayL v w col).length = w + 2 - col := by simp [wayL]
set_option maxHeartbeats 32000000 in
theorem evon_step (k : SK) (t l : List Int) (R : Nat → Addr) (w0 : World) (hst : ST k t l R w0) (L0 : Nat) (hL0 : L0 ≤ 1099511627776) (d : Nat)
    (IH : ∀ (col a b : Nat) (S : SS) (wv : World) (aO aW : Option Addr) (cO cW : Nat), col + d = k.w → a < k.m → b < k.m → Inv t (colL k.w k.h l) k.h k.m k.w L0 S → (∀ x ∈ S.st, (col : Int) ≤ x.1 → x ∈ S.order) → S.way = [] → SM k S wv aO cO aW cW → Below k.g w0 wv →
      Calls Tryd.prog 100 #[.pointer (some ⟨k.g, 0, none⟩), .int .i64 (col : Nat), .int .i64 (a : Nat), .int .i64 (b : Nat)] wv (OnRet k R w0 wv (onF (mkK k t l) k.m d col a b S)))
    (col a b : Nat) (S : SS) (wv : World) (aO aW : Option Addr) (cO cW : Nat) (hd : col + (d + 1) = k.w) (ha : a < k.m) (hb : b < k.m) (hi : Inv t (colL k.w k.h l) k.h k.m k.w L0 S) (hA : ∀ x ∈ S.st, (col : Int) ≤ x.1 → x ∈ S.order) (hw : S.way = []) (hm : SM k S wv aO cO aW cW) (hbl : Below k.g w0 wv) :
    Calls Tryd.prog 100 #[.pointer (some ⟨k.g, 0, none⟩), .int .i64 (col : Nat), .int .i64 (a : Nat), .int .i64 (b : Nat)] wv (OnRet k R w0 wv (onF (mkK k t l) k.m (d + 1) col a b S)) := by
  have hcw : col < k.w := by omega
  have hfit := entN_fit (w := k.w) hcw ha hb
  have hm64 := (m_le hst.h4).1
  rw [← hst.me] at hm64
  have hw8 := hst.w8
  have hpl := posE_lt hfit
  rw [← hst.ne] at hpl
  have hN := (enough_le hst.w8 hst.h4).1
  rw [← hst.me, ← hst.ne] at hN
  obtain ⟨P2, hP2⟩ : ∃ P2, col * k.m = P2 := ⟨_, rfl⟩
  have hP2b : P2 ≤ 512 := by rw [← hP2]; exact Nat.le_trans (Nat.mul_le_mul (show _ ≤ 8 by omega) hm64) (by omega)
  obtain ⟨Q2, hQ2⟩ : ∃ Q2, P2 + a = Q2 := ⟨_, rfl⟩
  obtain ⟨R2, hR2⟩ : ∃ R2, Q2 * k.m = R2 := ⟨_, rfl⟩
  have hR2b : R2 ≤ 36864 := by rw [← hR2]; exact Nat.le_trans (Nat.mul_le_mul (show _ ≤ 576 by omega) hm64) (by omega)
  obtain ⟨I2, hI2⟩ : ∃ I2, R2 + b = I2 := ⟨_, rfl⟩
  have hpe : posE k.m (entN col a b) = I2 := by rw [← hI2, ← hR2, ← hQ2, ← hP2]; rfl
  rw [hpe] at hpl
  have p2I : (col : Int) * (k.m : Int) = (P2 : Int) := by rw [← hP2]; exact (Int.natCast_mul _ _).symm
  have q2I : (P2 : Int) + (a : Int) = (Q2 : Int) := by omega
  have r2I : (Q2 : Int) * (k.m : Int) = (R2 : Int) := by rw [← hR2]; exact (Int.natCast_mul _ _).symm
  have s2I : (R2 : Int) + (b : Int) = (I2 : Int) := by omega
  have p2W : IntKind.i64.wrap (P2 : Int) = (P2 : Int) := IntWalk.i64_in _ (by omega)
  have q2W : IntKind.i64.wrap (Q2 : Int) = (Q2 : Int) := IntWalk.i64_in _ (by omega)
  have r2W : IntKind.i64.wrap (R2 : Int) = (R2 : Int) := IntWalk.i64_in _ (by omega)
  have s2W : IntKind.i64.wrap (I2 : Int) = (I2 : Int) := IntWalk.i64_in _ (by omega)
  have s20 : (0 : Int) ≤ (I2 : Int) := by omega
  have s21 : (I2 : Int) < (k.N : Int) := by omega
  have hcI : ((col : Int) == (k.w : Int)) = false := by rw [beq_eq_false_iff_ne]; omega
  have hcJ : ¬ (col : Int) = (k.w : Int) := by omega
  obtain ⟨⟨c0, c1, c2, c4, c5, c6, c7, c8, c9, c10⟩, hf⟩ := s_cells hm.box
  have hcs := hm.dead.cellAt I2 (by omega)
  rw [bools_at _ hpl, ← hpe, ahB_mem hi.fit hfit, hpe] at hcs
  have HM := Lib.hid hm
  have HB := Lib.hid hbl
  have HPE := Lib.hid hpe
  have HST := Lib.hid hst
  clear hP2 hQ2 hR2 hI2 hP2b hR2b hpe c0 c2 c4 c6 c7 c9 c10 hf
  by_cases hmem : entN col a b ∈ S.order
  · rw [onF_dead hmem]
    rw [decide_eq_true hmem] at hcs
    clear hm hbl hA hmem hst
    go_enter Tryd.func100, Tryd.ntmps100
    go_wp2_with fail
    go_quiet (fail)
    go_wp2
    go_ret2
    exact ⟨_, _, _, _, rfl, HM.out.below (bdrewN (bnil _) _), below_drewN HB.out _, keepF_below (bdrewN (bnil _) _)⟩
  rw [decide_eq_false hmem] at hcs
  obtain ⟨hi1, hA1⟩ := inv_begin hi hA hmem hfit
  obtain ⟨Y, hY⟩ : ∃ Y, lpF (mkK k t l col a b) (fun c S => onF (mkK k t l) k.m d (col + 1) b c S) a k.m 0 { S with st := S.st ++ [entN col a b] } = Y := ⟨_, rfl⟩
  rw [onF_run hmem hY]
  obtain ⟨S1, hS1⟩ : ∃ S1, ({ S with st := S.st ++ [entN col a b] } : SS) = S1 := ⟨_, rfl⟩
  have hm1 : SM k S1 wv aO cO aW cW := by rw [← hS1]; exact ⟨hm.box, hm.dead, hm.ord, hm.way⟩
  have hA1' : ∀ x ∈ S1.st, ((col + 1 : Nat) : Int) ≤ x.1 → x ∈ S1.order := by rw [← hS1]; exact hA1
  have hw1 : S1.way = [] := by rw [← hS1]; exact hw
  rw [hS1] at hi1 hY
  have HIH := Lib.hid IH
  have HM1 := Lib.hid hm1
  have H1 := Lib.hid (And.intro hY (And.intro hi1 (And.intro hA1' hw1)))
  obtain ⟨K1, hK1⟩ : ∃ K1, col + 1 = K1 := ⟨_, rfl⟩
  have kI : (col : Int) + 1 = (K1 : Int) := by omega
  have kW : IntKind.i64.wrap (K1 : Int) = (K1 : Int) := IntWalk.i64_in _ (by omega)
  have HK1 := Lib.hid hK1
  have HFIT := Lib.hid hfit
  clear hm hbl hA hmem hst hi1 hA1 hY hS1 hm1 hA1' hw1 IH HM hi hw hK1 hfit
  go_enter Tryd.func100, Tryd.ntmps100
  go_wp2_with fail
  go_quiet (fail)
  go_wp2_with fail
  go_loopw [59] (fun cx wr => ∃ (c : Nat) (S2 : SS) (aO : Option Addr) (cO : Nat) (aW : Option Addr) (cW : Nat), c ≤ k.m ∧ cx = .int .i64 (c : Nat) ∧ SM k S2 wr aO cO aW cW ∧ (Below k.g w0 wr ∧ KeepF wv wr) ∧ lpF (mkK k t l col a b) (fun c S => onF (mkK k t l) k.m d (col + 1) b c S) a (k.m - c) c S2 = Y ∧ Inv t (colL k.w k.h l) k.h k.m k.w L0 S2 ∧ (∀ x ∈ S2.st, ((col + 1 : Nat) : Int) ≤ x.1 → x ∈ S2.order) ∧ S2.way = []) (fun cx _ => k.m - (intOf cx).toNat)
  case atStart => exact ⟨0, S1, aO, cO, aW, cW, by omega, rfl, HM1.out.below (bdrewN (bnil _) _), ⟨below_drewN HB.out _, keepF_below (bdrewN (bnil _) _)⟩, H1.out⟩
  case round =>
    clear hcs c1 c5 c8
    obtain ⟨c, S2, aO2, cO2, aW2, cW2, hc, rfl, hm2, ⟨hb2, hkf⟩, hrun, hi2, hA2, hw2⟩ := hrel
    have HKF := Lib.hid hkf
    clear hkf
    obtain ⟨⟨e0, e1, e2, e4, e5, e6, e7, e8, e9, e10⟩, hf⟩ := s_cells hm2.box
    have hsum := hi2.sum
    have HM2 := Lib.hid hm2
    have HB2 := Lib.hid hb2
    have HI2 := Lib.hid (And.intro hi2 (And.intro hA2 hw2))
    by_cases hcm : c < k.m
    · have ci : (c : Int) < (k.m : Int) := by omega
      have cw : IntKind.i64.wrap ((c : Int) + 1) = (c : Int) + 1 := IntWalk.i64_in _ (by omega)
      obtain ⟨r, hr⟩ : ∃ r, k.m - c = r + 1 := ⟨k.m - c - 1, by omega⟩
      have hr2 : k.m - (c + 1) = r := by omega
      rw [hr] at hrun
      unfold lpF at hrun
      rw [← hr2] at hrun
      clear hr hr2 hm2 hb2 hi2 hA2 hw2 e0 e1 e2 e4 e5 e6 e7 e8 e9 e10 hf
      by_cases hl : S2.left = 0
      · rw [if_pos hl] at hrun
        have HR := Lib.hid hrun
        clear hrun
        go_wp2_with fail
        refine (evtry_no k t l R w0 S2 wr aO2 aW2 cO2 cW2 HST.out HM2.out HB2.out hl _ _ _ _).mono ?_; rintro e w5 ⟨rfl, hb5⟩
        have HB5 := Lib.hid hb5
        clear hb5
        go_wp2
        go_ret2
        rw [← HR.out]
        exact ⟨_, _, _, _, rfl, HM2.out.below HB5.out, HB2.out.trans (HB5.out.mono (Nat.le_of_lt (heap_ltT HM2.out.box))), HKF.out.trans (keepF_below HB5.out)⟩
      rw [if_neg hl] at hrun
      have hct := evtry_ok k t l R w0 S2 wr aO2 aW2 cO2 cW2 HST.out HM2.out HB2.out hl (by omega) col a b c hcw ha hb hcm
      have hi3 := inv_try HI2.out.1 hl
      obtain ⟨S3, hS3⟩ : ∃ S3, ({ S2 with left := S2.left - 1, tries := S2.tries + 1 } : SS) = S3 := ⟨_, rfl⟩
      rw [hS3] at hrun hct hi3
      have HA3 : Hid (∀ x ∈ S3.st, ((col + 1 : Nat) : Int) ≤ x.1 → x ∈ S3.order) := by show ∀ x ∈ S3.st, _; rw [← hS3]; exact HI2.out.2.1
      have HW3 : Hid (S3.way = []) := by show _ = _; rw [← hS3]; exact HI2.out.2.2
      have HI3 := Lib.hid hi3
      obtain ⟨bb, hbb⟩ : ∃ bb, mkK k t l col a b c = bb := ⟨_, rfl⟩
      have hbb2 : mkL t (colL k.w k.h l) k.h col a b c = bb := hbb
      rw [hbb] at hrun
      rw [hbb2] at hct
      have HCT := Lib.hid hct
      have HRUN := Lib.hid hrun
      clear hS3 hi3 hbb hbb2 hct hrun hsum HI2
      cases bb with
      | false =>
        have hrn := HRUN.out
        rw [if_neg (by decide)] at hrn
        have HRN := Lib.hid hrn
        clear hrn
        go_wp2_with fail
        refine HCT.out.mono ?_; rintro e w5 ⟨rfl, hm5, hb5, hkf⟩
        have HM5 := Lib.hid hm5
        have HB5 := Lib.hid hb5
        have HK5 := Lib.hid (HKF.out.trans hkf)
        clear hm5 hb5 hkf
        go_wp2
        go_roundw
        case rel => exact ⟨c + 1, S3, aO2, cO2, aW2, cW2, by omega, by go_num, HM5.out, ⟨HB5.out, HK5.out⟩, HRN.out, HI3.out, HA3.out, HW3.out⟩
        case measure => simp [intOf]; omega
      | true =>
        have hrn := HRUN.out
        rw [if_pos rfl] at hrn
        have hpo := on_post (t := t) (cols := colL k.w k.h l) (h := k.h) (m := k.m) (w := k.w) (L0 := L0) d (col + 1) b c S3 (by omega) hb hcm HI3.out HA3.out
        have hih := fun wv hm hb2 => HIH.out (col + 1) b c S3 wv aO2 aW2 cO2 cW2 (by omega) hb hcm HI3.out HA3.out HW3.out hm hb2
        obtain ⟨S4, o4, hX⟩ : ∃ S4 o4, onF (mkK k t l) k.m d (col + 1) b c S3 = (S4, o4) := ⟨_, _, rfl⟩
        rw [hX] at hrn hpo
        simp only [hX] at hih
        simp only [HK1.out] at hih
        have HIHC := Lib.hid hih
        have HPO := Lib.hid hpo
        have HRN := Lib.hid hrn
        clear hih hX hrn hpo
        go_wp2_with fail
        refine HCT.out.mono ?_; rintro e w5 ⟨rfl, hm5, hb5, hkf⟩
        have HM5 := Lib.hid hm5
        have HB5 := Lib.hid hb5
        have HK5 := Lib.hid (HKF.out.trans hkf)
        clear hm5 hb5 hkf
        go_wp2_with fail
        refine (HIHC.out _ HM5.out HB5.out).mono ?_; rintro e w6 ⟨aO6, cO6, aW6, cW6, rfl, hm6, hb6, hkf⟩
        have HM6 := Lib.hid hm6
        have HB6 := Lib.hid hb6
        have HK6 := Lib.hid (HK5.out.trans hkf)
        clear hm6 hb6 hkf
        cases o4 with
        | none =>
          have hv : onV R none = .tuple #[.bool false, nbV R] := rfl
          rw [hv]
          clear hv
          go_wp2
          go_ret2
          rw [← HRN.out]
          exact ⟨_, _, _, _, rfl, HM6.out, HB6.out, HK6.out⟩
        | some o4 =>
          cases o4 with
          | true =>
            have hv : onV R (some true) = .tuple #[.bool true, .nilIface] := rfl
            rw [hv]
            obtain ⟨v, _, _, _, hway⟩ := HPO.out.yes rfl
            have hlb : S4.way.length ≤ 100 := by
              rw [hway, HW3.out, List.nil_append, wayL_len]
              omega
            obtain ⟨⟨e0, e1, e2, e4, e5, e6, e7, e8, e9, e10⟩, hf⟩ := s_cells HM6.out.box
            have hf10 := hf 10
            have d10 : (w6.alloc (.cells #[.int .i64 (a : Nat)] 3)).cell? ⟨k.g, 10, none⟩ = some (.slice aW6 S4.way.length cW6) := al000 e10
            have hown := HM6.out.way.own
            have hgl := heap_ltT HM6.out.box
            clear hway hv e0 e1 e2 e4 e5 e6 e7 e8 e9 hf
            go_wp2_with (first
              | (at_builtin; refine app_lit rfl _ _ _ rfl (k.g + 1) et_int _ S4.way.length _ hown (by rfl) 1 _ _ (by rfl) (by rfl) (by simp) (by rfl) (by unfold maxLen; omega) (by omega) hgl ?_; intro a7 c7 w7 ho7 hg7 hb7 hs7; have HO7 := Lib.hid ho7; have HG7 := Lib.hid hg7; have HB7 := Lib.hid hb7; have y7 : w7.cell? ⟨k.g, 10, none⟩ = some (.slice aW6 S4.way.length cW6) := (hb7.cell (p := ⟨k.g, 10, none⟩) (Nat.lt_succ_self k.g)).trans e10; have f7 := (hb7.frozen (p := ⟨k.g, 10, none⟩) (Nat.lt_succ_self k.g)).trans hf10; clear ho7 hg7 hb7 hs7))
            go_wp2
            go_ret2
            rw [← HRN.out]
            have ho8 : w7.ownsRow (k.g + 1) 3 1 (.slice a7 (S4.way.length + [(a : Int)].length) c7) (S4.way.length + [(a : Int)].length) ((S4.way ++ [(a : Int)]).map (Value.int .i64)) := by
              have h := HO7.out
              rw [List.map_append]
              exact h
            exact ⟨_, _, _, _, rfl, HM6.out.wayApp HG7.out ho8, (HB6.out.trans (HB7.out.mono (Nat.le_succ k.g))).setCell (p := ⟨k.g, 10, none⟩) (Nat.le_refl _) _, HK6.out.trans ((keepF_grown HM6.out.way.own (by decide) HG7.out).trans (keepF_set (blk_grown HM6.out.box HG7.out (own_neG HM6.out.way.own)) (by decide)))⟩
          | false =>
            have hv : onV R (some false) = .tuple #[.bool false, .nilIface] := rfl
            rw [hv]
            clear hv
            obtain ⟨n1, n2, n3⟩ := HPO.out.no rfl
            have HN1 : Hid (S4.way = []) := n1.trans HW3.out
            have HN3 := Lib.hid n3
            clear n1 n2 n3
            go_wp2
            go_roundw
            case rel => exact ⟨c + 1, S4, aO6, cO6, aW6, cW6, by omega, by go_num, HM6.out, ⟨HB6.out, HK6.out⟩, HRN.out, HPO.out.inv, HN3.out, HN1.out⟩
            case measure => simp [intOf]; omega
    · obtain rfl : c = k.m := by omega
      rw [Nat.sub_self] at hrun
      unfold lpF at hrun
      have HRUN := Lib.hid hrun
      have ci : ¬ (k.m : Int) < (k.m : Int) := by omega
      have hol := ents_len hi2.ond hi2.fit
      rw [← HST.out.ne] at hol
      have hcs := hm2.dead.cellAt I2 (by omega)
      rw [bools_at _ hpl] at hcs
      have hfd := hm2.dead.frozenAt I2
      obtain ⟨wd, hwd⟩ : ∃ wd, wr.setCell ⟨k.gd, I2, none⟩ (.bool true) = wd := ⟨_, rfl⟩
      have hgd : k.g + 1 ≤ k.gd := (hm2.dead.lt k.gd rfl).1
      have hbd : wd.heap[k.g]? = some (sObj k S2.tries S2.left aO2 S2.order.length cO2 aW2 S2.way.length cW2) := by
        rw [← hwd, Below.heap_setCell _ _ _ _ (by show k.g ≠ k.gd; omega)]
        exact hm2.box
      have hown : wd.ownsRow (k.g + 1) 90 3 (.slice aO2 S2.order.length cO2) S2.order.length (entsC S2.order) := by
        rw [← hwd]
        exact own_set_other hm2.ord (fun e => (ap_ty hm2.dead hm2.ord (by decide)) k.gd rfl e) _
      obtain ⟨⟨u0, u1, u2, u4, u5, u6, u7, u8, u9, u10⟩, uf⟩ := s_cells hbd
      have hf9 := uf 9
      have hgl := heap_ltT hbd
      have d9 : (wd.alloc (.cells #[.int .i64 (col : Nat), .int .i64 (a : Nat), .int .i64 (b : Nat)] 90)).cell? ⟨k.g, 9, none⟩ = some (.slice aO2 S2.order.length cO2) := al000 u9
      have HKD : Hid (KeepF wv wd ∧ wd.heap[k.g]? = some (sObj k S2.tries S2.left aO2 S2.order.length cO2 aW2 S2.way.length cW2) ∧ wd.ownsRow (k.g + 1) 90 3 (.slice aO2 S2.order.length cO2) S2.order.length (entsC S2.order)) := by
        refine ⟨?_, hbd, hown⟩
        rw [← hwd]
        obtain ⟨ddg, ddc, ddr, dde, _, ddq, _⟩ := hm2.dead.2.resolve_left (fun e => by have := e.1; cases this)
        cases dde
        exact HKF.out.trans (keepF_set ddq (by decide))
      have HWD := Lib.hid hwd
      have HBD : Hid (Below k.g w0 wd) := by show Below _ _ _; rw [← hwd]; exact hb2.setCell (p := ⟨k.gd, I2, none⟩) (by show k.g ≤ k.gd; omega) _
      clear hrun hi2 hA2 hw2 hm2 hb2 u0 u1 u2 u4 u5 u6 u7 u8 u10 uf hgd e0 e1 e2 e4 e5 e6 e7 e9 e10 hf hsum
      go_wp2_with (first
        | (at_builtin; refine app_lit rfl _ _ _ rfl (k.g + 1) et_ent _ S2.order.length _ hown (by rfl) 1 _ _ (by rfl) (by rfl) (by simp) (by rfl) (by unfold maxLen; omega) (by omega) hgl ?_; intro a7 c7 w7 ho7 hg7 hb7 hs7; have HO7 := Lib.hid ho7; have HG7 := Lib.hid hg7; have HB7 := Lib.hid hb7; have y7 : w7.cell? ⟨k.g, 9, none⟩ = some (.slice aO2 S2.order.length cO2) := (hb7.cell (p := ⟨k.g, 9, none⟩) (Nat.lt_succ_self k.g)).trans u9; have f7 := (hb7.frozen (p := ⟨k.g, 9, none⟩) (Nat.lt_succ_self k.g)).trans hf9; clear ho7 hg7 hb7 hs7))
      go_wp2
      go_ret2
      rw [← HRUN.out]
      exact ⟨_, _, _, _, rfl, SM.ordApp (x := entN col a b) HM2.out (by rw [HPE.out]; exact HWD.out.symm) (by rw [HPE.out]; exact hpl) HG7.out HO7.out, (HBD.out.trans (HB7.out.mono (Nat.le_succ k.g))).setCell (p := ⟨k.g, 9, none⟩) (Nat.le_refl _) _, HKD.out.1.trans ((keepF_grown HKD.out.2.2 (by decide) HG7.out).trans (keepF_set (blk_grown HKD.out.2.1 HG7.out (own_neG HKD.out.2.2)) (by decide)))⟩
theorem evon_any (k : SK) (t l : List Int) (R : Nat → Addr) (w0 : World) (hst : ST k t l R w0) (L0 : Nat) (hL0 : L0 ≤ 1099511627776) : ∀ (d col a b : Nat) (S : SS) (wv : World) (aO aW : Option Addr) (cO cW : Nat), col + d = k.w → a < k.m → b < k.m → Inv t (colL k.w k.h l) k.h k.m k.w L0 S → (∀ x ∈ S.st, (col : Int) ≤ x.1 → x ∈ S.order) → S.way = [] → SM k S wv aO cO aW cW → Below k.g w0 wv →
      Calls Tryd.prog 100 #[.pointer (some ⟨k.g, 0, none⟩), .int .i64 (col : Nat), .int .i64 (a : Nat), .int .i64 (b : Nat)] wv (OnRet k R w0 wv (onF (mkK k t l) k.m d col a b S))
  | 0, col, a, b, S, wv, aO, aW, cO, cW, hd, ha, hb, hi, hA, hw, hm, hbl => by
    obtain rfl : col = k.w := by omega
    exact evon_end k t l R w0 hst S wv aO aW cO cW a b hm hbl hw
  | d + 1, col, a, b, S, wv, aO, aW, cO, cW, hd, ha, hb, hi, hA, hw, hm, hbl =>
    evon_step k t l R w0 hst L0 hL0 d (evon_any k t l R w0 hst L0 hL0 d) col a b S wv aO aW cO cW hd ha hb hi hA hw hm hbl
end Go.Proofs.YtoaooblodgejdaaDoor
