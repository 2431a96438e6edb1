/- The contracts of nat.Sum and count.words. -/
import Derived.Test.YtmdicmcmalmbaaaDoorCountA
import Derived.Deep.QuietTactic
import Derived.BigQuiet
namespace Go.Proofs.YtmdicmcmalmbaaaDoor
open Go.RowKit
set_option linter.unusedVariables false
set_option maxRecDepth 100000

theorem sum_len {n i L : Nat} {f : Nat → Nat} (hn : n ≤ 16384) (hi : i ≤ n) (h : ∀ j, j < n → f j < B32 ^ L) : (limbs (sumTo i f)).length ≤ L + 1 := by
  refine limbs_len_le ?_
  have h1 : sumTo i f ≤ i * B32 ^ L := sumTo_le fun k hk => Nat.le_of_lt (h k (by omega))
  have h2 : i * B32 ^ L ≤ 16384 * B32 ^ L := Nat.mul_le_mul_right _ (by omega)
  have h4 : 0 < B32 ^ L := Nat.pow_pos (by decide)
  rw [Nat.pow_succ]
  generalize B32 ^ L = z at *
  show _ < z * 4294967296
  omega

set_option maxHeartbeats 4000000 in
theorem natSum_any (a : Option Addr) (n c L : Nat) (f : Nat → Nat) (W : World) (hM : NsR W a n (fun u => limbs (f u))) (hn : n ≤ 16384) (hL : L ≤ 100000) (hf : ∀ j, j < n → f j < B32 ^ L) :
    Calls Tryd.prog 121 #[.slice a n c] W fun e w' => ∃ a' n' c', e = .returned (.slice a' n' c') ∧ OwN w' W.heap.size (a', n', c') (limbs (sumTo n f)) ∧ Below W.heap.size W w' := by
  have HF := Lib.hid hf; clear hf
  have HM := Lib.hid hM; clear hM
  go_enter Tryd.func121, Tryd.ntmps121
  go_wp2_with fail
  go_loopw [3, 8] (fun sx ix wr => ∃ (i : Nat) (a1 : Option Addr) (n1 c1 : Nat), i ≤ n ∧ ix = .int .i64 i ∧ sx = .slice a1 n1 c1 ∧ OwN wr W.heap.size (a1, n1, c1) (limbs (sumTo i f)) ∧ Below W.heap.size W wr) (fun _ ix _ => n - (intOf ix).toNat)
  case atStart => exact ⟨0, none, 0, 0, by omega, rfl, rfl, OwN.nil _ _, bnil _⟩
  case round =>
    obtain ⟨i, a1, n1, c1, hi, rfl, rfl, ho, hb⟩ := hrel
    have HO := Lib.hid ho
    have HB := Lib.hid hb
    have hsm := ho.ns.small (sum_len hn hi HF.out)
    simp only at hsm
    clear ho hb
    by_cases hin : i < n
    · obtain ⟨b, o, rfl, hbl, hc⟩ := HM.out.addr (by omega)
      obtain ⟨a4, n4, c4, y0, hx⟩ := hc i hin
      have y1 := (HB.out.cell (p := ⟨b, o + i, none⟩) hbl).trans y0
      have n4L := hx.small (limbs_len_le (HF.out i hin))
      have HX := Lib.hid (hx.up HB.out)
      clear hc y0 hx
      have i0 : (0 : Int) ≤ (i : Int) := by omega
      have i1 : (i : Int) < (n : Int) := by omega
      go_wp2_with fail
      refine (add_any a1 a4 n1 n4 c1 c4 _ _ _ HO.out.ns.nr HX.out.nr (by omega) (by omega)).mono ?_; rintro e w5 ⟨a5, n5, c5, rfl, ho5, hv5, hb5⟩
      rw [val_limbs, val_limbs] at ho5
      have HO5 : Hid (OwN w5 W.heap.size (a5, n5, c5) (limbs (sumTo (i + 1) f))) := OwN.base ⟨ho5, limbs_u32 _⟩ HB.out.size
      have HB5 := Lib.hid (HB.out.trans (hb5.mono HB.out.size))
      clear ho5 hv5 hb5
      go_wp2
      go_roundw
      case rel => exact ⟨i + 1, _, _, _, by omega, by go_num, rfl, HO5.out, HB5.out⟩
      case measure => simp [intOf]; omega
    · obtain rfl : n = i := by omega
      go_wp2
      go_ret
      exact ⟨_, _, _, rfl, HO.out, HB.out⟩

/-- the window makes the symbol -/
def fitW (tb wl : List Int) (x y : Nat) : Bool := decide (tb.getD y 0 = wl.getD x 0)
set_option maxHeartbeats 1000000 in
theorem words_pred (k r : Int) (a aw : Option Addr) (T c n cw : Nat) (tb wl : List Int) (gb gw : Nat) (w : World) (hT : RK .i64 w a T tb) (hW : RK .i64 w aw n wl) (h0 : gb < w.heap.size) (h1 : gw < w.heap.size) (h2 : w.cell? ⟨gb, 2, none⟩ = some (.slice a T c)) (h3 : w.cell? ⟨gw, 0, none⟩ = some (.slice aw n cw)) :
    Pred2 123 #[.pointer (some ⟨gb, 0, none⟩), .pointer (some ⟨gw, 0, none⟩)] (fitW tb wl) n T w := by
  intro W x y hb hx hy
  have x2 := (hb.cell (p := ⟨gb, 2, none⟩) h0).trans h2
  have x3 := (hb.cell (p := ⟨gw, 0, none⟩) h1).trans h3
  obtain ⟨b1, o1, rfl, _, hc1⟩ := (hT.up hb).addr (by omega)
  obtain ⟨b2, o2, rfl, _, hc2⟩ := (hW.up hb).addr (by omega)
  have y1 := hc1 y hy
  have y2 := hc2 x hx
  have e : fitW tb wl x y = decide (tb.getD y 0 = wl.getD x 0) := rfl
  rw [e]
  clear hc1 hc2 h2 h3 hT hW e hb
  generalize tb.getD y 0 = u at *
  generalize wl.getD x 0 = v at *
  have i0 : (0 : Int) ≤ (x : Int) := by omega
  have i1 : (x : Int) < (n : Int) := by omega
  have j0 : (0 : Int) ≤ (y : Int) := by omega
  have j1 : (y : Int) < (T : Int) := by omega
  show Calls Tryd.prog 123 #[.int .i64 x, .int .i64 y, .pointer (some ⟨gb, 0, none⟩), .pointer (some ⟨gw, 0, none⟩)] W _
  go_enter Tryd.func123, Tryd.ntmps123
  go_wp2_with fail
  go_quiet (fail)
  go_wp2
  go_ret
  exact ⟨by first | rfl | simp, nq, rfl⟩

/-- a row of ones, i of them there -/
def onesF (i : Nat) : Nat → List Nat := fun u => if u < i then [1] else []
theorem onesF_upd (i u : Nat) : upd (onesF i) i [1] u = onesF (i + 1) u := by
  by_cases e : u = i
  · subst e; rw [upd_self]; simp [onesF]
  · rw [upd_ne _ _ e]
    unfold onesF
    by_cases e2 : u < i
    · rw [if_pos e2, if_pos (by omega)]
    · rw [if_neg e2, if_neg (by omega)]
/-- how many preimages a word has -/
def wordsC (k N : Nat) (tb wl : List Int) : Nat := sumTo N (wv k N (N * k) wl.length (fitW tb wl) (fun _ => 1) wl.length)

set_option maxHeartbeats 8000000 in
theorem words_any (k r : Nat) (a aw : Option Addr) (T c n cw N : Nat) (tb wl : List Int) (W : World) (k1 : 1 ≤ k) (k4 : k ≤ 4) (hT : T = N * k) (hN : 0 < N) (hT4 : T ≤ 16384) (hTc : T ≤ c) (hcm : c ≤ maxLen) (hn : n ≤ 256) (hR : RK .i64 W a T tb) (hW : RK .i64 W aw n wl) :
    Calls Tryd.prog 83 #[ruleV k r a T c, .slice aw n cw] W fun e w' => ∃ a' n' c', e = .returned (.slice a' n' c') ∧ OwN w' W.heap.size (a', n', c') (limbs (wordsC k N tb wl)) ∧ Below W.heap.size W w' := by
  have hNT : N ≤ T := by rw [hT]; exact Nat.le_mul_of_pos_right _ k1
  have hcm' : c ≤ 9223372036854775807 := hcm
  have hdiv : (T : Int) / (k : Int) = (N : Int) := by
    rw [hT, Int.natCast_mul]
    exact Int.mul_ediv_cancel _ (by omega)
  have HLW := Lib.hid hW.len
  have HT := Lib.hid hT; clear hT
  have HR := Lib.hid hR; clear hR
  have HW := Lib.hid hW; clear hW
  have K0 : (0 : Int) < (k : Int) := by omega
  have T0 : (0 : Int) ≤ (T : Int) := by omega
  obtain ⟨Wb, hWb⟩ : ∃ Wb, (W.alloc (.cells #[.int .i64 k, .int .i64 r, .slice a T c] 66)).alloc (.cells #[.slice aw n cw] 48) = Wb := ⟨_, rfl⟩
  have HX : Hid (Wb.cell? ⟨W.heap.size, 0, none⟩ = some (.int .i64 k) ∧ Wb.cell? ⟨W.heap.size, 1, none⟩ = some (.int .i64 r) ∧ Wb.cell? ⟨W.heap.size, 2, none⟩ = some (.slice a T c) ∧ Wb.cell? ⟨W.heap.size + 1, 0, none⟩ = some (.slice aw n cw)) := by rw [← hWb]; exact ⟨by simp, by simp, by simp, by simp⟩
  have HSZ : Hid (Wb.heap.size = W.heap.size + 2) := by show _ = _; rw [← hWb]; simp
  have HBX : Hid (Below W.heap.size W Wb) := by rw [← hWb]; exact balloc (balloc (bnil W) _) _
  have HWB := Lib.hid hWb; clear hWb
  have eg : ∀ args w, (callFunc 123 args).run Tryd.prog w = .ok (.enter 123 args) w := enters_of Tryd.func123 (by kernel_rfl) rfl
  have EG := Lib.hid eg; clear eg
  have hmf : ∀ (fn : Fn) (first cap : Array Value) (w : World), (Instr.makeFunc fn first cap).run Tryd.prog w = .ok (.func fn first cap) w := fun _ _ _ _ => rfl
  go_enter Tryd.func83, Tryd.ntmps83
  go_wp2_with (first
    | (at_make; rw [HWB.out]; refine mk_full rfl _ _ _ rfl Wb.heap.size et_nats .i64 .i64 _ _ N rfl rfl rfl rfl (by omega) (by unfold maxLen; omega) (Nat.le_refl _) ?_; intro w1 hown1 hb1 hsz1; rw [made_nats] at hown1; have HST := Lib.hid ((OwNs.made hown1).congr (G := onesF 0) fun u _ => by simp [onesF]); have HB1 := Lib.hid hb1; clear hown1 hb1 hsz1))
  obtain ⟨g, hg⟩ : ∃ g, Wb.heap.size = g := ⟨_, rfl⟩
  have HGS := Lib.hid hg
  rw [hg] at HST
  simp only [hg]
  clear hg
  go_loopw [16] (fun ix wr => ∃ (i : Nat) (its : Nat → It), i ≤ N ∧ ix = .int .i64 i ∧ OwNs wr g (.slice (some ⟨g, 0, none⟩) N N) N its (onesF i) ∧ Below Wb.heap.size Wb wr) (fun ix _ => N - (intOf ix).toNat)
  case atStart => exact ⟨0, _, by omega, rfl, HST.out, HB1.out⟩
  case round =>
    clear HST HB1
    obtain ⟨i, its, hi, rfl, ho, hb⟩ := hrel
    have HO := Lib.hid ho
    have HB := Lib.hid hb
    clear ho hb
    by_cases hin : i < N
    · have hcell := HO.out.row.cellAt i (by omega)
      rw [range_at _ hin] at hcell
      obtain ⟨u, hu⟩ : ∃ u, wr.cell? ⟨g, i, none⟩ = some u := ⟨_, hcell⟩
      have f0 := HO.out.row.frozenAt i
      have hgl : g < wr.heap.size := own_lt HO.out.row g rfl
      have HGL := Lib.hid hgl
      clear hcell hgl
      have i0 : (0 : Int) ≤ (i : Int) := by omega
      have i1 : (i : Int) < (N : Int) := by omega
      go_wp2_with fail
      refine (from_any 1 _ (by omega)).mono ?_; rintro e w4 ⟨n4, rfl, ho4, hv4, hb4⟩
      have u4 := (hb4.cell (p := ⟨g, i, none⟩) HGL.out).trans hu
      have f4 := (hb4.frozen (p := ⟨g, i, none⟩) HGL.out).trans f0
      have hput := put_add HO.out hin hb4 (limbs_u32 1) ho4 (Nat.le_of_lt HGL.out) (G := onesF (i + 1)) fun u _ => onesF_upd i u
      have hb5 := (HB.out.trans (hb4.mono HB.out.size)).setCell (p := ⟨g, i, none⟩) (by rw [HGS.out]; exact Nat.le_refl _) (.slice (some ⟨wr.heap.size, 0, none⟩) n4 2)
      have HPUT := Lib.hid hput
      have HB5 := Lib.hid hb5
      clear hput hb5 ho4 hv4 hb4
      go_wp2
      go_roundw
      case rel => exact ⟨i + 1, _, by omega, by go_num, HPUT.out, HB5.out⟩
      case measure => simp [intOf]; omega
    · obtain rfl : N = i := by omega
      have hE : NsR wr (some ⟨g, 0, none⟩) N (fun u => limbs 1) := (HO.out.congr (G := fun u => limbs 1) fun u hu => by unfold onesF; rw [if_pos hu]; rfl).nsR
      have hWr := HBX.out.trans (HB.out.mono HBX.out.size)
      have c0 := (HB.out.cell (p := ⟨W.heap.size, 0, none⟩) (by rw [HSZ.out]; simp)).trans HX.out.1
      have c1 := (HB.out.cell (p := ⟨W.heap.size, 1, none⟩) (by rw [HSZ.out]; simp)).trans HX.out.2.1
      have c2 := (HB.out.cell (p := ⟨W.heap.size, 2, none⟩) (by rw [HSZ.out]; simp)).trans HX.out.2.2.1
      have c3 := (HB.out.cell (p := ⟨W.heap.size + 1, 0, none⟩) (by rw [HSZ.out]; simp)).trans HX.out.2.2.2
      have hsz := HB.out.size
      have hszb := HSZ.out
      have hPr := words_pred k r a aw T c n cw tb wl W.heap.size (W.heap.size + 1) wr (HR.out.up hWr) (HW.out.up hWr) (by omega) (by omega) c2 c3
      have HPR := Lib.hid hPr
      have HE := Lib.hid hE
      have HWr := Lib.hid hWr
      clear hPr hE hWr hsz hszb
      have eg2 := EG.out
      go_wp2_with fail
      refine (ways_any k r a T c n (some ⟨g, 0, none⟩) N N (fun _ => 1) 123 _ (fitW tb wl) _ k1 k4 HT.out hN hT4 hTc hcm hn HE.out (fun _ _ => by decide) EG.out HPR.out).mono ?_; rintro e w5 ⟨a5, c5, rfl, hv5, hb5⟩
      have hlt : ∀ u, u < N → wv k N T n (fitW tb wl) (fun _ => 1) n u < B32 ^ (n + 1) := wv_lt hN hT4 (fun _ _ => by decide) n
      have HV5 := Lib.hid hv5
      have HLT := Lib.hid hlt
      have HB5 := Lib.hid (HWr.out.trans (hb5.mono HWr.out.size))
      clear hv5 hlt hb5
      go_wp2_with fail
      refine (natSum_any a5 N c5 (n + 1) _ _ HV5.out (by omega) (by omega) HLT.out).mono ?_; rintro e w6 ⟨a6, n6, c6, rfl, ho6, hb6⟩
      have hfin : OwN w6 W.heap.size (a6, n6, c6) (limbs (wordsC k N tb wl)) := by
        have h := OwN.base (b' := W.heap.size) ho6 HB5.out.size
        unfold wordsC
        rw [← HLW.out, ← HT.out]; exact h
      have HFIN := Lib.hid hfin
      have HB6 := Lib.hid (HB5.out.trans (hb6.mono HB5.out.size))
      clear ho6 hb6 hfin
      go_wp2
      go_ret
      exact ⟨_, _, _, rfl, HFIN.out, HB6.out⟩
end Go.Proofs.YtmdicmcmalmbaaaDoor
