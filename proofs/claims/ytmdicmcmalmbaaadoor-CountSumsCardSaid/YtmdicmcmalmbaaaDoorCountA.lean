/- The contract of count.ways. -/
import Derived.Test.YtmdicmcmalmbaaaDoorMatA
import Derived.Test.YtmdicmcmalmbaaaDoorRuleA
import Derived.IntWalk
namespace Go.Proofs.YtmdicmcmalmbaaaDoor
open Go.RowKit
set_option linter.unusedVariables false
set_option maxRecDepth 100000

/-- one place further: the windows below x -/
def stepC (k N : Nat) (fits : Nat → Bool) (at_ : Nat → Nat) (x u : Nat) : Nat := sumTo x fun w => if w / k = u ∧ fits w = true then at_ (w % N) else 0
/-- the ways of each node behind c steps, from the last of n places on -/
def wv (k N T n : Nat) (p : Nat → Nat → Bool) (E : Nat → Nat) : Nat → Nat → Nat
  | 0 => E
  | c + 1 => stepC k N (p (n - 1 - c)) (wv k N T n p E c) T
theorem stepC_succ (k N : Nat) (fits : Nat → Bool) (at_ : Nat → Nat) (x u : Nat) : stepC k N fits at_ (x + 1) u = stepC k N fits at_ x u + if x / k = u ∧ fits x = true then at_ (x % N) else 0 := rfl
theorem stepC_skip {k N : Nat} {fits : Nat → Bool} {at_ : Nat → Nat} {x : Nat} (h : fits x = false ∨ at_ (x % N) = 0) (u : Nat) : stepC k N fits at_ (x + 1) u = stepC k N fits at_ x u := by
  rw [stepC_succ]
  split
  · rename_i h1
    rcases h with h | h
    · rw [h] at h1; simp at h1
    · rw [h]; rfl
  · rfl
theorem stepC_take {k N : Nat} {fits : Nat → Bool} {at_ : Nat → Nat} {x : Nat} (h : fits x = true) (u : Nat) : upd (fun u => limbs (stepC k N fits at_ x u)) (x / k) (limbs (stepC k N fits at_ x (x / k) + at_ (x % N))) u = limbs (stepC k N fits at_ (x + 1) u) := by
  by_cases e : u = x / k
  · subst e
    rw [upd_self, stepC_succ, if_pos ⟨rfl, h⟩]
  · rw [upd_ne _ _ e, stepC_succ, if_neg fun e2 => e e2.1.symm, Nat.add_zero]
theorem stepC_lt {k N x L : Nat} {fits : Nat → Bool} {at_ : Nat → Nat} (hN : 0 < N) (hx : x ≤ 16384) (h : ∀ u, u < N → at_ u < B32 ^ L) (u : Nat) : stepC k N fits at_ x u < B32 ^ (L + 1) := by
  have h1 : stepC k N fits at_ x u ≤ x * B32 ^ L := sumTo_le fun w _ => by
    split
    · exact Nat.le_of_lt (h _ (Nat.mod_lt _ hN))
    · exact Nat.zero_le _
  have h2 : x * B32 ^ L ≤ 16384 * B32 ^ L := Nat.mul_le_mul_right _ hx
  have h3 : 0 < B32 ^ L := Nat.pow_pos (by decide)
  rw [Nat.pow_succ]
  generalize B32 ^ L = z at *
  show _ < z * 4294967296
  omega
theorem wv_lt {k N T n : Nat} {p : Nat → Nat → Bool} {E : Nat → Nat} (hN : 0 < N) (hT : T ≤ 16384) (hE : ∀ u, u < N → E u < B32) : ∀ c u, u < N → wv k N T n p E c u < B32 ^ (c + 1)
  | 0, u, hu => by rw [Nat.zero_add, Nat.pow_one]; exact hE u hu
  | c + 1, u, hu => stepC_lt hN hT (wv_lt hN hT hE c) u

def Pred2 (F : Nat) (cap : Array Value) (p : Nat → Nat → Bool) (n T : Nat) (w : World) : Prop := ∀ (W : World) (x y : Nat), Below w.heap.size w W → x < n → y < T →
  Calls Tryd.prog F (#[.int .i64 x, .int .i64 y] ++ cap) W fun e w' => e = .returned (.bool (p x y)) ∧ ∃ q, w' = W.drewN q

theorem put_add {wr w6 : World} {g N j : Nat} {its : Nat → It} {F G : Nat → List Nat} {l : List Nat} {a6 : Option Addr} {n6 c6 : Nat} (ho : OwNs wr g (.slice (some ⟨g, 0, none⟩) N N) N its F) (hj : j < N) (hb6 : Below wr.heap.size wr w6) (hu : U32 l)
    (ho6 : w6.ownsRow wr.heap.size 75 1 (.slice a6 n6 c6) n6 ((ofN l).map (Value.int .u32))) (hg : g ≤ wr.heap.size) (hG : ∀ u, u < N → upd F j l u = G u) :
    OwNs (w6.setCell ⟨g, j, none⟩ (.slice a6 n6 c6)) g (.slice (some ⟨g, 0, none⟩) N N) N (upd its j (a6, n6, c6)) G := by
  have hp : OwN w6 g (a6, n6, c6) l := OwN.base ⟨ho6, hu⟩ hg
  exact ((ho.up hb6).store hj hp fun q hq hne => ap_after (ho.num q hq).own ho6 (Nat.le_refl _)).congr hG

set_option maxHeartbeats 8000000 in
theorem ways_any (k r : Nat) (a : Option Addr) (T c n : Nat) (ae : Option Addr) (N ce : Nat) (E : Nat → Nat) (F : Nat) (cap : Array Value) (p : Nat → Nat → Bool) (W : World)
    (k1 : 1 ≤ k) (k4 : k ≤ 4) (hT : T = N * k) (hN : 0 < N) (hT4 : T ≤ 16384) (hTc : T ≤ c) (hcm : c ≤ maxLen) (hn : n ≤ 256) (hE : NsR W ae N (fun u => limbs (E u))) (hE32 : ∀ u, u < N → E u < B32)
    (hF : ∀ args w, (callFunc F args).run Tryd.prog w = .ok (.enter F args) w) (hP : Pred2 F cap p n T W) :
    Calls Tryd.prog 122 #[ruleV k r a T c, .int .i64 n, .slice ae N ce, .func (.func F) #[] cap] W fun e w' => ∃ a' c', e = .returned (.slice a' N c') ∧ NsR w' a' N (fun u => limbs (wv k N T n p E n u)) ∧ Below W.heap.size W w' := by
  have hNT : N ≤ T := by rw [hT]; exact Nat.le_mul_of_pos_right _ k1
  have HT := Lib.hid hT; clear hT
  have HP := Lib.hid hP; clear hP
  have HE32 := Lib.hid hE32; clear hE32
  have HE := Lib.hid hE; clear hE
  have hbx := balloc (bnil W) (.cells #[.int .i64 k, .int .i64 r, .slice a T c] 66)
  have HX : Hid ((W.alloc (.cells #[.int .i64 k, .int .i64 r, .slice a T c] 66)).cell? ⟨W.heap.size, 0, none⟩ = some (.int .i64 k) ∧ (W.alloc (.cells #[.int .i64 k, .int .i64 r, .slice a T c] 66)).cell? ⟨W.heap.size, 2, none⟩ = some (.slice a T c)) := ⟨by simp, by simp⟩
  have HSZ : Hid (W.heap.size < (W.alloc (.cells #[.int .i64 k, .int .i64 r, .slice a T c] 66)).heap.size) := by show _ < _; simp
  have HBX := Lib.hid hbx; clear hbx
  go_enter Tryd.func122, Tryd.ntmps122
  go_wp2_with fail
  generalize hWb : W.alloc (.cells #[.int .i64 k, .int .i64 r, .slice a T c] 66) = Wb at *
  clear hWb
  obtain ⟨gb, hgb⟩ : ∃ gb, W.heap.size = gb := ⟨_, rfl⟩
  rw [hgb] at HX HSZ
  simp only [hgb]
  have HGB := Lib.hid hgb
  clear hgb
  go_loopw [10, 11] (fun vx px wr => ∃ (s : Nat) (av : Option Addr) (cv : Nat), s ≤ n ∧ px = .int .i64 ((n : Int) - 1 - s) ∧ vx = .slice av N cv ∧ NsR wr av N (fun u => limbs (wv k N T n p E s u)) ∧ Below Wb.heap.size Wb wr) (fun _ px _ => (intOf px + 1).toNat)
  case atStart => exact ⟨0, ae, ce, by omega, by simp, rfl, HE.out.up HBX.out, bnil _⟩
  case round =>
    obtain ⟨s, av, cv, hs, rfl, rfl, hv, hb⟩ := hrel
    have HV := Lib.hid hv
    have HB := Lib.hid hb
    clear hv hb
    by_cases hsn : s < n
    · obtain ⟨pl, hpl, hpn, hple⟩ : ∃ pl : Nat, (n : Int) - 1 - s = (pl : Int) ∧ pl < n ∧ pl = n - 1 - s := ⟨n - 1 - s, by omega, by omega, rfl⟩
      rw [hpl]
      have HPL := Lib.hid hpl
      have HPLE := Lib.hid hple
      obtain ⟨A, hA⟩ : ∃ A, wv k N T n p E s = A := ⟨_, rfl⟩
      rw [hA] at HV
      have hAlt : ∀ u, u < N → A u < B32 ^ (s + 1) := by rw [← hA]; exact wv_lt hN hT4 HE32.out s
      have HA := Lib.hid hA
      have HALT := Lib.hid hAlt
      clear hpl hple hA hAlt
      have xK := (HB.out.cell (p := ⟨gb, 0, none⟩) HSZ.out).trans HX.out.1
      have xT := (HB.out.cell (p := ⟨gb, 2, none⟩) HSZ.out).trans HX.out.2
      have hcm' : c ≤ 9223372036854775807 := hcm
      go_wp2_with (first
        | (at_make; refine mk_full rfl _ _ _ rfl wr.heap.size et_nats .i64 .i64 _ _ N rfl rfl rfl rfl (by omega) (by unfold maxLen; omega) (Nat.le_refl _) ?_; intro w2 hown2 hb2 hsz2; rw [made_nats] at hown2; have H2 := Lib.hid (OwNs.made hown2); have HB2 := Lib.hid hb2; have xK2 := (hb2.cell (p := ⟨gb, 0, none⟩) (Nat.lt_of_lt_of_le HSZ.out HB.out.size)).trans xK; have xT2 := (hb2.cell (p := ⟨gb, 2, none⟩) (Nat.lt_of_lt_of_le HSZ.out HB.out.size)).trans xT; clear hown2 hb2))
      have hszr : gb < wr.heap.size := Nat.lt_of_lt_of_le HSZ.out HB.out.size
      have HSR := Lib.hid hszr
      obtain ⟨g2, hg2⟩ : ∃ g2, wr.heap.size = g2 := ⟨_, rfl⟩
      have hst : OwNs w2 g2 (.slice (some ⟨g2, 0, none⟩) N N) N (fun _ => (none, 0, 0)) (fun u => limbs (stepC k N (p pl) A 0 u)) := by rw [← hg2]; exact H2.out
      have HST := Lib.hid hst
      simp only [hg2]
      have HG2 := Lib.hid hg2
      clear hg2 hst H2 hszr hsz2
      generalize wr = wo at *
      go_loopw [29] (fun xx w3 => ∃ (x : Nat) (its : Nat → It), x ≤ T ∧ xx = .int .i64 x ∧ OwNs w3 g2 (.slice (some ⟨g2, 0, none⟩) N N) N its (fun u => limbs (stepC k N (p pl) A x u)) ∧ Below wo.heap.size wo w3) (fun xx _ => T - (intOf xx).toNat)
      case atStart => exact ⟨0, _, by omega, rfl, HST.out, HB2.out⟩
      case round =>
        clear HST HB2 xK2 xT2
        obtain ⟨x, its, hx, rfl, ho, hb⟩ := hrel
        have HO := Lib.hid ho
        have HBr := Lib.hid hb
        clear ho hb
        by_cases hxT : x < T
        · obtain ⟨j, hj, hjN, hje⟩ : ∃ j : Nat, (x : Int) % (N : Int) = (j : Int) ∧ j < N ∧ j = x % N := ⟨x % N, by simp, Nat.mod_lt _ hN, rfl⟩
          obtain ⟨d, hd, hdN, hde⟩ : ∃ d : Nat, (x : Int) / (k : Int) = (d : Int) ∧ d < N ∧ d = x / k := ⟨x / k, by simp, Nat.div_lt_of_lt_mul (by rw [Nat.mul_comm, ← HT.out]; exact hxT), rfl⟩
          obtain ⟨bv, ov, rfl, hbv, hcv⟩ := HV.out.addr hN
          obtain ⟨a3, n3, c3, y0, hy⟩ := hcv j hjN
          have y1 := (HBr.out.cell (p := ⟨bv, ov + j, none⟩) hbv).trans y0
          have n3L := hy.small (limbs_len_le (HALT.out j hjN))
          have hlen3 := hy.nr.len
          have HY := Lib.hid (hy.up HBr.out)
          have xK3 := (HBr.out.cell (p := ⟨gb, 0, none⟩) HSR.out).trans xK
          have HJE := Lib.hid hje
          have HDE := Lib.hid hde
          have HL3 := Lib.hid hlen3
          clear hcv y0 hy hje hde hlen3
          have x0 : (0 : Int) ≤ (x : Int) := by omega
          have N0 : (0 : Int) < (N : Int) := by omega
          have K0 : (0 : Int) < (k : Int) := by omega
          have j0 : (0 : Int) ≤ (j : Int) := by omega
          have j1 : (j : Int) < (N : Int) := by omega
          have d0 : (0 : Int) ≤ (d : Int) := by omega
          have d1 : (d : Int) < (N : Int) := by omega
          by_cases hz : n3 = 0
          · have hAz : A j = 0 := by
              have h0 := HL3.out
              rw [hz] at h0
              have : limbs (A j) = [] := List.eq_nil_of_length_eq_zero h0.symm
              rw [← val_limbs (A j), this]; rfl
            have hn2 := HO.out.congr (G := fun u => limbs (stepC k N (p pl) A (x + 1) u)) fun u _ => by rw [stepC_skip (.inr (by rw [← HJE.out]; exact hAz))]
            have HN2 := Lib.hid hn2
            subst hz
            clear hAz hn2
            go_wp2
            go_roundw
            case rel => exact ⟨x + 1, its, by omega, by go_num, HN2.out, HBr.out⟩
            case measure => simp [intOf]; omega
          · have hzp : 0 < n3 := by omega
            go_wp2_with fail
            refine (HP.out _ pl x ((HBX.out.trans (HB.out.mono HBX.out.size)).trans (HBr.out.mono (Nat.le_trans HBX.out.size HB.out.size))) hpn hxT).mono ?_; rintro e w4 ⟨rfl, q, rfl⟩
            have hb4 := bdrewN (bnil wr) q
            cases hp : p pl x with
            | false =>
              have hn2 := (HO.out.up hb4).congr (G := fun u => limbs (stepC k N (p pl) A (x + 1) u)) fun u _ => by rw [stepC_skip (.inl hp)]
              have HN2 := Lib.hid hn2
              have HB4 := Lib.hid (HBr.out.trans (hb4.mono HBr.out.size))
              clear hn2 hp hb4
              go_wp2
              go_roundw
              case rel => exact ⟨x + 1, its, by omega, by go_num, HN2.out, HB4.out⟩
              case measure => simp [intOf]; omega
            | true =>
              have HPX := Lib.hid hp
              clear hp
              have xK4 := (hb4.cell (p := ⟨gb, 0, none⟩) (Nat.lt_of_lt_of_le HSR.out HBr.out.size)).trans xK3
              have HO4 := Lib.hid (HO.out.up hb4)
              have HY4 := Lib.hid (HY.out.up hb4)
              have HB4 := Lib.hid (HBr.out.trans (hb4.mono HBr.out.size))
              obtain ⟨w4, hw4⟩ : ∃ w4, wr.drewN q = w4 := ⟨_, rfl⟩
              rw [hw4] at xK4 HO4 HY4 HB4
              simp only [hw4]
              clear hw4 hb4 HO HY HBr xK3 y1
              have hcell := HO4.out.row.cellAt d (by omega)
              rw [range_at _ hdN] at hcell
              have f0 := HO4.out.row.frozenAt d
              have hnk := (HO4.out.num d hdN).ns
              have hlk := hnk.small (limbs_len_le (stepC_lt hN (by omega) HALT.out d))
              obtain ⟨a5, n5, c5, hit⟩ : ∃ a5 n5 c5, its d = (a5, n5, c5) := ⟨_, _, _, rfl⟩
              rw [hit] at hcell hnk hlk
              simp only [IV] at hcell hnk hlk
              have HNK := Lib.hid hnk
              have hgl : g2 < w4.heap.size := own_lt HO4.out.row g2 rfl
              have HGL := Lib.hid hgl
              clear hnk hit hgl
              go_wp2_with fail
              have t1 : (x : Int).tdiv (k : Int) = (d : Int) := by rw [Int.tdiv_eq_ediv_of_nonneg x0]; exact hd
              have t2 : IntKind.i64.wrap (d : Int) = (d : Int) := IntWalk.i64_in _ (by omega)
              have t3 : IntKind.i64.wrap ((x : Int).tdiv (k : Int)) = (d : Int) := by rw [t1]; exact t2
              have t4 : ((k : Int) == 0) = false := by rw [beq_eq_false_iff_ne]; omega
              go_region_with (first
                | (go_at_call 44; refine (add_any a5 a3 n5 n3 c5 c3 _ _ _ (HNK.out.up (bnil _).drew).nr (HY4.out.up (bnil _).drew).nr (by omega) (by omega)).mono ?_; rintro e w6 ⟨a6, n6, c6, rfl, ho6, hv6, hb6⟩; rw [val_limbs, val_limbs] at ho6; have H6 := Lib.hid ho6; have HB6 := Lib.hid ((bnil w4).drew.trans hb6); have c6' := (hb6.cell (p := ⟨g2, d, none⟩) HGL.out).trans hcell; have f6' := (hb6.frozen (p := ⟨g2, d, none⟩) HGL.out).trans f0; have xK6 := (hb6.cell (p := ⟨gb, 0, none⟩) (Nat.lt_of_lt_of_le HSR.out HB4.out.size)).trans xK4; clear ho6 hv6 hb6))
              all_goals
                clear t1 t2 t3 t4
                have hput := put_add HO4.out hdN HB6.out (limbs_u32 _) H6.out (Nat.le_of_lt HGL.out) (G := fun u => limbs (stepC k N (p pl) A (x + 1) u)) fun u _ => by rw [HDE.out, HJE.out]; exact stepC_take HPX.out u
                have hb7 := (HB4.out.trans (HB6.out.mono HB4.out.size)).setCell (p := ⟨g2, d, none⟩) (by rw [HG2.out]; exact Nat.le_refl _) (.slice a6 n6 c6)
                have HPUT := Lib.hid hput
                have HB7 := Lib.hid hb7
                clear hput hb7 H6 HB6
                go_wp2
                go_roundw
                case rel => exact ⟨x + 1, _, by omega, by go_num, HPUT.out, HB7.out⟩
                case measure => simp [intOf]; omega
        · obtain rfl : T = x := by omega
          have hv2 : NsR wr (some ⟨g2, 0, none⟩) N (fun u => limbs (wv k N T n p E (s + 1) u)) := by
            have h := HO.out.nsR
            show NsR wr _ N (fun u => limbs (stepC k N (p (n - 1 - s)) (wv k N T n p E s) T u))
            rw [HA.out, ← HPLE.out]; exact h
          have HV2 := Lib.hid hv2
          have HB2 := Lib.hid (HB.out.trans (HBr.out.mono HB.out.size))
          have hpl1 : (pl : Int) - 1 = (n : Int) - 1 - ((s + 1 : Nat) : Int) := by have := HPL.out; omega
          have HPL1 := Lib.hid hpl1
          clear hv2 hpl1 HO
          go_wp2
          go_roundw
          case rel => exact ⟨s + 1, _, _, by omega, by rw [HPL1.out], rfl, HV2.out, HB2.out⟩
          case measure => have := HPL.out; simp [intOf]; try omega
    · obtain rfl : n = s := by omega
      have e1 : (n : Int) - 1 - n = -1 := by omega
      rw [e1]
      clear e1
      go_wp2
      go_ret
      exact ⟨_, _, rfl, HV.out, HBX.out.trans (HB.out.mono HBX.out.size)⟩
end Go.Proofs.YtmdicmcmalmbaaaDoor
