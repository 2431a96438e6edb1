/- The contract of count.ways. The contracts of nat.Sum and count.words. The contracts of count.small, symbols, Words. The contracts of count.Words and count.rings. The contracts of count.Rings and count.Fixed where nothing is refused. The contract of edenlaw17.awake. Plain: ways by a list of labels, added up over all words. Plain: rings added up over all words. Plain: ways told forward from the nodes (the document's) and backward from the ends are as many. -/
import Derived.Test.YteneiianpghalaaDoorMatA
import Derived.Test.YteneiianpghalaaDoorRuleA
import Derived.IntWalk
import Derived.Deep.QuietTactic
import Derived.BigQuiet
import Derived.Test.YteneiianpghalaaDoorMatD
namespace Go.Proofs.YteneiianpghalaaDoor
open Go.RowKit
set_option linter.unusedVariables false
set_option maxRecDepth 100000

/-- one place further: the windows below x -/
def stepC (k N : Nat) (fits : Nat → Bool) (at_ : Nat → Nat) (x u : Nat) : Nat := sumTo x fun w => if w / k = u ∧ fits w = true then at_ (w % N) else 0
/-- the ways of each node behind c steps, from the last of n places on -/
def wv (k N T n : Nat) (p : Nat → Nat → Bool) (E : Nat → Nat) : Nat → Nat → Nat
  | 0 => E
  | c + 1 => stepC k N (p (n - 1 - c)) (wv k N T n p E c) T
theorem stepC_succ (k N : Nat) (fits : Nat → Bool) (at_ : Nat → Nat) (x u : Nat) : stepC k N fits at_ (x + 1) u = stepC k N fits at_ x u + if x / k = u ∧ fits x = true then at_ (x % N) else 0 := rfl
theorem stepC_skip {k N : Nat} {fits : Nat → Bool} {at_ : Nat → Nat} {x : Nat} (h : fits x = false ∨ at_ (x % N) = 0) (u : Nat) : stepC k N fits at_ (x + 1) u = stepC k N fits at_ x u := by
  rw [stepC_succ]
  split
  · rename_i h1
    rcases h with h | h
    · rw [h] at h1; simp at h1
    · rw [h]; rfl
  · rfl
theorem stepC_take {k N : Nat} {fits : Nat → Bool} {at_ : Nat → Nat} {x : Nat} (h : fits x = true) (u : Nat) : upd (fun u => limbs (stepC k N fits at_ x u)) (x / k) (limbs (stepC k N fits at_ x (x / k) + at_ (x % N))) u = limbs (stepC k N fits at_ (x + 1) u) := by
  by_cases e : u = x / k
  · subst e
    rw [upd_self, stepC_succ, if_pos ⟨rfl, h⟩]
  · rw [upd_ne _ _ e, stepC_succ, if_neg fun e2 => e e2.1.symm, Nat.add_zero]
theorem stepC_lt {k N x L : Nat} {fits : Nat → Bool} {at_ : Nat → Nat} (hN : 0 < N) (hx : x ≤ 16384) (h : ∀ u, u < N → at_ u < B32 ^ L) (u : Nat) : stepC k N fits at_ x u < B32 ^ (L + 1) := by
  have h1 : stepC k N fits at_ x u ≤ x * B32 ^ L := sumTo_le fun w _ => by
    split
    · exact Nat.le_of_lt (h _ (Nat.mod_lt _ hN))
    · exact Nat.zero_le _
  have h2 : x * B32 ^ L ≤ 16384 * B32 ^ L := Nat.mul_le_mul_right _ hx
  have h3 : 0 < B32 ^ L := Nat.pow_pos (by decide)
  rw [Nat.pow_succ]
  generalize B32 ^ L = z at *
  show _ < z * 4294967296
  omega
theorem wv_lt {k N T n : Nat} {p : Nat → Nat → Bool} {E : Nat → Nat} (hN : 0 < N) (hT : T ≤ 16384) (hE : ∀ u, u < N → E u < B32) : ∀ c u, u < N → wv k N T n p E c u < B32 ^ (c + 1)
  | 0, u, hu => by rw [Nat.zero_add, Nat.pow_one]; exact hE u hu
  | c + 1, u, hu => stepC_lt hN hT (wv_lt hN hT hE c) u

def Pred2 (F : Nat) (cap : Array Value) (p : Nat → Nat → Bool) (n T : Nat) (w : World) : Prop := ∀ (W : World) (x y : Nat), Below w.heap.size w W → x < n → y < T →
  Calls Tryd.prog F (#[.int .i64 x, .int .i64 y] ++ cap) W fun e w' => e = .returned (.bool (p x y)) ∧ ∃ q, w' = W.drewN q

theorem put_add {wr w6 : World} {g N j : Nat} {its : Nat → It} {F G : Nat → List Nat} {l : List Nat} {a6 : Option Addr} {n6 c6 : Nat} (ho : OwNs wr g (.slice (some ⟨g, 0, none⟩) N N) N its F) (hj : j < N) (hb6 : Below wr.heap.size wr w6) (hu : U32 l)
    (ho6 : w6.ownsRow wr.heap.size 95 1 (.slice a6 n6 c6) n6 ((ofN l).map (Value.int .u32))) (hg : g ≤ wr.heap.size) (hG : ∀ u, u < N → upd F j l u = G u) :
    OwNs (w6.setCell ⟨g, j, none⟩ (.slice a6 n6 c6)) g (.slice (some ⟨g, 0, none⟩) N N) N (upd its j (a6, n6, c6)) G := by
  have hp : OwN w6 g (a6, n6, c6) l := OwN.base ⟨ho6, hu⟩ hg
  exact ((ho.up hb6).store hj hp fun q hq hne => ap_after (ho.num q hq).own ho6 (Nat.le_refl _)).congr hG

set_option maxHeartbeats 8000000 in
theorem ways_any (k r : Nat) (a : Option Addr) (T c n : Nat) (ae : Option Addr) (N ce : Nat) (E : Nat → Nat) (F : Nat) (cap : Array Value) (p : Nat → Nat → Bool) (W : World)
    (k1 : 1 ≤ k) (k4 : k ≤ 4) (hT : T = N * k) (hN : 0 < N) (hT4 : T ≤ 16384) (hTc : T ≤ c) (hcm : c ≤ maxLen) (hn : n ≤ 256) (hE : NsR W ae N (fun u => limbs (E u))) (hE32 : ∀ u, u < N → E u < B32)
    (hF : ∀ args w, (callFunc F args).run Tryd.prog w = .ok (.enter F args) w) (hP : Pred2 F cap p n T W) :
    Calls Tryd.prog 121 #[ruleV k r a T c, .int .i64 n, .slice ae N ce, .func (.func F) #[] cap] W fun e w' => ∃ a' c', e = .returned (.slice a' N c') ∧ NsR w' a' N (fun u => limbs (wv k N T n p E n u)) ∧ Below W.heap.size W w' := by
  have hNT : N ≤ T := by rw [hT]; exact Nat.le_mul_of_pos_right _ k1
  have HT := Lib.hid hT; clear hT
  have HP := Lib.hid hP; clear hP
  have HE32 := Lib.hid hE32; clear hE32
  have HE := Lib.hid hE; clear hE
  have hbx := balloc (bnil W) (.cells #[.int .i64 k, .int .i64 r, .slice a T c] 24)
  have HX : Hid ((W.alloc (.cells #[.int .i64 k, .int .i64 r, .slice a T c] 24)).cell? ⟨W.heap.size, 0, none⟩ = some (.int .i64 k) ∧ (W.alloc (.cells #[.int .i64 k, .int .i64 r, .slice a T c] 24)).cell? ⟨W.heap.size, 2, none⟩ = some (.slice a T c)) := ⟨by simp, by simp⟩
  have HSZ : Hid (W.heap.size < (W.alloc (.cells #[.int .i64 k, .int .i64 r, .slice a T c] 24)).heap.size) := by show _ < _; simp
  have HBX := Lib.hid hbx; clear hbx
  go_enter Tryd.func121, Tryd.ntmps121
  go_wp2_with fail
  generalize hWb : W.alloc (.cells #[.int .i64 k, .int .i64 r, .slice a T c] 24) = Wb at *
  clear hWb
  obtain ⟨gb, hgb⟩ : ∃ gb, W.heap.size = gb := ⟨_, rfl⟩
  rw [hgb] at HX HSZ
  simp only [hgb]
  have HGB := Lib.hid hgb
  clear hgb
  go_loopw [10, 11] (fun vx px wr => ∃ (s : Nat) (av : Option Addr) (cv : Nat), s ≤ n ∧ px = .int .i64 ((n : Int) - 1 - s) ∧ vx = .slice av N cv ∧ NsR wr av N (fun u => limbs (wv k N T n p E s u)) ∧ Below Wb.heap.size Wb wr) (fun _ px _ => (intOf px + 1).toNat)
  case atStart => exact ⟨0, ae, ce, by omega, by simp, rfl, HE.out.up HBX.out, bnil _⟩
  case round =>
    obtain ⟨s, av, cv, hs, rfl, rfl, hv, hb⟩ := hrel
    have HV := Lib.hid hv
    have HB := Lib.hid hb
    clear hv hb
    by_cases hsn : s < n
    · obtain ⟨pl, hpl, hpn, hple⟩ : ∃ pl : Nat, (n : Int) - 1 - s = (pl : Int) ∧ pl < n ∧ pl = n - 1 - s := ⟨n - 1 - s, by omega, by omega, rfl⟩
      rw [hpl]
      have HPL := Lib.hid hpl
      have HPLE := Lib.hid hple
      obtain ⟨A, hA⟩ : ∃ A, wv k N T n p E s = A := ⟨_, rfl⟩
      rw [hA] at HV
      have hAlt : ∀ u, u < N → A u < B32 ^ (s + 1) := by rw [← hA]; exact wv_lt hN hT4 HE32.out s
      have HA := Lib.hid hA
      have HALT := Lib.hid hAlt
      clear hpl hple hA hAlt
      have xK := (HB.out.cell (p := ⟨gb, 0, none⟩) HSZ.out).trans HX.out.1
      have xT := (HB.out.cell (p := ⟨gb, 2, none⟩) HSZ.out).trans HX.out.2
      have hcm' : c ≤ 9223372036854775807 := hcm
      go_wp2_with (first
        | (at_make; refine mk_full rfl _ _ _ rfl wr.heap.size et_nats .i64 .i64 _ _ N rfl rfl rfl rfl (by omega) (by unfold maxLen; omega) (Nat.le_refl _) ?_; intro w2 hown2 hb2 hsz2; rw [made_nats] at hown2; have H2 := Lib.hid (OwNs.made hown2); have HB2 := Lib.hid hb2; have xK2 := (hb2.cell (p := ⟨gb, 0, none⟩) (Nat.lt_of_lt_of_le HSZ.out HB.out.size)).trans xK; have xT2 := (hb2.cell (p := ⟨gb, 2, none⟩) (Nat.lt_of_lt_of_le HSZ.out HB.out.size)).trans xT; clear hown2 hb2))
      have hszr : gb < wr.heap.size := Nat.lt_of_lt_of_le HSZ.out HB.out.size
      have HSR := Lib.hid hszr
      obtain ⟨g2, hg2⟩ : ∃ g2, wr.heap.size = g2 := ⟨_, rfl⟩
      have hst : OwNs w2 g2 (.slice (some ⟨g2, 0, none⟩) N N) N (fun _ => (none, 0, 0)) (fun u => limbs (stepC k N (p pl) A 0 u)) := by rw [← hg2]; exact H2.out
      have HST := Lib.hid hst
      simp only [hg2]
      have HG2 := Lib.hid hg2
      clear hg2 hst H2 hszr hsz2
      generalize wr = wo at *
      go_loopw [29] (fun xx w3 => ∃ (x : Nat) (its : Nat → It), x ≤ T ∧ xx = .int .i64 x ∧ OwNs w3 g2 (.slice (some ⟨g2, 0, none⟩) N N) N its (fun u => limbs (stepC k N (p pl) A x u)) ∧ Below wo.heap.size wo w3) (fun xx _ => T - (intOf xx).toNat)
      case atStart => exact ⟨0, _, by omega, rfl, HST.out, HB2.out⟩
      case round =>
        clear HST HB2 xK2 xT2
        obtain ⟨x, its, hx, rfl, ho, hb⟩ := hrel
        have HO := Lib.hid ho
        have HBr := Lib.hid hb
        clear ho hb
        by_cases hxT : x < T
        · obtain ⟨j, hj, hjN, hje⟩ : ∃ j : Nat, (x : Int) % (N : Int) = (j : Int) ∧ j < N ∧ j = x % N := ⟨x % N, by simp, Nat.mod_lt _ hN, rfl⟩
          obtain ⟨d, hd, hdN, hde⟩ : ∃ d : Nat, (x : Int) / (k : Int) = (d : Int) ∧ d < N ∧ d = x / k := ⟨x / k, by simp, Nat.div_lt_of_lt_mul (by rw [Nat.mul_comm, ← HT.out]; exact hxT), rfl⟩
          obtain ⟨bv, ov, rfl, hbv, hcv⟩ := HV.out.addr hN
          obtain ⟨a3, n3, c3, y0, hy⟩ := hcv j hjN
          have y1 := (HBr.out.cell (p := ⟨bv, ov + j, none⟩) hbv).trans y0
          have n3L := hy.small (limbs_len_le (HALT.out j hjN))
          have hlen3 := hy.nr.len
          have HY := Lib.hid (hy.up HBr.out)
          have xK3 := (HBr.out.cell (p := ⟨gb, 0, none⟩) HSR.out).trans xK
          have HJE := Lib.hid hje
          have HDE := Lib.hid hde
          have HL3 := Lib.hid hlen3
          clear hcv y0 hy hje hde hlen3
          have x0 : (0 : Int) ≤ (x : Int) := by omega
          have N0 : (0 : Int) < (N : Int) := by omega
          have K0 : (0 : Int) < (k : Int) := by omega
          have j0 : (0 : Int) ≤ (j : Int) := by omega
          have j1 : (j : Int) < (N : Int) := by omega
          have d0 : (0 : Int) ≤ (d : Int) := by omega
          have d1 : (d : Int) < (N : Int) := by omega
          by_cases hz : n3 = 0
          · have hAz : A j = 0 := by
              have h0 := HL3.out
              rw [hz] at h0
              have : limbs (A j) = [] := List.eq_nil_of_length_eq_zero h0.symm
              rw [← val_limbs (A j), this]; rfl
            have hn2 := HO.out.congr (G := fun u => limbs (stepC k N (p pl) A (x + 1) u)) fun u _ => by rw [stepC_skip (.inr (by rw [← HJE.out]; exact hAz))]
            have HN2 := Lib.hid hn2
            subst hz
            clear hAz hn2
            go_wp2
            go_roundw
            case rel => exact ⟨x + 1, its, by omega, by go_num, HN2.out, HBr.out⟩
            case measure => simp [intOf]; omega
          · have hzp : 0 < n3 := by omega
            go_wp2_with fail
            refine (HP.out _ pl x ((HBX.out.trans (HB.out.mono HBX.out.size)).trans (HBr.out.mono (Nat.le_trans HBX.out.size HB.out.size))) hpn hxT).mono ?_; rintro e w4 ⟨rfl, q, rfl⟩
            have hb4 := bdrewN (bnil wr) q
            cases hp : p pl x with
            | false =>
              have hn2 := (HO.out.up hb4).congr (G := fun u => limbs (stepC k N (p pl) A (x + 1) u)) fun u _ => by rw [stepC_skip (.inl hp)]
              have HN2 := Lib.hid hn2
              have HB4 := Lib.hid (HBr.out.trans (hb4.mono HBr.out.size))
              clear hn2 hp hb4
              go_wp2
              go_roundw
              case rel => exact ⟨x + 1, its, by omega, by go_num, HN2.out, HB4.out⟩
              case measure => simp [intOf]; omega
            | true =>
              have HPX := Lib.hid hp
              clear hp
              have xK4 := (hb4.cell (p := ⟨gb, 0, none⟩) (Nat.lt_of_lt_of_le HSR.out HBr.out.size)).trans xK3
              have HO4 := Lib.hid (HO.out.up hb4)
              have HY4 := Lib.hid (HY.out.up hb4)
              have HB4 := Lib.hid (HBr.out.trans (hb4.mono HBr.out.size))
              obtain ⟨w4, hw4⟩ : ∃ w4, wr.drewN q = w4 := ⟨_, rfl⟩
              rw [hw4] at xK4 HO4 HY4 HB4
              simp only [hw4]
              clear hw4 hb4 HO HY HBr xK3 y1
              have hcell := HO4.out.row.cellAt d (by omega)
              rw [range_at _ hdN] at hcell
              have f0 := HO4.out.row.frozenAt d
              have hnk := (HO4.out.num d hdN).ns
              have hlk := hnk.small (limbs_len_le (stepC_lt hN (by omega) HALT.out d))
              obtain ⟨a5, n5, c5, hit⟩ : ∃ a5 n5 c5, its d = (a5, n5, c5) := ⟨_, _, _, rfl⟩
              rw [hit] at hcell hnk hlk
              simp only [IV] at hcell hnk hlk
              have HNK := Lib.hid hnk
              have hgl : g2 < w4.heap.size := own_lt HO4.out.row g2 rfl
              have HGL := Lib.hid hgl
              clear hnk hit hgl
              go_wp2_with fail
              have t1 : (x : Int).tdiv (k : Int) = (d : Int) := by rw [Int.tdiv_eq_ediv_of_nonneg x0]; exact hd
              have t2 : IntKind.i64.wrap (d : Int) = (d : Int) := IntWalk.i64_in _ (by omega)
              have t3 : IntKind.i64.wrap ((x : Int).tdiv (k : Int)) = (d : Int) := by rw [t1]; exact t2
              have t4 : ((k : Int) == 0) = false := by rw [beq_eq_false_iff_ne]; omega
              go_region_with (first
                | (go_at_call 71; refine (add_any a5 a3 n5 n3 c5 c3 _ _ _ (HNK.out.up (bnil _).drew).nr (HY4.out.up (bnil _).drew).nr (by omega) (by omega)).mono ?_; rintro e w6 ⟨a6, n6, c6, rfl, ho6, hv6, hb6⟩; rw [val_limbs, val_limbs] at ho6; have H6 := Lib.hid ho6; have HB6 := Lib.hid ((bnil w4).drew.trans hb6); have c6' := (hb6.cell (p := ⟨g2, d, none⟩) HGL.out).trans hcell; have f6' := (hb6.frozen (p := ⟨g2, d, none⟩) HGL.out).trans f0; have xK6 := (hb6.cell (p := ⟨gb, 0, none⟩) (Nat.lt_of_lt_of_le HSR.out HB4.out.size)).trans xK4; clear ho6 hv6 hb6))
              all_goals
                clear t1 t2 t3 t4
                have hput := put_add HO4.out hdN HB6.out (limbs_u32 _) H6.out (Nat.le_of_lt HGL.out) (G := fun u => limbs (stepC k N (p pl) A (x + 1) u)) fun u _ => by rw [HDE.out, HJE.out]; exact stepC_take HPX.out u
                have hb7 := (HB4.out.trans (HB6.out.mono HB4.out.size)).setCell (p := ⟨g2, d, none⟩) (by rw [HG2.out]; exact Nat.le_refl _) (.slice a6 n6 c6)
                have HPUT := Lib.hid hput
                have HB7 := Lib.hid hb7
                clear hput hb7 H6 HB6
                go_wp2
                go_roundw
                case rel => exact ⟨x + 1, _, by omega, by go_num, HPUT.out, HB7.out⟩
                case measure => simp [intOf]; omega
        · obtain rfl : T = x := by omega
          have hv2 : NsR wr (some ⟨g2, 0, none⟩) N (fun u => limbs (wv k N T n p E (s + 1) u)) := by
            have h := HO.out.nsR
            show NsR wr _ N (fun u => limbs (stepC k N (p (n - 1 - s)) (wv k N T n p E s) T u))
            rw [HA.out, ← HPLE.out]; exact h
          have HV2 := Lib.hid hv2
          have HB2 := Lib.hid (HB.out.trans (HBr.out.mono HB.out.size))
          have hpl1 : (pl : Int) - 1 = (n : Int) - 1 - ((s + 1 : Nat) : Int) := by have := HPL.out; omega
          have HPL1 := Lib.hid hpl1
          clear hv2 hpl1 HO
          go_wp2
          go_roundw
          case rel => exact ⟨s + 1, _, _, by omega, by rw [HPL1.out], rfl, HV2.out, HB2.out⟩
          case measure => have := HPL.out; simp [intOf]; try omega
    · obtain rfl : n = s := by omega
      have e1 : (n : Int) - 1 - n = -1 := by omega
      rw [e1]
      clear e1
      go_wp2
      go_ret
      exact ⟨_, _, rfl, HV.out, HBX.out.trans (HB.out.mono HBX.out.size)⟩
end Go.Proofs.YteneiianpghalaaDoor
namespace Go.Proofs.YteneiianpghalaaDoor
open Go.RowKit
set_option linter.unusedVariables false
set_option maxRecDepth 100000

theorem sum_len {n i L : Nat} {f : Nat → Nat} (hn : n ≤ 16384) (hi : i ≤ n) (h : ∀ j, j < n → f j < B32 ^ L) : (limbs (sumTo i f)).length ≤ L + 1 := by
  refine limbs_len_le ?_
  have h1 : sumTo i f ≤ i * B32 ^ L := sumTo_le fun k hk => Nat.le_of_lt (h k (by omega))
  have h2 : i * B32 ^ L ≤ 16384 * B32 ^ L := Nat.mul_le_mul_right _ (by omega)
  have h4 : 0 < B32 ^ L := Nat.pow_pos (by decide)
  rw [Nat.pow_succ]
  generalize B32 ^ L = z at *
  show _ < z * 4294967296
  omega

set_option maxHeartbeats 4000000 in
theorem natSum_any (a : Option Addr) (n c L : Nat) (f : Nat → Nat) (W : World) (hM : NsR W a n (fun u => limbs (f u))) (hn : n ≤ 16384) (hL : L ≤ 100000) (hf : ∀ j, j < n → f j < B32 ^ L) :
    Calls Tryd.prog 120 #[.slice a n c] W fun e w' => ∃ a' n' c', e = .returned (.slice a' n' c') ∧ OwN w' W.heap.size (a', n', c') (limbs (sumTo n f)) ∧ Below W.heap.size W w' := by
  have HF := Lib.hid hf; clear hf
  have HM := Lib.hid hM; clear hM
  go_enter Tryd.func120, Tryd.ntmps120
  go_wp2_with fail
  go_loopw [3, 8] (fun sx ix wr => ∃ (i : Nat) (a1 : Option Addr) (n1 c1 : Nat), i ≤ n ∧ ix = .int .i64 i ∧ sx = .slice a1 n1 c1 ∧ OwN wr W.heap.size (a1, n1, c1) (limbs (sumTo i f)) ∧ Below W.heap.size W wr) (fun _ ix _ => n - (intOf ix).toNat)
  case atStart => exact ⟨0, none, 0, 0, by omega, rfl, rfl, OwN.nil _ _, bnil _⟩
  case round =>
    obtain ⟨i, a1, n1, c1, hi, rfl, rfl, ho, hb⟩ := hrel
    have HO := Lib.hid ho
    have HB := Lib.hid hb
    have hsm := ho.ns.small (sum_len hn hi HF.out)
    simp only at hsm
    clear ho hb
    by_cases hin : i < n
    · obtain ⟨b, o, rfl, hbl, hc⟩ := HM.out.addr (by omega)
      obtain ⟨a4, n4, c4, y0, hx⟩ := hc i hin
      have y1 := (HB.out.cell (p := ⟨b, o + i, none⟩) hbl).trans y0
      have n4L := hx.small (limbs_len_le (HF.out i hin))
      have HX := Lib.hid (hx.up HB.out)
      clear hc y0 hx
      have i0 : (0 : Int) ≤ (i : Int) := by omega
      have i1 : (i : Int) < (n : Int) := by omega
      go_wp2_with fail
      refine (add_any a1 a4 n1 n4 c1 c4 _ _ _ HO.out.ns.nr HX.out.nr (by omega) (by omega)).mono ?_; rintro e w5 ⟨a5, n5, c5, rfl, ho5, hv5, hb5⟩
      rw [val_limbs, val_limbs] at ho5
      have HO5 : Hid (OwN w5 W.heap.size (a5, n5, c5) (limbs (sumTo (i + 1) f))) := OwN.base ⟨ho5, limbs_u32 _⟩ HB.out.size
      have HB5 := Lib.hid (HB.out.trans (hb5.mono HB.out.size))
      clear ho5 hv5 hb5
      go_wp2
      go_roundw
      case rel => exact ⟨i + 1, _, _, _, by omega, by go_num, rfl, HO5.out, HB5.out⟩
      case measure => simp [intOf]; omega
    · obtain rfl : n = i := by omega
      go_wp2
      go_ret
      exact ⟨_, _, _, rfl, HO.out, HB.out⟩

/-- the window makes the symbol -/
def fitW (tb wl : List Int) (x y : Nat) : Bool := decide (tb.getD y 0 = wl.getD x 0)
set_option maxHeartbeats 1000000 in
theorem words_pred (k r : Int) (a aw : Option Addr) (T c n cw : Nat) (tb wl : List Int) (gb gw : Nat) (w : World) (hT : RK .i64 w a T tb) (hW : RK .i64 w aw n wl) (h0 : gb < w.heap.size) (h1 : gw < w.heap.size) (h2 : w.cell? ⟨gb, 2, none⟩ = some (.slice a T c)) (h3 : w.cell? ⟨gw, 0, none⟩ = some (.slice aw n cw)) :
    Pred2 122 #[.pointer (some ⟨gb, 0, none⟩), .pointer (some ⟨gw, 0, none⟩)] (fitW tb wl) n T w := by
  intro W x y hb hx hy
  have x2 := (hb.cell (p := ⟨gb, 2, none⟩) h0).trans h2
  have x3 := (hb.cell (p := ⟨gw, 0, none⟩) h1).trans h3
  obtain ⟨b1, o1, rfl, _, hc1⟩ := (hT.up hb).addr (by omega)
  obtain ⟨b2, o2, rfl, _, hc2⟩ := (hW.up hb).addr (by omega)
  have y1 := hc1 y hy
  have y2 := hc2 x hx
  have e : fitW tb wl x y = decide (tb.getD y 0 = wl.getD x 0) := rfl
  rw [e]
  clear hc1 hc2 h2 h3 hT hW e hb
  generalize tb.getD y 0 = u at *
  generalize wl.getD x 0 = v at *
  have i0 : (0 : Int) ≤ (x : Int) := by omega
  have i1 : (x : Int) < (n : Int) := by omega
  have j0 : (0 : Int) ≤ (y : Int) := by omega
  have j1 : (y : Int) < (T : Int) := by omega
  show Calls Tryd.prog 122 #[.int .i64 x, .int .i64 y, .pointer (some ⟨gb, 0, none⟩), .pointer (some ⟨gw, 0, none⟩)] W _
  go_enter Tryd.func122, Tryd.ntmps122
  go_wp2_with fail
  go_quiet (fail)
  go_wp2
  go_ret
  exact ⟨by first | rfl | simp, nq, rfl⟩

/-- a row of ones, i of them there -/
def onesF (i : Nat) : Nat → List Nat := fun u => if u < i then [1] else []
theorem onesF_upd (i u : Nat) : upd (onesF i) i [1] u = onesF (i + 1) u := by
  by_cases e : u = i
  · subst e; rw [upd_self]; simp [onesF]
  · rw [upd_ne _ _ e]
    unfold onesF
    by_cases e2 : u < i
    · rw [if_pos e2, if_pos (by omega)]
    · rw [if_neg e2, if_neg (by omega)]
/-- how many preimages a word has -/
def wordsC (k N : Nat) (tb wl : List Int) : Nat := sumTo N (wv k N (N * k) wl.length (fitW tb wl) (fun _ => 1) wl.length)

set_option maxHeartbeats 8000000 in
theorem words_any (k r : Nat) (a aw : Option Addr) (T c n cw N : Nat) (tb wl : List Int) (W : World) (k1 : 1 ≤ k) (k4 : k ≤ 4) (hT : T = N * k) (hN : 0 < N) (hT4 : T ≤ 16384) (hTc : T ≤ c) (hcm : c ≤ maxLen) (hn : n ≤ 256) (hR : RK .i64 W a T tb) (hW : RK .i64 W aw n wl) :
    Calls Tryd.prog 58 #[ruleV k r a T c, .slice aw n cw] W fun e w' => ∃ a' n' c', e = .returned (.slice a' n' c') ∧ OwN w' W.heap.size (a', n', c') (limbs (wordsC k N tb wl)) ∧ Below W.heap.size W w' := by
  have hNT : N ≤ T := by rw [hT]; exact Nat.le_mul_of_pos_right _ k1
  have hcm' : c ≤ 9223372036854775807 := hcm
  have hdiv : (T : Int) / (k : Int) = (N : Int) := by
    rw [hT, Int.natCast_mul]
    exact Int.mul_ediv_cancel _ (by omega)
  have HLW := Lib.hid hW.len
  have HT := Lib.hid hT; clear hT
  have HR := Lib.hid hR; clear hR
  have HW := Lib.hid hW; clear hW
  have K0 : (0 : Int) < (k : Int) := by omega
  have T0 : (0 : Int) ≤ (T : Int) := by omega
  obtain ⟨Wb, hWb⟩ : ∃ Wb, (W.alloc (.cells #[.int .i64 k, .int .i64 r, .slice a T c] 24)).alloc (.cells #[.slice aw n cw] 22) = Wb := ⟨_, rfl⟩
  have HX : Hid (Wb.cell? ⟨W.heap.size, 0, none⟩ = some (.int .i64 k) ∧ Wb.cell? ⟨W.heap.size, 1, none⟩ = some (.int .i64 r) ∧ Wb.cell? ⟨W.heap.size, 2, none⟩ = some (.slice a T c) ∧ Wb.cell? ⟨W.heap.size + 1, 0, none⟩ = some (.slice aw n cw)) := by rw [← hWb]; exact ⟨by simp, by simp, by simp, by simp⟩
  have HSZ : Hid (Wb.heap.size = W.heap.size + 2) := by show _ = _; rw [← hWb]; simp
  have HBX : Hid (Below W.heap.size W Wb) := by rw [← hWb]; exact balloc (balloc (bnil W) _) _
  have HWB := Lib.hid hWb; clear hWb
  have eg : ∀ args w, (callFunc 122 args).run Tryd.prog w = .ok (.enter 122 args) w := enters_of Tryd.func122 (by kernel_rfl) rfl
  have EG := Lib.hid eg; clear eg
  have hmf : ∀ (fn : Fn) (first cap : Array Value) (w : World), (Instr.makeFunc fn first cap).run Tryd.prog w = .ok (.func fn first cap) w := fun _ _ _ _ => rfl
  go_enter Tryd.func58, Tryd.ntmps58
  go_wp2_with (first
    | (at_make; rw [HWB.out]; refine mk_full rfl _ _ _ rfl Wb.heap.size et_nats .i64 .i64 _ _ N rfl rfl rfl rfl (by omega) (by unfold maxLen; omega) (Nat.le_refl _) ?_; intro w1 hown1 hb1 hsz1; rw [made_nats] at hown1; have HST := Lib.hid ((OwNs.made hown1).congr (G := onesF 0) fun u _ => by simp [onesF]); have HB1 := Lib.hid hb1; clear hown1 hb1 hsz1))
  obtain ⟨g, hg⟩ : ∃ g, Wb.heap.size = g := ⟨_, rfl⟩
  have HGS := Lib.hid hg
  rw [hg] at HST
  simp only [hg]
  clear hg
  go_loopw [16] (fun ix wr => ∃ (i : Nat) (its : Nat → It), i ≤ N ∧ ix = .int .i64 i ∧ OwNs wr g (.slice (some ⟨g, 0, none⟩) N N) N its (onesF i) ∧ Below Wb.heap.size Wb wr) (fun ix _ => N - (intOf ix).toNat)
  case atStart => exact ⟨0, _, by omega, rfl, HST.out, HB1.out⟩
  case round =>
    clear HST HB1
    obtain ⟨i, its, hi, rfl, ho, hb⟩ := hrel
    have HO := Lib.hid ho
    have HB := Lib.hid hb
    clear ho hb
    by_cases hin : i < N
    · have hcell := HO.out.row.cellAt i (by omega)
      rw [range_at _ hin] at hcell
      obtain ⟨u, hu⟩ : ∃ u, wr.cell? ⟨g, i, none⟩ = some u := ⟨_, hcell⟩
      have f0 := HO.out.row.frozenAt i
      have hgl : g < wr.heap.size := own_lt HO.out.row g rfl
      have HGL := Lib.hid hgl
      clear hcell hgl
      have i0 : (0 : Int) ≤ (i : Int) := by omega
      have i1 : (i : Int) < (N : Int) := by omega
      go_wp2_with fail
      refine (from_any 1 _ (by omega)).mono ?_; rintro e w4 ⟨n4, rfl, ho4, hv4, hb4⟩
      have u4 := (hb4.cell (p := ⟨g, i, none⟩) HGL.out).trans hu
      have f4 := (hb4.frozen (p := ⟨g, i, none⟩) HGL.out).trans f0
      have hput := put_add HO.out hin hb4 (limbs_u32 1) ho4 (Nat.le_of_lt HGL.out) (G := onesF (i + 1)) fun u _ => onesF_upd i u
      have hb5 := (HB.out.trans (hb4.mono HB.out.size)).setCell (p := ⟨g, i, none⟩) (by rw [HGS.out]; exact Nat.le_refl _) (.slice (some ⟨wr.heap.size, 0, none⟩) n4 2)
      have HPUT := Lib.hid hput
      have HB5 := Lib.hid hb5
      clear hput hb5 ho4 hv4 hb4
      go_wp2
      go_roundw
      case rel => exact ⟨i + 1, _, by omega, by go_num, HPUT.out, HB5.out⟩
      case measure => simp [intOf]; omega
    · obtain rfl : N = i := by omega
      have hE : NsR wr (some ⟨g, 0, none⟩) N (fun u => limbs 1) := (HO.out.congr (G := fun u => limbs 1) fun u hu => by unfold onesF; rw [if_pos hu]; rfl).nsR
      have hWr := HBX.out.trans (HB.out.mono HBX.out.size)
      have c0 := (HB.out.cell (p := ⟨W.heap.size, 0, none⟩) (by rw [HSZ.out]; simp)).trans HX.out.1
      have c1 := (HB.out.cell (p := ⟨W.heap.size, 1, none⟩) (by rw [HSZ.out]; simp)).trans HX.out.2.1
      have c2 := (HB.out.cell (p := ⟨W.heap.size, 2, none⟩) (by rw [HSZ.out]; simp)).trans HX.out.2.2.1
      have c3 := (HB.out.cell (p := ⟨W.heap.size + 1, 0, none⟩) (by rw [HSZ.out]; simp)).trans HX.out.2.2.2
      have hsz := HB.out.size
      have hszb := HSZ.out
      have hPr := words_pred k r a aw T c n cw tb wl W.heap.size (W.heap.size + 1) wr (HR.out.up hWr) (HW.out.up hWr) (by omega) (by omega) c2 c3
      have HPR := Lib.hid hPr
      have HE := Lib.hid hE
      have HWr := Lib.hid hWr
      clear hPr hE hWr hsz hszb
      have eg2 := EG.out
      go_wp2_with fail
      refine (ways_any k r a T c n (some ⟨g, 0, none⟩) N N (fun _ => 1) 122 _ (fitW tb wl) _ k1 k4 HT.out hN hT4 hTc hcm hn HE.out (fun _ _ => by decide) EG.out HPR.out).mono ?_; rintro e w5 ⟨a5, c5, rfl, hv5, hb5⟩
      have hlt : ∀ u, u < N → wv k N T n (fitW tb wl) (fun _ => 1) n u < B32 ^ (n + 1) := wv_lt hN hT4 (fun _ _ => by decide) n
      have HV5 := Lib.hid hv5
      have HLT := Lib.hid hlt
      have HB5 := Lib.hid (HWr.out.trans (hb5.mono HWr.out.size))
      clear hv5 hlt hb5
      go_wp2_with fail
      refine (natSum_any a5 N c5 (n + 1) _ _ HV5.out (by omega) (by omega) HLT.out).mono ?_; rintro e w6 ⟨a6, n6, c6, rfl, ho6, hb6⟩
      have hfin : OwN w6 W.heap.size (a6, n6, c6) (limbs (wordsC k N tb wl)) := by
        have h := OwN.base (b' := W.heap.size) ho6 HB5.out.size
        unfold wordsC
        rw [← HLW.out, ← HT.out]; exact h
      have HFIN := Lib.hid hfin
      have HB6 := Lib.hid (HB5.out.trans (hb6.mono HB5.out.size))
      clear ho6 hb6 hfin
      go_wp2
      go_ret
      exact ⟨_, _, _, rfl, HFIN.out, HB6.out⟩
end Go.Proofs.YteneiianpghalaaDoor
namespace Go.Proofs.YteneiianpghalaaDoor
open Go.RowKit
set_option linter.unusedVariables false
set_option maxRecDepth 100000

theorem under_nil (op : ByteArray) (at_ : Int) (w : World) : Calls Tryd.prog 89 #[.string op, .int .i64 at_, .nilIface] w fun e w' => e = .returned .nilIface ∧ w = w' := by
  go_enter Tryd.func89, Tryd.ntmps89
  go_wp2
  go_ret
  exact ⟨rfl, rfl⟩
theorem under_some (op : ByteArray) (at_ : Int) (t : TypeId) (p : Value) (w : World) : Calls Tryd.prog 89 #[.string op, .int .i64 at_, .iface t p] w fun e w' => ∃ g, e = .returned (.iface 120 (.pointer (some ⟨g, 0, none⟩))) ∧ Below w.heap.size w w' := by
  go_enter Tryd.func89, Tryd.ntmps89
  go_wp2
  go_ret
  exact ⟨_, rfl, balloc (bnil w) _⟩
/-- an error -/
def ErrOne (W : World) (e : Ending) (w' : World) : Prop := ∃ g, e = .returned (.iface 120 (.pointer (some ⟨g, 0, none⟩))) ∧ Below W.heap.size W w'
/-- no number, and an error -/
def ErrTwo (W : World) (e : Ending) (w' : World) : Prop := ∃ g, e = .returned (.tuple #[.slice none 0 0, .iface 120 (.pointer (some ⟨g, 0, none⟩))]) ∧ Below W.heap.size W w'

theorem rsmall_err (k r : Int) (a : Option Addr) (n c : Nat) (l : List Int) (W : World) (R : Nat → Addr) (hG : Glob W R) (hR : RK .i64 W a n l) (hm : n ≤ maxLen) (h : ∀ kn rn : Nat, k = kn → r = rn → IsRule kn rn l → 256 < n) :
    Calls Tryd.prog 117 #[ruleV k r a n c] W (ErrOne W) := by
  have hm' : n ≤ 9223372036854775807 := hm
  have HH := Lib.hid h; clear h
  have HG := Lib.hid hG; clear hG
  have HR := Lib.hid hR; clear hR
  have hbx := balloc (bnil W) (.cells #[.int .i64 k, .int .i64 r, .slice a n c] 24)
  cases he : ruleErr k r l with
  | some at_ =>
    have HE := Lib.hid he; clear he
    go_enter Tryd.func117, Tryd.ntmps117
    go_wp2_with fail
    refine (rcheck_err k r a n c l _ R (HG.out.up hbx) (HR.out.up hbx) hm at_ HE.out).mono ?_; rintro e w2 ⟨g, rfl, he2, hb2⟩
    clear he2
    go_wp2
    go_ret
    exact ⟨_, rfl, hbx.trans (hb2.mono hbx.size)⟩
  | none =>
    obtain ⟨kn, rn, rfl, rfl, hI⟩ := ruleErr_none he
    have hbig := HH.out kn rn rfl rfl hI
    have HI := Lib.hid hI; clear hI he
    go_enter Tryd.func117, Tryd.ntmps117
    go_wp2_with fail
    refine (rcheck_ok kn rn a n c l _ (HR.out.up hbx) HI.out).mono ?_; rintro e w2 ⟨rfl, hb2⟩
    have x2 := (hb2.cell (p := ⟨W.heap.size, 2, none⟩) (by simp)).trans (show (W.alloc (.cells #[.int .i64 kn, .int .i64 rn, .slice a n c] 24)).cell? ⟨W.heap.size, 2, none⟩ = some (.slice a n c) by simp)
    have hb2W := hbx.trans (hb2.mono hbx.size)
    go_wp2_with fail
    refine (rule_wrong _ _ _ R (HG.out.up hb2W) (by rfl)).mono ?_; rintro e w' ⟨rfl, rfl⟩
    go_wp2
    go_ret
    exact ⟨_, rfl, balloc hb2W _⟩

theorem csmall_ok (k r : Nat) (a : Option Addr) (n c : Nat) (l : List Int) (W : World) (hR : RK .i64 W a n l) (h : IsRule k r l) (hn : n ≤ 256) :
    Calls Tryd.prog 56 #[ruleV k r a n c] W fun e w' => e = .returned .nilIface ∧ Below W.heap.size W w' := by
  have H := Lib.hid h; clear h
  have HR := Lib.hid hR; clear hR
  have hbx := balloc (bnil W) (.cells #[.int .i64 k, .int .i64 r, .slice a n c] 24)
  go_enter Tryd.func56, Tryd.ntmps56
  go_wp2_with fail
  refine (rsmall_ok k r a n c l _ (HR.out.up hbx) H.out hn).mono ?_; rintro e w2 ⟨rfl, hb2⟩
  go_wp2_with fail
  refine (under_nil _ _ _).mono ?_; rintro e w3 ⟨rfl, rfl⟩
  go_wp2
  go_ret
  exact ⟨rfl, hbx.trans (hb2.mono hbx.size)⟩
theorem csmall_err (k r : Int) (a : Option Addr) (n c : Nat) (l : List Int) (W : World) (R : Nat → Addr) (hG : Glob W R) (hR : RK .i64 W a n l) (hm : n ≤ maxLen) (h : ∀ kn rn : Nat, k = kn → r = rn → IsRule kn rn l → 256 < n) :
    Calls Tryd.prog 56 #[ruleV k r a n c] W (ErrOne W) := by
  have HH := Lib.hid h; clear h
  have HG := Lib.hid hG; clear hG
  have HR := Lib.hid hR; clear hR
  have hbx := balloc (bnil W) (.cells #[.int .i64 k, .int .i64 r, .slice a n c] 24)
  go_enter Tryd.func56, Tryd.ntmps56
  go_wp2_with fail
  refine (rsmall_err k r a n c l _ R (HG.out.up hbx) (HR.out.up hbx) hm HH.out).mono ?_; rintro e w2 ⟨g, rfl, hb2⟩
  have hb2W := hbx.trans (hb2.mono hbx.size)
  go_wp2_with fail
  refine (under_some _ _ _ _ _).mono ?_; rintro e w3 ⟨g3, rfl, hb3⟩
  go_wp2
  go_ret
  exact ⟨_, rfl, bstep hb2W hb3⟩

theorem sym_pred (k : Int) (B : Nat) (w : World) (hB : B < w.heap.size) (hcell : w.cell? ⟨B, 0, none⟩ = some (.int .i64 k)) : PredOf 119 #[.pointer (some ⟨B, 0, none⟩)] (badB k) w := by
  intro W x hb
  have hc : W.cell? ⟨B, 0, none⟩ = some (.int .i64 k) := (hb.cell (p := ⟨B, 0, none⟩) hB).trans hcell
  clear hcell
  show Calls Tryd.prog 119 #[.int .i64 x, .pointer (some ⟨B, 0, none⟩)] W _
  by_cases h0 : x < 0
  · have e : badB k x = true := badB_true.2 (.inl h0)
    rw [e]; clear e
    go_enter Tryd.func119, Tryd.ntmps119
    go_wp2
    go_ret
    exact ⟨rfl, 0, rfl⟩
  · by_cases h1 : k ≤ x
    · have e : badB k x = true := badB_true.2 (.inr h1)
      rw [e]; clear e
      go_enter Tryd.func119, Tryd.ntmps119
      go_wp2
      go_ret
      exact ⟨rfl, 0, rfl⟩
    · have e : badB k x = false := badB_false.2 ⟨by omega, by omega⟩
      rw [e]; clear e
      go_enter Tryd.func119, Tryd.ntmps119
      go_wp2
      go_ret
      exact ⟨rfl, 0, rfl⟩
/-- symbols finds nothing wrong just with a word -/
def SymPost (W : World) (ok : Prop) (e : Ending) (w' : World) : Prop := (ok ∧ e = .returned .nilIface ∧ Below W.heap.size W w') ∨ (¬ ok ∧ ErrOne W e w')
set_option maxHeartbeats 1000000 in
theorem symbols_any (k : Int) (a : Option Addr) (n c most : Nat) (l : List Int) (W : World) (R : Nat → Addr) (hG : Glob W R) (hR : RK .i64 W a n l) (hm : n ≤ maxLen) (hmo : most ≤ 4096) :
    Calls Tryd.prog 57 #[.int .i64 k, .slice a n c, .int .i64 most] W (SymPost W (n ≤ most ∧ ∀ x ∈ l, 0 ≤ x ∧ x < k)) := by
  have hm' : n ≤ 9223372036854775807 := hm
  have HG := Lib.hid hG; clear hG
  have HR := Lib.hid hR; clear hR
  have hmf : ∀ (fn : Fn) (first cap : Array Value) (w : World), (Instr.makeFunc fn first cap).run Tryd.prog w = .ok (.func fn first cap) w := fun _ _ _ _ => rfl
  have hbx := balloc (bnil W) (.cells #[.int .i64 k] 3)
  by_cases hbig : most < n
  · go_enter Tryd.func57, Tryd.ntmps57
    go_wp2_with fail
    refine (count_wrong _ _ _ R (HG.out.up hbx) (by rfl)).mono ?_; rintro e w' ⟨rfl, rfl⟩
    go_wp2
    go_ret
    exact .inr ⟨fun h => by omega, _, rfl, balloc hbx _⟩
  · have hPr : PredOf 119 #[.pointer (some ⟨W.heap.size, 0, none⟩)] (badB k) (W.alloc (.cells #[.int .i64 k] 3)) := sym_pred k W.heap.size _ (by simp) (by simp)
    have HP := Lib.hid hPr; clear hPr
    have eg : ∀ args w, (callFunc 119 args).run Tryd.prog w = .ok (.enter 119 args) w := enters_of Tryd.func119 (by kernel_rfl) rfl
    have EG := Lib.hid eg; clear eg
    obtain ⟨i, hi⟩ : ∃ i, idxI (badB k) l = i := ⟨_, rfl⟩
    have HI := Lib.hid hi; clear hi
    go_enter Tryd.func57, Tryd.ntmps57
    go_wp2_with fail
    refine (indexFunc_any a n c l 119 _ (badB k) _ (HR.out.al _) hm EG.out HP.out).mono ?_; rintro e w' ⟨rfl, m, rfl⟩
    rw [HI.out]
    by_cases h0 : 0 ≤ i
    · have hno : Hid (¬ (n ≤ most ∧ ∀ x ∈ l, 0 ≤ x ∧ x < k)) := fun h => by
        have := findIdx_none (p := badB k) (l := l) fun x hx => badB_false.2 (h.2 x hx)
        rw [HI.out] at this
        omega
      go_wp2_with fail
      refine (count_wrong _ _ _ R ((HG.out.alloc _).drewN) (by rfl)).mono ?_; rintro e w' ⟨rfl, rfl⟩
      go_wp2
      go_ret
      exact .inr ⟨hno.out, _, rfl, balloc (bdrewN hbx _) _⟩
    · have hyes : Hid (n ≤ most ∧ ∀ x ∈ l, 0 ≤ x ∧ x < k) := ⟨by omega, fun x hx => badB_false.1 (idxI_neg (by rw [HI.out]; exact h0) x hx)⟩
      go_wp2
      go_ret
      exact .inl ⟨hyes.out, rfl, bdrewN hbx _⟩
end Go.Proofs.YteneiianpghalaaDoor
namespace Go.Proofs.YteneiianpghalaaDoor
open Go.RowKit
set_option linter.unusedVariables false
set_option maxRecDepth 100000

theorem IsRule.nodes {k r n : Nat} {l : List Int} (h : IsRule k r l) (hn : n = l.length) : n = k ^ (2 * r) * k ∧ 0 < k ^ (2 * r) ∧ n ≤ 16384 := by
  have h1 := h.len
  refine ⟨by rw [hn, h1, Nat.pow_succ], Nat.pow_pos h.k1, ?_⟩
  rw [hn, h1]
  exact rpow_le h.k4 (by have := h.r3; omega)

set_option maxHeartbeats 4000000 in
theorem countWords_ok (k r : Nat) (a aw : Option Addr) (n c nw cw : Nat) (l wl : List Int) (W : World) (R : Nat → Addr) (hG : Glob W R) (hR : RK .i64 W a n l) (hW : RK .i64 W aw nw wl) (h : IsRule k r l) (hn : n ≤ 256) (hnc : n ≤ c) (hcm : c ≤ maxLen) (hnw : nw ≤ 256) (hs : ∀ x ∈ wl, 0 ≤ x ∧ x < (k : Int)) :
    Calls Tryd.prog 11 #[ruleV k r a n c, .slice aw nw cw] W fun e w' => ∃ a' n' c', e = .returned (.tuple #[.slice a' n' c', .nilIface]) ∧ OwN w' W.heap.size (a', n', c') (limbs (wordsC k (k ^ (2 * r)) l wl)) ∧ Below W.heap.size W w' := by
  have hnod := h.nodes hR.len
  have k1 := h.k1
  have k4 := h.k4
  have HND := Lib.hid hnod; clear hnod
  have H := Lib.hid h; clear h
  have HS := Lib.hid hs; clear hs
  have HG := Lib.hid hG; clear hG
  have HR := Lib.hid hR; clear hR
  have HW := Lib.hid hW; clear hW
  obtain ⟨Wb, hWb⟩ : ∃ Wb, W.alloc (.cells #[.int .i64 k, .int .i64 r, .slice a n c] 24) = Wb := ⟨_, rfl⟩
  have HX : Hid (Wb.cell? ⟨W.heap.size, 0, none⟩ = some (.int .i64 k) ∧ Wb.cell? ⟨W.heap.size, 1, none⟩ = some (.int .i64 r) ∧ Wb.cell? ⟨W.heap.size, 2, none⟩ = some (.slice a n c)) := by rw [← hWb]; exact ⟨by simp, by simp, by simp⟩
  have HSZ : Hid (W.heap.size < Wb.heap.size) := by show _ < _; rw [← hWb]; simp
  have HBX : Hid (Below W.heap.size W Wb) := by rw [← hWb]; exact balloc (bnil W) _
  have HWB := Lib.hid hWb; clear hWb
  go_enter Tryd.func11, Tryd.ntmps11
  go_wp2_with fail
  rw [HWB.out]
  refine (csmall_ok k r a n c l _ (HR.out.up HBX.out) H.out hn).mono ?_; rintro e w2 ⟨rfl, hb2⟩
  have x0 := (hb2.cell (p := ⟨W.heap.size, 0, none⟩) HSZ.out).trans HX.out.1
  have hb2W := HBX.out.trans (hb2.mono HBX.out.size)
  go_wp2_with fail
  refine (symbols_any (k : Int) aw nw cw 256 wl _ R (HG.out.up hb2W) (HW.out.up hb2W) (by unfold maxLen; omega) (by decide)).mono ?_; rintro e w3 hp3
  rcases hp3 with ⟨_, rfl, hb3⟩ | ⟨hno, _⟩
  · have hb23 := bstep hb2 hb3
    have y0 := (hb23.cell (p := ⟨W.heap.size, 0, none⟩) HSZ.out).trans HX.out.1
    have y1 := (hb23.cell (p := ⟨W.heap.size, 1, none⟩) HSZ.out).trans HX.out.2.1
    have y2 := (hb23.cell (p := ⟨W.heap.size, 2, none⟩) HSZ.out).trans HX.out.2.2
    have hb3W := bstep hb2W hb3
    clear x0
    go_wp2_with fail
    refine (words_any k r a aw n c nw cw (k ^ (2 * r)) l wl _ k1 k4 HND.out.1 HND.out.2.1 (by omega) hnc hcm hnw (HR.out.up hb3W) (HW.out.up hb3W)).mono ?_; rintro e w4 ⟨a4, n4, c4, rfl, ho4, hb4⟩
    have HO := Lib.hid (OwN.base (b' := W.heap.size) ho4 hb3W.size)
    clear ho4
    go_wp2
    go_ret2
    exact ⟨_, _, _, rfl, HO.out, bstep hb3W hb4⟩
  · exact absurd ⟨hnw, HS.out⟩ hno

theorem countWords_err (k r : Int) (a aw : Option Addr) (n c nw cw : Nat) (l wl : List Int) (W : World) (R : Nat → Addr) (hG : Glob W R) (hR : RK .i64 W a n l) (hW : RK .i64 W aw nw wl) (hm : n ≤ maxLen) (hmw : nw ≤ maxLen) (h : ∀ kn rn : Nat, k = kn → r = rn → IsRule kn rn l → n ≤ 256 → ¬ (nw ≤ 256 ∧ ∀ x ∈ wl, 0 ≤ x ∧ x < k)) :
    Calls Tryd.prog 11 #[ruleV k r a n c, .slice aw nw cw] W (ErrTwo W) := by
  have HH := Lib.hid h; clear h
  have HG := Lib.hid hG; clear hG
  have HR := Lib.hid hR; clear hR
  have HW := Lib.hid hW; clear hW
  obtain ⟨Wb, hWb⟩ : ∃ Wb, W.alloc (.cells #[.int .i64 k, .int .i64 r, .slice a n c] 24) = Wb := ⟨_, rfl⟩
  have HX : Hid (Wb.cell? ⟨W.heap.size, 0, none⟩ = some (.int .i64 k) ∧ Wb.cell? ⟨W.heap.size, 1, none⟩ = some (.int .i64 r) ∧ Wb.cell? ⟨W.heap.size, 2, none⟩ = some (.slice a n c)) := by rw [← hWb]; exact ⟨by simp, by simp, by simp⟩
  have HSZ : Hid (W.heap.size < Wb.heap.size) := by show _ < _; rw [← hWb]; simp
  have HBX : Hid (Below W.heap.size W Wb) := by rw [← hWb]; exact balloc (bnil W) _
  have HWB := Lib.hid hWb; clear hWb
  by_cases hok : ∃ kn rn : Nat, k = kn ∧ r = rn ∧ IsRule kn rn l ∧ n ≤ 256
  · obtain ⟨kn, rn, rfl, rfl, hI, hn⟩ := hok
    have hno := HH.out kn rn rfl rfl hI hn
    have HI := Lib.hid hI
    have HNO := Lib.hid hno
    clear hI hno
    go_enter Tryd.func11, Tryd.ntmps11
    go_wp2_with fail
    rw [HWB.out]
    refine (csmall_ok kn rn a n c l _ (HR.out.up HBX.out) HI.out hn).mono ?_; rintro e w2 ⟨rfl, hb2⟩
    have x0 := (hb2.cell (p := ⟨W.heap.size, 0, none⟩) HSZ.out).trans HX.out.1
    have hb2W := HBX.out.trans (hb2.mono HBX.out.size)
    go_wp2_with fail
    refine (symbols_any (kn : Int) aw nw cw 256 wl _ R (HG.out.up hb2W) (HW.out.up hb2W) hmw (by decide)).mono ?_; rintro e w3 hp3
    rcases hp3 with ⟨hyes, _⟩ | ⟨_, g3, rfl, hb3⟩
    · exact absurd hyes HNO.out
    · go_wp2
      go_ret2
      exact ⟨_, rfl, bstep hb2W hb3⟩
  · have hbad : ∀ kn rn : Nat, k = kn → r = rn → IsRule kn rn l → 256 < n := fun kn rn h1 h2 h3 => by
      by_cases h4 : n ≤ 256
      · exact absurd ⟨kn, rn, h1, h2, h3, h4⟩ hok
      · omega
    have HBAD := Lib.hid hbad
    clear hbad hok
    go_enter Tryd.func11, Tryd.ntmps11
    go_wp2_with fail
    rw [HWB.out]
    refine (csmall_err k r a n c l _ R (HG.out.up HBX.out) (HR.out.up HBX.out) hm HBAD.out).mono ?_; rintro e w2 ⟨g2, rfl, hb2⟩
    go_wp2
    go_ret2
    exact ⟨_, rfl, HBX.out.trans (hb2.mono HBX.out.size)⟩

/-! ### rings -/
def unitE (i : Nat) : Nat → Nat := fun u => if u = i then 1 else 0
def ringsC (k N T n : Nat) (p : Nat → Nat → Bool) (i : Nat) : Nat := sumTo i fun u => wv k N T n p (unitE u) n u

set_option maxHeartbeats 8000000 in
theorem rings_any (k r : Nat) (a : Option Addr) (T c n N : Nat) (F : Nat) (cap : Array Value) (p : Nat → Nat → Bool) (W : World)
    (k1 : 1 ≤ k) (k4 : k ≤ 4) (hT : T = N * k) (hN : 0 < N) (hT4 : T ≤ 16384) (hTc : T ≤ c) (hcm : c ≤ maxLen) (hn : n ≤ 256)
    (hF : ∀ args w, (callFunc F args).run Tryd.prog w = .ok (.enter F args) w) (hP : Pred2 F cap p n T W) :
    Calls Tryd.prog 65 #[ruleV k r a T c, .int .i64 n, .func (.func F) #[] cap] W fun e w' => ∃ a' n' c', e = .returned (.slice a' n' c') ∧ OwN w' W.heap.size (a', n', c') (limbs (ringsC k N T n p N)) ∧ Below W.heap.size W w' := by
  have hNT : N ≤ T := by rw [hT]; exact Nat.le_mul_of_pos_right _ k1
  have hcm' : c ≤ 9223372036854775807 := hcm
  have hdiv : (T : Int) / (k : Int) = (N : Int) := by
    rw [hT, Int.natCast_mul]
    exact Int.mul_ediv_cancel _ (by omega)
  have HT := Lib.hid hT; clear hT
  have HP := Lib.hid hP; clear hP
  have HF := Lib.hid hF; clear hF
  have K0 : (0 : Int) < (k : Int) := by omega
  have T0 : (0 : Int) ≤ (T : Int) := by omega
  obtain ⟨Wb, hWb⟩ : ∃ Wb, W.alloc (.cells #[.int .i64 k, .int .i64 r, .slice a T c] 24) = Wb := ⟨_, rfl⟩
  have HX : Hid (Wb.cell? ⟨W.heap.size, 0, none⟩ = some (.int .i64 k) ∧ Wb.cell? ⟨W.heap.size, 1, none⟩ = some (.int .i64 r) ∧ Wb.cell? ⟨W.heap.size, 2, none⟩ = some (.slice a T c)) := by rw [← hWb]; exact ⟨by simp, by simp, by simp⟩
  have HSZ : Hid (W.heap.size < Wb.heap.size) := by show _ < _; rw [← hWb]; simp
  have HBX : Hid (Below W.heap.size W Wb) := by rw [← hWb]; exact balloc (bnil W) _
  have HWB := Lib.hid hWb; clear hWb
  go_enter Tryd.func65, Tryd.ntmps65
  go_wp2_with fail
  rw [HWB.out]
  go_loopw [7, 18] (fun sx ix wr => ∃ (i : Nat) (a1 : Option Addr) (n1 c1 : Nat), i ≤ N ∧ ix = .int .i64 i ∧ sx = .slice a1 n1 c1 ∧ OwN wr W.heap.size (a1, n1, c1) (limbs (ringsC k N T n p i)) ∧ Below Wb.heap.size Wb wr) (fun _ ix _ => N - (intOf ix).toNat)
  case atStart => exact ⟨0, none, 0, 0, by omega, rfl, rfl, OwN.nil _ _, bnil _⟩
  case round =>
    obtain ⟨i, a1, n1, c1, hi, rfl, rfl, ho, hb⟩ := hrel
    have HO := Lib.hid ho
    have HB := Lib.hid hb
    clear ho hb
    have hfl : ∀ u, u < N → wv k N T n p (unitE u) n u < B32 ^ (n + 1) := fun u hu => wv_lt hN hT4 (fun v _ => by unfold unitE; split <;> decide) n u hu
    have hsm := HO.out.ns.small (sum_len (by omega) hi hfl)
    have hflI := fun hin : i < N => limbs_len_le (hfl i hin)
    have HFL := Lib.hid hflI
    simp only at hsm
    clear hfl hflI
    by_cases hin : i < N
    · have hszr : W.heap.size < wr.heap.size := Nat.lt_of_lt_of_le HSZ.out HB.out.size
      have hWr := HBX.out.trans (HB.out.mono HBX.out.size)
      have HWr := Lib.hid hWr
      have HSR := Lib.hid hszr
      clear hWr hszr
      have i0 : (0 : Int) ≤ (i : Int) := by omega
      have i1 : (i : Int) < (N : Int) := by omega
      go_upto_region 8 with (first
        | (at_make; refine mk_full rfl _ _ _ rfl wr.heap.size et_nats .i64 .i64 _ _ N rfl rfl rfl rfl (by omega) (by unfold maxLen; omega) (Nat.le_refl _) ?_; intro w2 hown2 hb2 hsz2; rw [made_nats] at hown2; have H2 := Lib.hid (OwNs.made hown2); have HB2 := Lib.hid hb2; have hcell := hown2.cellAt i (by omega); rw [range_at _ hin] at hcell; have f2 := hown2.frozenAt i; have HSZ2 := Lib.hid hsz2; clear hown2 hb2 hsz2)
        | (go_at_call 14; refine (from_any 1 _ (by omega)).mono ?_; rintro e w4 ⟨n4, rfl, ho4, hv4, hb4⟩; have u4 := (hb4.cell (p := ⟨wr.heap.size, i, none⟩) HSZ2.out).trans hcell; have f4 := (hb4.frozen (p := ⟨wr.heap.size, i, none⟩) HSZ2.out).trans f2; have H4 := Lib.hid ho4; have HB4 := Lib.hid hb4; clear ho4 hv4 hb4))
      have hput := put_add (G := fun u => limbs (unitE i u)) H2.out hin HB4.out (limbs_u32 1) H4.out (Nat.le_of_lt HSZ2.out) fun u _ => by
        by_cases e : u = i
        · subst e; rw [upd_self]; unfold unitE; rw [if_pos rfl]
        · rw [upd_ne _ _ e]; unfold unitE; rw [if_neg e]; rfl
      have hb5 := (HB2.out.trans (HB4.out.mono HB2.out.size)).setCell (p := ⟨wr.heap.size, i, none⟩) (Nat.le_refl _) (.slice (some ⟨w2.heap.size, 0, none⟩) n4 2)
      obtain ⟨w5, hw5⟩ : ∃ w5, w4.setCell ⟨wr.heap.size, i, none⟩ (.slice (some ⟨w2.heap.size, 0, none⟩) n4 2) = w5 := ⟨_, rfl⟩
      rw [hw5] at hput hb5
      simp only [hw5]
      have HPUT := Lib.hid hput.nsR
      have HB5 := Lib.hid hb5
      have HW5 := Lib.hid (HWr.out.trans (hb5.mono HWr.out.size))
      have hbW5 := HB.out.trans (hb5.mono HB.out.size)
      have x0 := (hbW5.cell (p := ⟨W.heap.size, 0, none⟩) HSZ.out).trans HX.out.1
      have x1 := (hbW5.cell (p := ⟨W.heap.size, 1, none⟩) HSZ.out).trans HX.out.2.1
      have x2 := (hbW5.cell (p := ⟨W.heap.size, 2, none⟩) HSZ.out).trans HX.out.2.2
      have hP5 : Pred2 F cap p n T w5 := fun V x y hV hx hy => HP.out V x y (HW5.out.trans (hV.mono HW5.out.size)) hx hy
      have HP5 := Lib.hid hP5
      have HBW5 := Lib.hid hbW5
      clear hput hb5 hw5 u4 f4 f2 hcell H2 H4 HB2 HB4 HSZ2 hbW5 hP5
      go_wp2_with fail
      refine (ways_any k r a T c n _ N N (unitE i) F cap p _ k1 k4 HT.out hN hT4 hTc hcm hn HPUT.out (fun v _ => by unfold unitE; split <;> decide) HF.out HP5.out).mono ?_; rintro e w6 ⟨a6, c6, rfl, hv6, hb6⟩
      obtain ⟨b6, o6, rfl, hl6, hc6⟩ := hv6.addr hN
      obtain ⟨a7, n7, c7, y0, hy⟩ := hc6 i hin
      have n7L := hy.small (HFL.out hin)
      have HY := Lib.hid hy
      have HO6 := Lib.hid (HO.out.up (bstep HB5.out hb6))
      have HB6 := Lib.hid (HBW5.out.trans (hb6.mono HBW5.out.size))
      have HW6 := Lib.hid (HW5.out.trans (hb6.mono HW5.out.size))
      clear hv6 hc6 hy hb6 HO x0 x1 x2
      go_wp2_with fail
      refine (add_any a1 a7 n1 n7 c1 c7 _ _ _ HO6.out.ns.nr HY.out.nr (by omega) (by omega)).mono ?_; rintro e w8 ⟨a8, n8, c8, rfl, ho8, hv8, hb8⟩
      rw [val_limbs, val_limbs] at ho8
      have HO8 : Hid (OwN w8 W.heap.size (a8, n8, c8) (limbs (ringsC k N T n p (i + 1)))) := OwN.base ⟨ho8, limbs_u32 _⟩ HW6.out.size
      have HB8 := Lib.hid (HB6.out.trans (hb8.mono HB6.out.size))
      clear ho8 hv8 hb8
      go_wp2
      go_roundw
      case rel => exact ⟨i + 1, _, _, _, by omega, by go_num, rfl, HO8.out, HB8.out⟩
      case measure => simp [intOf]; omega
    · obtain rfl : N = i := by omega
      go_wp2
      go_ret
      exact ⟨_, _, _, rfl, HO.out, HBX.out.trans (HB.out.mono HBX.out.size)⟩
end Go.Proofs.YteneiianpghalaaDoor
namespace Go.Proofs.YteneiianpghalaaDoor
open Go.RowKit
set_option linter.unusedVariables false
set_option maxRecDepth 100000

set_option maxHeartbeats 1000000 in
theorem rings_pred (k r : Int) (a aw : Option Addr) (T c n cw : Nat) (tb wl : List Int) (gb gw : Nat) (w : World) (hT : RK .i64 w a T tb) (hW : RK .i64 w aw n wl) (h0 : gb < w.heap.size) (h1 : gw < w.heap.size) (h2 : w.cell? ⟨gb, 2, none⟩ = some (.slice a T c)) (h3 : w.cell? ⟨gw, 0, none⟩ = some (.slice aw n cw)) :
    Pred2 74 #[.pointer (some ⟨gb, 0, none⟩), .pointer (some ⟨gw, 0, none⟩)] (fitW tb wl) n T w := by
  intro W x y hb hx hy
  have x2 := (hb.cell (p := ⟨gb, 2, none⟩) h0).trans h2
  have x3 := (hb.cell (p := ⟨gw, 0, none⟩) h1).trans h3
  obtain ⟨b1, o1, rfl, _, hc1⟩ := (hT.up hb).addr (by omega)
  obtain ⟨b2, o2, rfl, _, hc2⟩ := (hW.up hb).addr (by omega)
  have y1 := hc1 y hy
  have y2 := hc2 x hx
  have e : fitW tb wl x y = decide (tb.getD y 0 = wl.getD x 0) := rfl
  rw [e]
  clear hc1 hc2 h2 h3 hT hW e hb
  generalize tb.getD y 0 = u at *
  generalize wl.getD x 0 = v at *
  have i0 : (0 : Int) ≤ (x : Int) := by omega
  have i1 : (x : Int) < (n : Int) := by omega
  have j0 : (0 : Int) ≤ (y : Int) := by omega
  have j1 : (y : Int) < (T : Int) := by omega
  show Calls Tryd.prog 74 #[.int .i64 x, .int .i64 y, .pointer (some ⟨gb, 0, none⟩), .pointer (some ⟨gw, 0, none⟩)] W _
  go_enter Tryd.func74, Tryd.ntmps74
  go_wp2_with fail
  go_quiet (fail)
  go_wp2
  go_ret
  exact ⟨by first | rfl | simp, nq, rfl⟩

/-- the window's symbol stays the one in its midst -/
def fitF (k wt : Nat) (tb : List Int) (x y : Nat) : Bool := decide (tb.getD y 0 = ((y / wt % k : Nat) : Int))
set_option maxHeartbeats 1000000 in
theorem fixed_pred (k wt : Nat) (r : Int) (a : Option Addr) (T c n : Nat) (tb : List Int) (gb gw : Nat) (w : World) (hk : 1 ≤ k) (hk4 : k ≤ 4) (hwt : 1 ≤ wt) (hwt2 : wt ≤ 16384) (hT4 : T ≤ 16384) (hT : RK .i64 w a T tb) (h0 : gb < w.heap.size) (h1 : gw < w.heap.size) (hk0 : w.cell? ⟨gb, 0, none⟩ = some (.int .i64 k)) (h2 : w.cell? ⟨gb, 2, none⟩ = some (.slice a T c)) (h3 : w.cell? ⟨gw, 0, none⟩ = some (.int .i64 wt)) :
    Pred2 66 #[.pointer (some ⟨gb, 0, none⟩), .pointer (some ⟨gw, 0, none⟩)] (fitF k wt tb) n T w := by
  intro W x y hb hx hy
  have x0 := (hb.cell (p := ⟨gb, 0, none⟩) h0).trans hk0
  have x2 := (hb.cell (p := ⟨gb, 2, none⟩) h0).trans h2
  have x3 := (hb.cell (p := ⟨gw, 0, none⟩) h1).trans h3
  obtain ⟨b1, o1, rfl, _, hc1⟩ := (hT.up hb).addr (by omega)
  have y1 := hc1 y hy
  obtain ⟨d, hd, hde⟩ : ∃ d : Nat, (y : Int).tdiv (wt : Int) = (d : Int) ∧ d = y / wt := ⟨y / wt, by rw [Int.tdiv_eq_ediv_of_nonneg (by omega)]; simp, rfl⟩
  have hdle : d ≤ 16384 := by rw [hde]; exact Nat.le_trans (Nat.div_le_self _ _) (by omega)
  obtain ⟨m, hm, hme⟩ : ∃ m : Nat, (d : Int).tmod (k : Int) = (m : Int) ∧ m = d % k := ⟨d % k, by rw [Int.tmod_eq_emod_of_nonneg (by omega)]; simp, rfl⟩
  have e : fitF k wt tb x y = decide (tb.getD y 0 = (m : Int)) := by unfold fitF; rw [← hde, ← hme]
  rw [e]
  have hde' : ((y : Int) / (wt : Int)) = (d : Int) := by rw [← Int.tdiv_eq_ediv_of_nonneg (by omega)]; exact hd
  have hme' : ((d : Int) % (k : Int)) = (m : Int) := by rw [← Int.tmod_eq_emod_of_nonneg (by omega)]; exact hm
  clear hc1 h2 h3 hk0 hT e hb hde hme
  generalize tb.getD y 0 = u at *
  have j0 : (0 : Int) ≤ (y : Int) := by omega
  have j1 : (y : Int) < (T : Int) := by omega
  have d0 : (0 : Int) ≤ (d : Int) := by omega
  have t2 : IntKind.i64.wrap (d : Int) = (d : Int) := IntWalk.i64_in _ (by omega)
  have t3 : IntKind.i64.wrap ((y : Int).tdiv (wt : Int)) = (d : Int) := by rw [hd]; exact t2
  have t4 : ((k : Int) == 0) = false := by rw [beq_eq_false_iff_ne]; omega
  have t5 : ((wt : Int) == 0) = false := by rw [beq_eq_false_iff_ne]; omega
  have K0 : (0 : Int) < (k : Int) := by omega
  have W0 : (0 : Int) < (wt : Int) := by omega
  show Calls Tryd.prog 66 #[.int .i64 x, .int .i64 y, .pointer (some ⟨gb, 0, none⟩), .pointer (some ⟨gw, 0, none⟩)] W _
  go_enter Tryd.func66, Tryd.ntmps66
  go_wp2_with fail
  go_quiet (fail)
  go_wp2
  go_ret
  exact ⟨by first | rfl | simp, nq, rfl⟩

set_option maxHeartbeats 4000000 in
theorem countRings_ok (k r : Nat) (a aw : Option Addr) (n c nw cw : Nat) (l wl : List Int) (W : World) (R : Nat → Addr) (hG : Glob W R) (hR : RK .i64 W a n l) (hW : RK .i64 W aw nw wl) (h : IsRule k r l) (hn : n ≤ 256) (hnc : n ≤ c) (hcm : c ≤ maxLen) (hn0 : 0 < nw) (hnw : nw ≤ 64) (hs : ∀ x ∈ wl, 0 ≤ x ∧ x < (k : Int)) :
    Calls Tryd.prog 22 #[ruleV k r a n c, .slice aw nw cw] W fun e w' => ∃ a' n' c', e = .returned (.tuple #[.slice a' n' c', .nilIface]) ∧ OwN w' W.heap.size (a', n', c') (limbs (ringsC k (k ^ (2 * r)) n nw (fitW l wl) (k ^ (2 * r)))) ∧ Below W.heap.size W w' := by
  have hnod := h.nodes hR.len
  have k1 := h.k1
  have k4 := h.k4
  have HND := Lib.hid hnod; clear hnod
  have H := Lib.hid h; clear h
  have HS := Lib.hid hs; clear hs
  have HG := Lib.hid hG; clear hG
  have HR := Lib.hid hR; clear hR
  have HW := Lib.hid hW; clear hW
  have hw0 : ((nw : Int) == 0) = false := by rw [beq_eq_false_iff_ne]; omega
  obtain ⟨Wb, hWb⟩ : ∃ Wb, (W.alloc (.cells #[.int .i64 k, .int .i64 r, .slice a n c] 24)).alloc (.cells #[.slice aw nw cw] 22) = Wb := ⟨_, rfl⟩
  have HX : Hid (Wb.cell? ⟨W.heap.size, 0, none⟩ = some (.int .i64 k) ∧ Wb.cell? ⟨W.heap.size, 1, none⟩ = some (.int .i64 r) ∧ Wb.cell? ⟨W.heap.size, 2, none⟩ = some (.slice a n c) ∧ Wb.cell? ⟨W.heap.size + 1, 0, none⟩ = some (.slice aw nw cw)) := by rw [← hWb]; exact ⟨by simp, by simp, by simp, by simp⟩
  have HSZ : Hid (Wb.heap.size = W.heap.size + 2) := by show _ = _; rw [← hWb]; simp
  have HBX : Hid (Below W.heap.size W Wb) := by rw [← hWb]; exact balloc (balloc (bnil W) _) _
  have HWB := Lib.hid hWb; clear hWb
  have eg : ∀ args w, (callFunc 74 args).run Tryd.prog w = .ok (.enter 74 args) w := enters_of Tryd.func74 (by kernel_rfl) rfl
  have EG := Lib.hid eg; clear eg
  have hmf : ∀ (fn : Fn) (first cap : Array Value) (w : World), (Instr.makeFunc fn first cap).run Tryd.prog w = .ok (.func fn first cap) w := fun _ _ _ _ => rfl
  go_enter Tryd.func22, Tryd.ntmps22
  go_wp2_with fail
  rw [HWB.out]
  refine (csmall_ok k r a n c l _ (HR.out.up HBX.out) H.out hn).mono ?_; rintro e w2 ⟨rfl, hb2⟩
  have s0 : W.heap.size < Wb.heap.size := by rw [HSZ.out]; omega
  have s1 : W.heap.size + 1 < Wb.heap.size := by rw [HSZ.out]; omega
  have HS0 := Lib.hid s0
  have HS1 := Lib.hid s1
  clear s0 s1
  have x0 := (hb2.cell (p := ⟨W.heap.size, 0, none⟩) HS0.out).trans HX.out.1
  have x3 := (hb2.cell (p := ⟨W.heap.size + 1, 0, none⟩) HS1.out).trans HX.out.2.2.2
  have hb2W := HBX.out.trans (hb2.mono HBX.out.size)
  go_wp2_with fail
  refine (symbols_any (k : Int) aw nw cw 64 wl _ R (HG.out.up hb2W) (HW.out.up hb2W) (by unfold maxLen; omega) (by decide)).mono ?_; rintro e w3 hp3
  rcases hp3 with ⟨_, rfl, hb3⟩ | ⟨hno, _⟩
  · have hb23 := bstep hb2 hb3
    have y0 := (hb23.cell (p := ⟨W.heap.size, 0, none⟩) HS0.out).trans HX.out.1
    have y1 := (hb23.cell (p := ⟨W.heap.size, 1, none⟩) HS0.out).trans HX.out.2.1
    have y2 := (hb23.cell (p := ⟨W.heap.size, 2, none⟩) HS0.out).trans HX.out.2.2.1
    have y3 := (hb23.cell (p := ⟨W.heap.size + 1, 0, none⟩) HS1.out).trans HX.out.2.2.2
    have hb3W := bstep hb2W hb3
    have hPr := rings_pred k r a aw n c nw cw l wl W.heap.size (W.heap.size + 1) w3 (HR.out.up hb3W) (HW.out.up hb3W) (Nat.lt_of_lt_of_le HS0.out hb23.size) (Nat.lt_of_lt_of_le HS1.out hb23.size) y2 y3
    have HPR := Lib.hid hPr
    clear x0 x3 hPr
    go_wp2_with fail
    refine (rings_any k r a n c nw (k ^ (2 * r)) 74 _ (fitW l wl) _ k1 k4 HND.out.1 HND.out.2.1 (by omega) hnc hcm (by omega) EG.out HPR.out).mono ?_; rintro e w4 ⟨a4, n4, c4, rfl, ho4, hb4⟩
    have HO := Lib.hid (OwN.base (b' := W.heap.size) ho4 hb3W.size)
    clear ho4
    go_wp2
    go_ret2
    exact ⟨_, _, _, rfl, HO.out, bstep hb3W hb4⟩
  · exact absurd ⟨hnw, HS.out⟩ hno

set_option maxHeartbeats 4000000 in
theorem countFixed_ok (k r : Nat) (a : Option Addr) (n c m : Nat) (l : List Int) (W : World) (hR : RK .i64 W a n l) (h : IsRule k r l) (hn : n ≤ 256) (hnc : n ≤ c) (hcm : c ≤ maxLen) (hm0 : 1 ≤ m) (hm : m ≤ 64) :
    Calls Tryd.prog 15 #[ruleV k r a n c, .int .i64 m] W fun e w' => ∃ a' n' c', e = .returned (.tuple #[.slice a' n' c', .nilIface]) ∧ OwN w' W.heap.size (a', n', c') (limbs (ringsC k (k ^ (2 * r)) n m (fitF k (k ^ r) l) (k ^ (2 * r)))) ∧ Below W.heap.size W w' := by
  have hnod := h.nodes hR.len
  have k1 := h.k1
  have k4 := h.k4
  have r3 := h.r3
  have HND := Lib.hid hnod; clear hnod
  have H := Lib.hid h; clear h
  have HR := Lib.hid hR; clear hR
  obtain ⟨Wb, hWb⟩ : ∃ Wb, W.alloc (.cells #[.int .i64 k, .int .i64 r, .slice a n c] 24) = Wb := ⟨_, rfl⟩
  have HX : Hid (Wb.cell? ⟨W.heap.size, 0, none⟩ = some (.int .i64 k) ∧ Wb.cell? ⟨W.heap.size, 1, none⟩ = some (.int .i64 r) ∧ Wb.cell? ⟨W.heap.size, 2, none⟩ = some (.slice a n c)) := by rw [← hWb]; exact ⟨by simp, by simp, by simp⟩
  have HSZ : Hid (W.heap.size < Wb.heap.size) := by show _ < _; rw [← hWb]; simp
  have HBX : Hid (Below W.heap.size W Wb) := by rw [← hWb]; exact balloc (bnil W) _
  have HWB := Lib.hid hWb; clear hWb
  have eg : ∀ args w, (callFunc 66 args).run Tryd.prog w = .ok (.enter 66 args) w := enters_of Tryd.func66 (by kernel_rfl) rfl
  have EG := Lib.hid eg; clear eg
  have hmf : ∀ (fn : Fn) (first cap : Array Value) (w : World), (Instr.makeFunc fn first cap).run Tryd.prog w = .ok (.func fn first cap) w := fun _ _ _ _ => rfl
  go_enter Tryd.func15, Tryd.ntmps15
  go_wp2_with fail
  rw [HWB.out]
  refine (csmall_ok k r a n c l _ (HR.out.up HBX.out) H.out hn).mono ?_; rintro e w2 ⟨rfl, hb2⟩
  obtain ⟨gb, hgb⟩ : ∃ gb, W.heap.size = gb := ⟨_, rfl⟩
  have x0 := (hb2.cell (p := ⟨W.heap.size, 0, none⟩) HSZ.out).trans HX.out.1
  have x1 := (hb2.cell (p := ⟨W.heap.size, 1, none⟩) HSZ.out).trans HX.out.2.1
  have x2 := (hb2.cell (p := ⟨W.heap.size, 2, none⟩) HSZ.out).trans HX.out.2.2
  have hb2W := HBX.out.trans (hb2.mono HBX.out.size)
  have hg2 : gb < w2.heap.size := by rw [← hgb]; exact Nat.lt_of_lt_of_le HSZ.out hb2.size
  rw [hgb] at x0 x1 x2
  simp only [hgb]
  have HG2 := Lib.hid hg2
  have HGB := Lib.hid hgb
  have HB2 := Lib.hid hb2W
  clear hgb hg2 hb2 hb2W
  have y0 : ∀ o : Obj, (w2.alloc o).cell? ⟨gb, 0, none⟩ = some (.int .i64 k) := fun o => ((balloc (bnil w2) o).cell (p := ⟨gb, 0, none⟩) HG2.out).trans x0
  have y1 : ∀ o : Obj, (w2.alloc o).cell? ⟨gb, 1, none⟩ = some (.int .i64 r) := fun o => ((balloc (bnil w2) o).cell (p := ⟨gb, 1, none⟩) HG2.out).trans x1
  have y2 : ∀ o : Obj, (w2.alloc o).cell? ⟨gb, 2, none⟩ = some (.slice a n c) := fun o => ((balloc (bnil w2) o).cell (p := ⟨gb, 2, none⟩) HG2.out).trans x2
  clear x0 x1 x2
  go_wp2_with fail
  go_loopw [23] (fun ix wr => ∃ i wt : Nat, i ≤ r ∧ ix = .int .i64 i ∧ Hid (wt = k ^ i) ∧ wr = w2.alloc (.cells #[.int .i64 wt] 3)) (fun ix _ => r - (intOf ix).toNat)
  case atStart => exact ⟨0, 1, by omega, rfl, (Nat.pow_zero k).symm, rfl⟩
  case round =>
    obtain ⟨i, wt, hi, rfl, HWT, rfl⟩ := hrel
    have hwt : wt ≤ 16384 := by rw [HWT.out]; exact rpow_le k4 (by omega)
    by_cases hir : i < r
    · have hpk : wt * k ≤ 16384 * 4 := Nat.mul_le_mul hwt k4
      have q0 : (0 : Int) ≤ (wt : Int) * (k : Int) := by rw [← Int.natCast_mul]; omega
      have q1 : (wt : Int) * (k : Int) ≤ 65536 := by rw [← Int.natCast_mul]; omega
      have HN : Hid (wt * k = k ^ (i + 1)) := by show _ = _; rw [HWT.out, ← Nat.pow_succ]
      go_wp2
      go_roundw
      case rel => exact ⟨i + 1, wt * k, by omega, by go_num, HN.out, by simp⟩
      case measure => simp [intOf]; omega
    · obtain rfl : r = i := by omega
      have hWr := balloc HB2.out (.cells #[.int .i64 wt] 3)
      have hPr := fixed_pred k wt r a n c m l gb w2.heap.size (w2.alloc (.cells #[.int .i64 wt] 3)) k1 k4 (by rw [HWT.out]; exact Nat.pow_pos k1) hwt (by omega) (HR.out.up hWr) (by have := HG2.out; simp; omega) (by simp) (y0 _) (y2 _) (by simp)
      have HPR := Lib.hid hPr
      have HWr := Lib.hid hWr
      clear hPr hWr
      go_wp2_with fail
      refine (rings_any k r a n c m (k ^ (2 * r)) 66 _ (fitF k wt l) _ k1 k4 HND.out.1 HND.out.2.1 (by omega) hnc hcm (by omega) EG.out HPR.out).mono ?_; rintro e w4 ⟨a4, n4, c4, rfl, ho4, hb4⟩
      have ho := OwN.base (b' := W.heap.size) ho4 HWr.out.size
      rw [HWT.out] at ho
      have HO := Lib.hid ho
      have HB4 := Lib.hid (HWr.out.trans (hb4.mono HWr.out.size))
      clear ho4 ho hb4
      go_wp2
      go_ret2
      exact ⟨_, _, _, rfl, HO.out, HB4.out⟩
end Go.Proofs.YteneiianpghalaaDoor
namespace Go.Proofs.YteneiianpghalaaDoor
open Go.RowKit
set_option linter.unusedVariables false
set_option maxRecDepth 100000

def tbA : List Int := [0, 1, 1, 1, 0, 1, 1, 0]
theorem tbA_rule : IsRule 2 1 tbA := ⟨by decide, by decide, by decide, by decide, by decide⟩
theorem awA : limbs (wordsC 2 (2 ^ (2 * 1)) tbA [0]) = [3] := by decide +kernel
theorem awB : limbs (wordsC 2 (2 ^ (2 * 1)) tbA [1]) = [5] := by decide +kernel
theorem awC : limbs (ringsC 2 (2 ^ (2 * 1)) 8 2 (fitW tbA [0, 0]) (2 ^ (2 * 1))) = [2] := by decide +kernel

set_option maxHeartbeats 4000000 in
theorem awake17 (W : World) (R : Nat → Addr) (hG : Glob W R) : Calls Tryd.prog 10 #[] W fun e w' => e = .returned (.bool true) ∧ Below W.heap.size W w' := by
  have HG := Lib.hid hG; clear hG
  obtain ⟨Wa, hWa⟩ : ∃ Wa, (W.alloc (.cells #[.int .i64 0, .int .i64 1, .int .i64 1, .int .i64 1, .int .i64 0, .int .i64 1, .int .i64 1, .int .i64 0] 3)).alloc (.cells #[.int .i64 2, .int .i64 1, .slice (some ⟨W.heap.size, 0, none⟩) 8 8] 24) = Wa := ⟨_, rfl⟩
  have HX : Hid (Wa.cell? ⟨W.heap.size + 1, 0, none⟩ = some (.int .i64 2) ∧ Wa.cell? ⟨W.heap.size + 1, 1, none⟩ = some (.int .i64 1) ∧ Wa.cell? ⟨W.heap.size + 1, 2, none⟩ = some (.slice (some ⟨W.heap.size, 0, none⟩) 8 8)) := by rw [← hWa]; exact ⟨by simp, by simp, by simp⟩
  have HT : Hid (RK .i64 Wa (some ⟨W.heap.size, 0, none⟩) 8 tbA) := by
    show RK _ _ _ _ _
    rw [← hWa]
    exact (rk_new (l := tbA) rfl rfl rfl).al _
  have HSZ : Hid (Wa.heap.size = W.heap.size + 1 + 1) := by show _ = _; rw [← hWa]; simp
  have HBX : Hid (Below W.heap.size W Wa) := by rw [← hWa]; exact balloc (balloc (bnil W) _) _
  have HWA := Lib.hid hWa; clear hWa
  have s1 : W.heap.size + 1 < Wa.heap.size := by rw [HSZ.out]; omega
  have HS1 := Lib.hid s1; clear s1
  go_enter Tryd.func10, Tryd.ntmps10
  go_wp2_with fail
  rw [HWA.out]
  refine (countWords_ok 2 1 _ _ 8 8 1 1 tbA [0] _ R (HG.out.up (balloc HBX.out _)) (HT.out.al _) (rk_new (l := [0]) HSZ.out.symm rfl rfl) tbA_rule (by decide) (by decide) (by decide) (by decide) (by decide)).mono ?_; rintro e w1 ⟨a1, n1, c1, rfl, ho1, hb1⟩
  rw [awA] at ho1
  have H1 := Lib.hid ho1
  have hb1a := (balloc (bnil Wa) (.cells #[.int .i64 0] 3)).trans (hb1.mono (by simp))
  have x0 := (hb1a.cell (p := ⟨W.heap.size + 1, 0, none⟩) HS1.out).trans HX.out.1
  have x1 := (hb1a.cell (p := ⟨W.heap.size + 1, 1, none⟩) HS1.out).trans HX.out.2.1
  have x2 := (hb1a.cell (p := ⟨W.heap.size + 1, 2, none⟩) HS1.out).trans HX.out.2.2
  have HB1 := Lib.hid hb1a
  clear ho1 hb1 hb1a
  go_wp2_with fail
  refine (countWords_ok 2 1 _ _ 8 8 1 1 tbA [1] _ R (HG.out.up (balloc (HBX.out.trans (HB1.out.mono HBX.out.size)) _)) ((HT.out.up HB1.out).al _) (rk_new (l := [1]) rfl rfl rfl) tbA_rule (by decide) (by decide) (by decide) (by decide) (by decide)).mono ?_; rintro e w2 ⟨a2, n2, c2, rfl, ho2, hb2⟩
  rw [awB] at ho2
  have H2 := Lib.hid ho2
  have hb12 := (balloc (bnil w1) (.cells #[.int .i64 1] 3)).trans (hb2.mono (by simp))
  have H12 := Lib.hid (H1.out.up hb12)
  have hb2a := bstep HB1.out hb12
  clear x0 x1 x2
  have x0 := (hb2a.cell (p := ⟨W.heap.size + 1, 0, none⟩) HS1.out).trans HX.out.1
  have x1 := (hb2a.cell (p := ⟨W.heap.size + 1, 1, none⟩) HS1.out).trans HX.out.2.1
  have x2 := (hb2a.cell (p := ⟨W.heap.size + 1, 2, none⟩) HS1.out).trans HX.out.2.2
  have HB2 := Lib.hid hb2a
  clear ho2 hb2 hb2a hb12 H1
  go_wp2_with fail
  refine (countRings_ok 2 1 _ _ 8 8 2 2 tbA [0, 0] _ R (HG.out.up (balloc (HBX.out.trans (HB2.out.mono HBX.out.size)) _)) ((HT.out.up HB2.out).al _) (rk_new (l := [0, 0]) rfl rfl rfl) tbA_rule (by decide) (by decide) (by decide) (by decide) (by decide) (by decide)).mono ?_; rintro e w3 ⟨a3, n3, c3, rfl, ho3, hb3⟩
  rw [awC] at ho3
  have hb23 := (balloc (bnil w2) (.cells #[.int .i64 0, .int .i64 0] 3)).trans (hb3.mono (by simp))
  have H13 := Lib.hid (H12.out.up hb23)
  have H23 := Lib.hid (H2.out.up hb23)
  have H3 := Lib.hid ho3
  have HB3 := Lib.hid (HBX.out.trans ((bstep HB2.out hb23).mono HBX.out.size))
  clear ho3 hb3 hb23 x0 x1 x2 H12 H2
  go_wp2_with fail
  refine (nats_eq a1 _ n1 1 c1 1 [3] _ (H13.out.ns.nr.up (balloc (bnil w3) _)) ⟨rk_new (l := [3]) rfl rfl rfl, by unfold U32; decide⟩ (Nat.le_trans H13.out.ns.le H13.out.ns.cm)).mono ?_; rintro e w4 ⟨rfl, hb4⟩
  have hb34 := (balloc (bnil w3) (.cells #[.int .u32 3] 95)).trans (hb4.mono (by simp))
  go_wp2_with fail
  refine (nats_eq a2 _ n2 1 c2 1 [5] _ ((H23.out.ns.nr.up hb34).up (balloc (bnil w4) _)) ⟨rk_new (l := [5]) rfl rfl rfl, by unfold U32; decide⟩ (Nat.le_trans H23.out.ns.le H23.out.ns.cm)).mono ?_; rintro e w5 ⟨rfl, hb5⟩
  have hb35 := bstep hb34 ((balloc (bnil w4) (.cells #[.int .u32 5] 95)).trans (hb5.mono (by simp)))
  go_wp2_with fail
  refine (nats_eq a3 _ n3 1 c3 1 [2] _ ((H3.out.ns.nr.up hb35).up (balloc (bnil w5) _)) ⟨rk_new (l := [2]) rfl rfl rfl, by unfold U32; decide⟩ (Nat.le_trans H3.out.ns.le H3.out.ns.cm)).mono ?_; rintro e w6 ⟨rfl, hb6⟩
  have hb36 := bstep hb35 ((balloc (bnil w5) (.cells #[.int .u32 2] 95)).trans (hb6.mono (by simp)))
  go_wp2
  go_ret
  exact ⟨rfl, bstep HB3.out hb36⟩
end Go.Proofs.YteneiianpghalaaDoor
namespace Go.Proofs.YteneiianpghalaaDoor
set_option linter.unusedVariables false

/-- the ways of a node by these labels -/
def wayL (k N : Nat) (tb : List Int) : List Int → Nat → Nat
  | [], _ => 1
  | x :: s, u => stepC k N (fun w => decide (tb.getD w 0 = x)) (wayL k N tb s) (N * k) u
theorem wv_wayL {k N : Nat} {tb wl : List Int} : ∀ c, c ≤ wl.length → ∀ u, wv k N (N * k) wl.length (fitW tb wl) (fun _ => 1) c u = wayL k N tb (wl.drop (wl.length - c)) u
  | 0, _, u => by rw [Nat.sub_zero, List.drop_length]; rfl
  | c + 1, h, u => by
    have ih := wv_wayL (k := k) (N := N) (tb := tb) (wl := wl) c (by omega)
    have e : wl.drop (wl.length - (c + 1)) = wl.getD (wl.length - 1 - c) 0 :: wl.drop (wl.length - c) := by
      rw [List.drop_eq_getElem_cons (show wl.length - (c + 1) < wl.length by omega)]
      congr 1
      · simp [show wl.length - 1 - c < wl.length by omega, show wl.length - (c + 1) = wl.length - 1 - c by omega]
      · congr 1; omega
    rw [e]
    show stepC k N (fitW tb wl (wl.length - 1 - c)) (wv k N (N * k) wl.length (fitW tb wl) (fun _ => 1) c) (N * k) u = stepC k N _ _ _ u
    have e2 : wv k N (N * k) wl.length (fitW tb wl) (fun _ => 1) c = wayL k N tb (wl.drop (wl.length - c)) := funext ih
    rw [e2]
    rfl
theorem wordsC_wayL {k N : Nat} {tb wl : List Int} : wordsC k N tb wl = sumTo N (wayL k N tb wl) := by
  unfold wordsC
  refine sumTo_congr fun u _ => ?_
  rw [wv_wayL wl.length (Nat.le_refl _), Nat.sub_self, List.drop_zero]
/-- added up over all words of n symbols -/
def sumW (k : Nat) : Nat → (List Int → Nat) → Nat
  | 0, f => f []
  | n + 1, f => sumTo k fun x => sumW k n fun s => f ((x : Int) :: s)
theorem sumW_congr {k n : Nat} {f g : List Int → Nat} (h : ∀ s, f s = g s) : sumW k n f = sumW k n g := by
  have : f = g := funext h
  rw [this]
theorem sumW_sumTo (k : Nat) : ∀ (n m : Nat) (f : Nat → List Int → Nat), sumW k n (fun s => sumTo m fun w => f w s) = sumTo m fun w => sumW k n (f w)
  | 0, m, f => rfl
  | n + 1, m, f => by
    show sumTo k (fun x => sumW k n fun s => sumTo m fun w => f w ((x : Int) :: s)) = sumTo m fun w => sumTo k fun x => sumW k n fun s => f w ((x : Int) :: s)
    rw [sumTo_congr (g := fun x => sumTo m fun w => sumW k n fun s => f w ((x : Int) :: s)) fun x _ => sumW_sumTo k n m fun w s => f w ((x : Int) :: s)]
    exact sumTo_comm k m fun x w => sumW k n fun s => f w ((x : Int) :: s)
theorem sumW_zero (k : Nat) : ∀ n, sumW k n (fun _ => 0) = 0
  | 0 => rfl
  | n + 1 => by
    show sumTo k (fun x => sumW k n fun s => 0) = 0
    exact sumTo_zero fun x _ => sumW_zero k n
theorem sumW_ite (k n : Nat) (c : Prop) [Decidable c] (f : List Int → Nat) : sumW k n (fun s => if c then f s else 0) = if c then sumW k n f else 0 := by
  by_cases h : c
  · simp only [if_pos h]
  · simp only [if_neg h]; exact sumW_zero k n
theorem sumTo_split (a b : Nat) (f : Nat → Nat) : sumTo (a + b) f = sumTo a f + sumTo b fun j => f (a + j) := by
  induction b with
  | zero => rfl
  | succ b ih =>
    show sumTo (a + b) f + f (a + b) = _
    rw [ih, sumTo, Nat.add_assoc]
theorem sumTo_const (n c : Nat) : sumTo n (fun _ => c) = n * c := by
  induction n with
  | zero => simp [sumTo]
  | succ n ih => rw [sumTo, ih, Nat.add_mul, Nat.one_mul]
/-- of each node as many windows lead as there are symbols -/
theorem count_node {k N u : Nat} (hk : 0 < k) (hu : u < N) (v : Nat) : sumTo (N * k) (fun w => if w / k = u then v else 0) = k * v := by
  induction N with
  | zero => omega
  | succ N ih =>
    rw [Nat.add_mul, Nat.one_mul, sumTo_split]
    have e2 : ∀ j, j < k → (N * k + j) / k = N := fun j hj => by
      rw [Nat.mul_comm, Nat.mul_add_div hk, Nat.div_eq_of_lt hj, Nat.add_zero]
    by_cases h : u = N
    · subst h
      rw [sumTo_zero fun w hw => by rw [if_neg (by have := Nat.div_lt_of_lt_mul (m := w) (n := k) (k := u) (by rw [Nat.mul_comm]; exact hw); omega)]]
      rw [sumTo_congr (g := fun _ => v) fun j hj => by rw [e2 j hj, if_pos rfl]]
      rw [sumTo_const, Nat.zero_add]
    · rw [ih (by omega), sumTo_zero (n := k) fun j hj => by rw [e2 j hj, if_neg fun e => h e.symm]]
      rfl
/-- all words together: each node has as many ways as there are words -/
theorem sumW_wayL {k N : Nat} {tb : List Int} (hk : 0 < k) (hN : 0 < N) (ht : ∀ w, w < N * k → 0 ≤ tb.getD w 0 ∧ tb.getD w 0 < (k : Int)) : ∀ n u, u < N → sumW k n (fun s => wayL k N tb s u) = k ^ n
  | 0, u, _ => rfl
  | n + 1, u, hu => by
    have ih := sumW_wayL hk hN ht n
    show sumTo k (fun x => sumW k n fun s => sumTo (N * k) fun w => if w / k = u ∧ decide (tb.getD w 0 = ((x : Nat) : Int)) = true then wayL k N tb s (w % N) else 0) = _
    rw [sumTo_congr (g := fun x => sumTo (N * k) fun w => if w / k = u ∧ decide (tb.getD w 0 = ((x : Nat) : Int)) = true then k ^ n else 0) fun x _ => by
      rw [sumW_sumTo k n (N * k) fun w s => if w / k = u ∧ decide (tb.getD w 0 = ((x : Nat) : Int)) = true then wayL k N tb s (w % N) else 0]
      exact sumTo_congr fun w _ => by rw [sumW_ite, ih _ (Nat.mod_lt _ hN)]]
    rw [sumTo_comm k (N * k) fun x w => if w / k = u ∧ decide (tb.getD w 0 = ((x : Nat) : Int)) = true then k ^ n else 0]
    rw [sumTo_congr (g := fun w => if w / k = u then k ^ n else 0) fun w hw => by
      obtain ⟨h0, h1⟩ := ht w hw
      obtain ⟨y, hy⟩ : ∃ y : Nat, tb.getD w 0 = (y : Int) := ⟨(tb.getD w 0).toNat, by omega⟩
      rw [hy] at h1 ⊢
      by_cases e : w / k = u
      · rw [if_pos e, sumTo_congr (g := fun x => if x = y then k ^ n else 0) fun x _ => by
          by_cases e2 : x = y
          · subst e2; simp [e]
          · have e3 : ¬ ((y : Int) = (x : Int)) := by omega
            simp [e2, e3]]
        exact sumTo_one (fun _ => k ^ n) (by omega)
      · rw [if_neg e, sumTo_zero fun x _ => by simp [e]]]
    rw [count_node hk hu, Nat.pow_succ, Nat.mul_comm]
/-- the numbers of preimages of all words of n symbols, added up -/
theorem sumW_wordsC {k N n : Nat} {tb : List Int} (hk : 0 < k) (hN : 0 < N) (ht : ∀ w, w < N * k → 0 ≤ tb.getD w 0 ∧ tb.getD w 0 < (k : Int)) : sumW k n (fun s => wordsC k N tb s) = N * k ^ n := by
  rw [sumW_congr fun s => wordsC_wayL, sumW_sumTo k n N fun u s => wayL k N tb s u]
  rw [sumTo_congr (g := fun _ => k ^ n) fun u hu => sumW_wayL hk hN ht n u hu]
  exact sumTo_const _ _
end Go.Proofs.YteneiianpghalaaDoor
namespace Go.Proofs.YteneiianpghalaaDoor
set_option linter.unusedVariables false

/-- the ways of a node by these labels, to ends -/
def wayG (k N : Nat) (tb : List Int) (E : Nat → Nat) : List Int → Nat → Nat
  | [], u => E u
  | x :: s, u => stepC k N (fun w => decide (tb.getD w 0 = x)) (wayG k N tb E s) (N * k) u
theorem wv_wayG {k N : Nat} {tb wl : List Int} {E : Nat → Nat} : ∀ c, c ≤ wl.length → ∀ u, wv k N (N * k) wl.length (fitW tb wl) E c u = wayG k N tb E (wl.drop (wl.length - c)) u
  | 0, _, u => by rw [Nat.sub_zero, List.drop_length]; rfl
  | c + 1, h, u => by
    have ih := wv_wayG (k := k) (N := N) (tb := tb) (wl := wl) (E := E) c (by omega)
    have e : wl.drop (wl.length - (c + 1)) = wl.getD (wl.length - 1 - c) 0 :: wl.drop (wl.length - c) := by
      rw [List.drop_eq_getElem_cons (show wl.length - (c + 1) < wl.length by omega)]
      congr 1
      · simp [show wl.length - 1 - c < wl.length by omega, show wl.length - (c + 1) = wl.length - 1 - c by omega]
      · congr 1; omega
    rw [e]
    show stepC k N (fitW tb wl (wl.length - 1 - c)) (wv k N (N * k) wl.length (fitW tb wl) E c) (N * k) u = stepC k N _ _ _ u
    have e2 : wv k N (N * k) wl.length (fitW tb wl) E c = wayG k N tb E (wl.drop (wl.length - c)) := funext ih
    rw [e2]
    rfl
/-- ways by whatever labels -/
def pathS (k N : Nat) (E : Nat → Nat) : Nat → Nat → Nat
  | 0, u => E u
  | n + 1, u => sumTo (N * k) fun w => if w / k = u then pathS k N E n (w % N) else 0
theorem sumW_wayG {k N : Nat} {tb : List Int} {E : Nat → Nat} (hN : 0 < N) (ht : ∀ w, w < N * k → 0 ≤ tb.getD w 0 ∧ tb.getD w 0 < (k : Int)) : ∀ n u, sumW k n (fun s => wayG k N tb E s u) = pathS k N E n u
  | 0, u => rfl
  | n + 1, u => by
    have ih := sumW_wayG (E := E) hN ht n
    show sumTo k (fun x => sumW k n fun s => sumTo (N * k) fun w => if w / k = u ∧ decide (tb.getD w 0 = ((x : Nat) : Int)) = true then wayG k N tb E s (w % N) else 0) = sumTo (N * k) _
    rw [sumTo_congr (g := fun x => sumTo (N * k) fun w => if w / k = u ∧ decide (tb.getD w 0 = ((x : Nat) : Int)) = true then pathS k N E n (w % N) else 0) fun x _ => by
      rw [sumW_sumTo k n (N * k) fun w s => if w / k = u ∧ decide (tb.getD w 0 = ((x : Nat) : Int)) = true then wayG k N tb E s (w % N) else 0]
      exact sumTo_congr fun w _ => by rw [sumW_ite, ih]]
    rw [sumTo_comm k (N * k) fun x w => if w / k = u ∧ decide (tb.getD w 0 = ((x : Nat) : Int)) = true then pathS k N E n (w % N) else 0]
    exact sumTo_congr fun w hw => by
      obtain ⟨h0, h1⟩ := ht w hw
      obtain ⟨y, hy⟩ : ∃ y : Nat, tb.getD w 0 = (y : Int) := ⟨(tb.getD w 0).toNat, by omega⟩
      rw [hy] at h1 ⊢
      by_cases e : w / k = u
      · rw [if_pos e, sumTo_congr (g := fun x => if x = y then pathS k N E n (w % N) else 0) fun x _ => by
          by_cases e2 : x = y
          · subst e2; simp [e]
          · have e3 : ¬ ((y : Int) = (x : Int)) := by omega
            simp [e2, e3]]
        exact sumTo_one (fun _ => pathS k N E n (w % N)) (by omega)
      · rw [if_neg e, sumTo_zero fun x _ => by simp [e]]
theorem sumTo_node {k N u : Nat} (hk : 0 < k) (hu : u < N) (g : Nat → Nat) : sumTo (N * k) (fun w => if w / k = u then g w else 0) = sumTo k fun j => g (u * k + j) := by
  induction N with
  | zero => omega
  | succ N ih =>
    rw [Nat.add_mul, Nat.one_mul, sumTo_split]
    have e2 : ∀ j, j < k → (N * k + j) / k = N := fun j hj => by
      rw [Nat.mul_comm, Nat.mul_add_div hk, Nat.div_eq_of_lt hj, Nat.add_zero]
    by_cases h : u = N
    · subst h
      rw [sumTo_zero fun w hw => by rw [if_neg (by have := Nat.div_lt_of_lt_mul (m := w) (n := k) (k := u) (by rw [Nat.mul_comm]; exact hw); omega)]]
      rw [sumTo_congr (g := fun j => g (u * k + j)) fun j hj => by rw [e2 j hj, if_pos rfl]]
      rw [Nat.zero_add]
    · have hz : sumTo k (fun j => if (N * k + j) / k = u then g (N * k + j) else 0) = 0 := sumTo_zero fun j hj => by rw [e2 j hj, if_neg fun e => h e.symm]
      rw [ih (by omega), hz, Nat.add_zero]
theorem sumTo_mul (a b : Nat) (f : Nat → Nat) : sumTo (a * b) f = sumTo a fun j => sumTo b fun i => f (j * b + i) := by
  induction a with
  | zero => rw [Nat.zero_mul]; rfl
  | succ a ih => rw [Nat.add_mul, Nat.one_mul, sumTo_split, ih]; rfl
theorem pathS_eq {k N : Nat} {E : Nat → Nat} (hk : 0 < k) (hN : 0 < N) : ∀ n u, u < N → pathS k N E n u = sumTo (k ^ n) fun S => E ((u * k ^ n + S) % N)
  | 0, u, hu => by
    show E u = sumTo 1 _
    simp [sumTo, Nat.mod_eq_of_lt hu]
  | n + 1, u, hu => by
    show sumTo (N * k) (fun w => if w / k = u then pathS k N E n (w % N) else 0) = _
    rw [sumTo_node hk hu fun w => pathS k N E n (w % N), Nat.pow_succ, Nat.mul_comm (k ^ n) k, sumTo_mul]
    refine sumTo_congr fun j hj => ?_
    rw [pathS_eq hk hN n _ (Nat.mod_lt _ hN)]
    refine sumTo_congr fun S _ => ?_
    congr 1
    have e : u * (k * k ^ n) + (j * k ^ n + S) = (u * k + j) * k ^ n + S := by rw [Nat.add_mul, Nat.mul_assoc, Nat.add_assoc]
    rw [e, Nat.add_mod, Nat.mul_mod, Nat.mod_mod, ← Nat.mul_mod, ← Nat.add_mod]
/-- one step of a ring's node by the number S -/
def phi (z S N u : Nat) : Nat := (u * z + S) % N
def itP (z S N : Nat) : Nat → Nat → Nat
  | 0, u => u
  | m + 1, u => phi z S N (itP z S N m u)
theorem itP_comm (z S N : Nat) : ∀ m u, itP z S N m (phi z S N u) = phi z S N (itP z S N m u)
  | 0, u => rfl
  | m + 1, u => by show phi z S N (itP z S N m (phi z S N u)) = _; rw [itP_comm z S N m u]; rfl
theorem itP_same {k n t S : Nat} (hn : 1 ≤ n) (u v : Nat) : ∀ a, a ≤ t → itP (k ^ n) S (k ^ t) a u % k ^ a = itP (k ^ n) S (k ^ t) a v % k ^ a
  | 0, _ => by simp [Nat.mod_one]
  | a + 1, h => by
    have ih := itP_same (k := k) (t := t) (S := S) hn u v a (by omega)
    have hd : k ^ (a + 1) ∣ k ^ t := Nat.pow_dvd_pow k h
    have hd2 : k ^ (a + 1) ∣ k ^ a * k ^ n := by rw [← Nat.pow_add]; exact Nat.pow_dvd_pow k (by omega)
    show (_ * k ^ n + S) % k ^ t % k ^ (a + 1) = (_ * k ^ n + S) % k ^ t % k ^ (a + 1)
    rw [Nat.mod_mod_of_dvd _ hd, Nat.mod_mod_of_dvd _ hd]
    generalize itP (k ^ n) S (k ^ t) a u = x at *
    generalize itP (k ^ n) S (k ^ t) a v = y at *
    have e : x * k ^ n % k ^ (a + 1) = y * k ^ n % k ^ (a + 1) := by
      rw [← Nat.mod_mod_of_dvd (x * k ^ n) hd2, ← Nat.mod_mod_of_dvd (y * k ^ n) hd2, Nat.mul_mod_mul_right, Nat.mul_mod_mul_right, ih]
    rw [Nat.add_mod, e, ← Nat.add_mod]
theorem phi_one {k n t S : Nat} (hk : 0 < k) (hn : 1 ≤ n) : sumTo (k ^ t) (fun u => if phi (k ^ n) S (k ^ t) u = u then 1 else 0) = 1 := by
  have hN : 0 < k ^ t := Nat.pow_pos hk
  obtain ⟨c, hc⟩ : ∃ c, itP (k ^ n) S (k ^ t) t 0 % k ^ t = c := ⟨_, rfl⟩
  have hcl : c < k ^ t := by rw [← hc]; exact Nat.mod_lt _ hN
  have hall : ∀ u, itP (k ^ n) S (k ^ t) t u % k ^ t = c := fun u => by rw [← hc]; exact itP_same hn u 0 t (Nat.le_refl _)
  have hphi : ∀ x y, x % k ^ t = y % k ^ t → phi (k ^ n) S (k ^ t) x = phi (k ^ n) S (k ^ t) y := fun x y e => by
    unfold phi
    rw [Nat.add_mod, Nat.mul_mod, e, ← Nat.mul_mod, ← Nat.add_mod]
  have hfix : ∀ u, phi (k ^ n) S (k ^ t) u = u → ∀ m, itP (k ^ n) S (k ^ t) m u = u := fun u hu m => by
    induction m with
    | zero => rfl
    | succ m ih => show phi _ _ _ _ = _; rw [ih]; exact hu
  have hcf : phi (k ^ n) S (k ^ t) c = c := by
    have h1 := hall (phi (k ^ n) S (k ^ t) 0)
    rw [itP_comm] at h1
    have h2 : phi (k ^ n) S (k ^ t) (itP (k ^ n) S (k ^ t) t 0) = phi (k ^ n) S (k ^ t) c := hphi _ _ (by rw [hc, Nat.mod_eq_of_lt hcl])
    rw [h2] at h1
    rw [Nat.mod_eq_of_lt (show phi (k ^ n) S (k ^ t) c < k ^ t from Nat.mod_lt _ hN)] at h1
    exact h1
  rw [sumTo_congr (g := fun u => if u = c then 1 else 0) fun u hu => by
    by_cases e : phi (k ^ n) S (k ^ t) u = u
    · rw [if_pos e]
      have := hall u
      rw [hfix u e, Nat.mod_eq_of_lt hu] at this
      rw [if_pos this]
    · rw [if_neg e, if_neg fun e2 => e (by rw [e2]; exact hcf)]]
  exact sumTo_one (fun _ => 1) hcl

/-- the numbers of preimages of all rings of n cells, added up -/
theorem sumW_ringsC {k n t : Nat} {tb : List Int} (hk : 0 < k) (hn : 1 ≤ n) (ht : ∀ w, w < k ^ t * k → 0 ≤ tb.getD w 0 ∧ tb.getD w 0 < (k : Int)) :
    sumW k n (fun s => sumTo (k ^ t) fun u => wayG k (k ^ t) tb (unitE u) s u) = k ^ n := by
  have hN : 0 < k ^ t := Nat.pow_pos hk
  rw [sumW_sumTo k n (k ^ t) fun u s => wayG k (k ^ t) tb (unitE u) s u]
  rw [sumTo_congr (g := fun u => sumTo (k ^ n) fun S => if phi (k ^ n) S (k ^ t) u = u then 1 else 0) fun u hu => by
    rw [sumW_wayG hN ht, pathS_eq hk hN n u hu]; rfl]
  rw [sumTo_comm (k ^ t) (k ^ n) fun u S => if phi (k ^ n) S (k ^ t) u = u then 1 else 0]
  rw [sumTo_congr (g := fun _ => 1) fun S _ => phi_one hk hn, sumTo_const, Nat.mul_one]
theorem ringsC_wayG {k N n : Nat} {tb wl : List Int} (hn : n = wl.length) : ringsC k N (N * k) n (fitW tb wl) N = sumTo N fun u => wayG k N tb (unitE u) wl u := by
  subst hn
  unfold ringsC
  refine sumTo_congr fun u _ => ?_
  rw [wv_wayG wl.length (Nat.le_refl _), Nat.sub_self, List.drop_zero]

/-- the word of n symbols with the number i -/
def digsF (k : Nat) : Nat → Nat → List Int
  | 0, _ => []
  | n + 1, i => ((i / k ^ n : Nat) : Int) :: digsF k n (i % k ^ n)
theorem digsF_len (k : Nat) : ∀ n i, (digsF k n i).length = n
  | 0, _ => rfl
  | n + 1, i => by rw [digsF, List.length_cons, digsF_len k n]
theorem digsF_mem {k : Nat} (hk : 0 < k) : ∀ n i, i < k ^ n → ∀ x ∈ digsF k n i, 0 ≤ x ∧ x < (k : Int)
  | 0, _, _, x, hx => by cases hx
  | n + 1, i, hi, x, hx => by
    have hN : 0 < k ^ n := Nat.pow_pos hk
    rw [digsF, List.mem_cons] at hx
    rcases hx with rfl | hx
    · have : i / k ^ n < k := Nat.div_lt_of_lt_mul (by rw [← Nat.pow_succ]; exact hi)
      exact ⟨Int.natCast_nonneg _, Int.ofNat_lt.2 this⟩
    · exact digsF_mem hk n _ (Nat.mod_lt _ hN) x hx
/-- all words, gone through by their numbers -/
theorem sumW_digs {k : Nat} (hk : 0 < k) : ∀ n (f : List Int → Nat), sumW k n f = sumTo (k ^ n) fun i => f (digsF k n i)
  | 0, f => by show f [] = sumTo 1 _; simp [sumTo, digsF]
  | n + 1, f => by
    have hN : 0 < k ^ n := Nat.pow_pos hk
    rw [Nat.pow_succ, Nat.mul_comm (k ^ n) k, sumTo_mul]
    refine sumTo_congr fun j _ => ?_
    rw [sumW_digs hk n fun s => f ((j : Int) :: s)]
    refine sumTo_congr fun i hi => ?_
    have e1 : (j * k ^ n + i) / k ^ n = j := by rw [Nat.mul_comm, Nat.mul_add_div hN, Nat.div_eq_of_lt hi, Nat.add_zero]
    have e2 : (j * k ^ n + i) % k ^ n = i := by rw [Nat.mul_comm, Nat.mul_add_mod, Nat.mod_eq_of_lt hi]
    show f ((j : Int) :: digsF k n i) = f (((j * k ^ n + i) / k ^ n : Nat) :: digsF k n ((j * k ^ n + i) % k ^ n))
    rw [e1, e2]
end Go.Proofs.YteneiianpghalaaDoor
namespace Go.Proofs.YteneiianpghalaaDoor
set_option linter.unusedVariables false

/-- one more symbol, forward: over the first x windows -/
def fwdC (k N : Nat) (fits : Nat → Bool) (at_ : Nat → Nat) (x v : Nat) : Nat := sumTo x fun w => if w % N = v ∧ fits w = true then at_ (w / k) else 0
theorem fwdC_succ (k N : Nat) (fits : Nat → Bool) (at_ : Nat → Nat) (x v : Nat) : fwdC k N fits at_ (x + 1) v = fwdC k N fits at_ x v + if x % N = v ∧ fits x = true then at_ (x / k) else 0 := rfl
theorem fwdC_skip {k N : Nat} {fits : Nat → Bool} {at_ : Nat → Nat} {x : Nat} (h : fits x = false ∨ at_ (x / k) = 0) (v : Nat) : fwdC k N fits at_ (x + 1) v = fwdC k N fits at_ x v := by
  rw [fwdC_succ]
  split
  · rename_i h2
    rcases h with h | h
    · rw [h] at h2; exact absurd h2.2 (by decide)
    · rw [h]; rfl
  · rfl
/-- forward over the places 0 to i - 1 -/
def fwd (k N : Nat) (p : Nat → Nat → Bool) (A : Nat → Nat) : Nat → Nat → Nat
  | 0 => A
  | i + 1 => fwdC k N (p i) (fwd k N p A i) (N * k)
theorem fwd_dual {k N : Nat} (hk : 0 < k) (hN : 0 < N) (fits : Nat → Bool) (f g : Nat → Nat) : sumTo N (fun v => fwdC k N fits f (N * k) v * g v) = sumTo N fun u => f u * stepC k N fits g (N * k) u := by
  have e1 : sumTo N (fun v => fwdC k N fits f (N * k) v * g v) = sumTo (N * k) fun w => if fits w = true then f (w / k) * g (w % N) else 0 := by
    have h1 : sumTo N (fun v => fwdC k N fits f (N * k) v * g v) = sumTo N fun v => sumTo (N * k) fun w => if v = w % N then (if fits w = true then f (w / k) * g v else 0) else 0 := by
      refine sumTo_congr fun v _ => ?_
      unfold fwdC
      rw [← sumTo_mulR]
      refine sumTo_congr fun w _ => ?_
      by_cases hv : w % N = v
      · rw [if_pos hv.symm]
        by_cases hf : fits w = true
        · rw [if_pos ⟨hv, hf⟩, if_pos hf]
        · rw [if_neg (fun h => hf h.2), if_neg hf, Nat.zero_mul]
      · rw [if_neg (fun h => hv h.1), if_neg (fun h => hv h.symm), Nat.zero_mul]
    rw [h1, sumTo_comm]
    refine sumTo_congr fun w _ => ?_
    rw [sumTo_one (fun v => if fits w = true then f (w / k) * g v else 0) (Nat.mod_lt _ hN)]
  have e2 : sumTo N (fun u => f u * stepC k N fits g (N * k) u) = sumTo (N * k) fun w => if fits w = true then f (w / k) * g (w % N) else 0 := by
    have h1 : sumTo N (fun u => f u * stepC k N fits g (N * k) u) = sumTo N fun u => sumTo (N * k) fun w => if u = w / k then (if fits w = true then f u * g (w % N) else 0) else 0 := by
      refine sumTo_congr fun u _ => ?_
      unfold stepC
      rw [← sumTo_mulL]
      refine sumTo_congr fun w _ => ?_
      by_cases hv : w / k = u
      · rw [if_pos hv.symm]
        by_cases hf : fits w = true
        · rw [if_pos ⟨hv, hf⟩, if_pos hf]
        · rw [if_neg (fun h => hf h.2), if_neg hf, Nat.mul_zero]
      · rw [if_neg (fun h => hv h.1), if_neg (fun h => hv h.symm), Nat.mul_zero]
    rw [h1, sumTo_comm]
    refine sumTo_congr fun w hw => ?_
    have hlt : w / k < N := Nat.div_lt_of_lt_mul (by rw [Nat.mul_comm]; exact hw)
    rw [sumTo_one (fun u => if fits w = true then f u * g (w % N) else 0) hlt]
  rw [e1, e2]
theorem fwd_wv {k N n : Nat} (hk : 0 < k) (hN : 0 < N) (p : Nat → Nat → Bool) (A E : Nat → Nat) : ∀ i, i ≤ n → sumTo N (fun u => fwd k N p A i u * wv k N (N * k) n p E (n - i) u) = sumTo N fun u => A u * wv k N (N * k) n p E n u
  | 0, _ => rfl
  | i + 1, h => by
    rw [← fwd_wv hk hN p A E i (by omega)]
    show sumTo N (fun u => fwdC k N (p i) (fwd k N p A i) (N * k) u * _) = _
    rw [fwd_dual hk hN]
    refine sumTo_congr fun u _ => ?_
    congr 1
    have e : n - i = n - (i + 1) + 1 := by omega
    rw [e]
    show _ = stepC k N (p (n - 1 - (n - (i + 1)))) _ _ u
    rw [show n - 1 - (n - (i + 1)) = i by omega]
theorem fwd_words {k N : Nat} (hk : 0 < k) (hN : 0 < N) (tb wl : List Int) : sumTo N (fwd k N (fitW tb wl) (fun _ => 1) wl.length) = wordsC k N tb wl := by
  have h := fwd_wv (n := wl.length) hk hN (fitW tb wl) (fun _ => 1) (fun _ => 1) wl.length (Nat.le_refl _)
  rw [Nat.sub_self] at h
  have e1 : sumTo N (fun u => fwd k N (fitW tb wl) (fun _ => 1) wl.length u * wv k N (N * k) wl.length (fitW tb wl) (fun _ => 1) 0 u) = sumTo N (fwd k N (fitW tb wl) (fun _ => 1) wl.length) := sumTo_congr fun u _ => Nat.mul_one _
  have e2 : sumTo N (fun u => 1 * wv k N (N * k) wl.length (fitW tb wl) (fun _ => 1) wl.length u) = wordsC k N tb wl := sumTo_congr fun u _ => Nat.one_mul _
  rw [← e1, ← e2]
  exact h
theorem fwd_ring {k N n u : Nat} (hk : 0 < k) (hN : 0 < N) (hu : u < N) (p : Nat → Nat → Bool) : fwd k N p (unitE u) n u = wv k N (N * k) n p (unitE u) n u := by
  have h := fwd_wv (n := n) hk hN p (unitE u) (unitE u) n (Nat.le_refl _)
  rw [Nat.sub_self] at h
  have e1 : sumTo N (fun v => fwd k N p (unitE u) n v * wv k N (N * k) n p (unitE u) 0 v) = fwd k N p (unitE u) n u := by
    rw [← sumTo_one (fun v => fwd k N p (unitE u) n v) hu]
    refine sumTo_congr fun v _ => ?_
    show _ * unitE u v = _
    unfold unitE
    split
    · rw [Nat.mul_one]
    · rw [Nat.mul_zero]
  have e2 : sumTo N (fun v => unitE u v * wv k N (N * k) n p (unitE u) n v) = wv k N (N * k) n p (unitE u) n u := by
    rw [← sumTo_one (fun v => wv k N (N * k) n p (unitE u) n v) hu]
    refine sumTo_congr fun v _ => ?_
    unfold unitE
    split
    · rw [Nat.one_mul]
    · rw [Nat.zero_mul]
  rw [← e1, ← e2]
  exact h
/-- what the document's answer adds up: over the nodes, the ways back -/
theorem fwd_rings {k N n : Nat} (hk : 0 < k) (hN : 0 < N) (p : Nat → Nat → Bool) : sumTo N (fun u => fwd k N p (unitE u) n u) = ringsC k N (N * k) n p N := sumTo_congr fun u hu => fwd_ring hk hN hu p
theorem sumTo_mono {n : Nat} {f g : Nat → Nat} (h : ∀ i, i < n → f i ≤ g i) : sumTo n f ≤ sumTo n g := by
  induction n with
  | zero => exact Nat.le_refl _
  | succ n ih =>
    rw [sumTo, sumTo]
    exact Nat.add_le_add (ih fun i hi => h i (by omega)) (h n (by omega))
theorem fwd_lt {k N L : Nat} {p : Nat → Nat → Bool} {A : Nat → Nat} (hA : sumTo N A ≤ L) (hk : 0 < k) (hN : 0 < N) : ∀ i, sumTo N (fwd k N p A i) ≤ L * k ^ i
  | 0 => by rw [Nat.pow_zero, Nat.mul_one]; exact hA
  | i + 1 => by
    have ih := fwd_lt (p := p) hA hk hN i
    have h := fwd_dual hk hN (p i) (fwd k N p A i) (fun _ => 1)
    have e1 : sumTo N (fwd k N p A (i + 1)) = sumTo N fun v => fwdC k N (p i) (fwd k N p A i) (N * k) v * 1 := sumTo_congr fun v _ => (Nat.mul_one _).symm
    rw [e1, h]
    have h2 : ∀ u, u < N → stepC k N (p i) (fun _ => 1) (N * k) u ≤ k := by
      intro u hu
      have h3 := count_node hk hu 1
      rw [Nat.mul_one] at h3
      refine Nat.le_trans ?_ (Nat.le_of_eq h3)
      unfold stepC
      refine sumTo_mono fun w _ => ?_
      split
      · rename_i h4; rw [if_pos h4.1]; exact Nat.le_refl _
      · exact Nat.zero_le _
    have h5 : sumTo N (fun u => fwd k N p A i u * stepC k N (p i) (fun _ => 1) (N * k) u) ≤ sumTo N fun u => fwd k N p A i u * k := sumTo_mono fun u hu => Nat.mul_le_mul_left _ (h2 u hu)
    rw [sumTo_mulR] at h5
    refine Nat.le_trans h5 ?_
    rw [Nat.pow_succ, ← Nat.mul_assoc]
    exact Nat.mul_le_mul_right _ ih
theorem sumTo_at {n i : Nat} (f : Nat → Nat) (h : i < n) : f i ≤ sumTo n f := by
  induction n with
  | zero => omega
  | succ n ih =>
    rw [sumTo]
    by_cases e : i = n
    · subst e; omega
    · have := ih (by omega); omega
end Go.Proofs.YteneiianpghalaaDoor
