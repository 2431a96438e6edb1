/- edenref02.Mul over any limbs. -/
import Derived.Test.YtnmegpplfbkpcaaDoorR02B
import Derived.BigQuiet
import Derived.Deep.QuietTactic
namespace Go.Proofs.YtnmegpplfbkpcaaDoor
open Go.RowKit
set_option linter.unusedVariables false
set_option maxRecDepth 100000

theorem own16 {w : World} {B g n c k : Nat} {cur : List Nat} (h : w.ownsRow B 73 1 (.slice (some ⟨g, 0, none⟩) n c) n ((ofN cur).map (Value.int .u32))) (x : Nat) : (w.setCell ⟨g, k, none⟩ (.int .u32 (x : Int))).ownsRow B 73 1 (.slice (some ⟨g, 0, none⟩) n c) n ((ofN (cur.set k x)).map (Value.int .u32)) := by
  have := own_set h k (.int .u32 (x : Int))
  rwa [map_setu] at this
set_option maxHeartbeats 16000000 in
theorem mul16 (a1 a2 : Option Addr) (n1 n2 c1 c2 : Nat) (l1 l2 : List Nat) (W : World) (h1 : NR W a1 n1 l1) (h2 : NR W a2 n2 l2) (hm1 : n1 ≤ 200000) (hm2 : n2 ≤ 200000) :
    Calls Tryd.prog 86 #[.slice a1 n1 c1, .slice a2 n2 c2] W fun e w' => ∃ a' n' c', e = .returned (.slice a' n' c') ∧ w'.ownsRow W.heap.size 73 1 (.slice a' n' c') n' ((ofN (limbs (val l1 * val l2))).map (Value.int .u32)) ∧ Below W.heap.size W w' := by
  have H1 := Lib.hid (half16 a1 n1 c1 l1 W h1 (by omega))
  have H2 : Hid (∀ w', Below W.heap.size W w' → Calls Tryd.prog 107 #[.slice a2 n2 c2] w' _) := fun w' hb => half16 a2 n2 c2 l2 w' (h2.up hb) (by omega)
  clear h1 h2
  go_enter Tryd.func86, Tryd.ntmps86
  go_wp2_with fail
  refine H1.out.mono ?_; rintro e w1 ⟨ax, nx, cx, rfl, hox, hnx, hb1⟩
  have HB1 := Lib.hid hb1
  have HOX := Lib.hid hox
  clear hb1 hox H1
  go_wp2_with fail
  refine (H2.out _ HB1.out).mono ?_; rintro e w2 ⟨ay, ny, cy, rfl, hoy, hny, hb2⟩
  have hrx := rk16 HOX.out hb2
  have hry := RK.of_own hoy
  have HB2 := Lib.hid (HB1.out.trans (hb2.mono HB1.out.size))
  have HV : Hid (v16 (hlv (val l1)) = val l1 ∧ v16 (hlv (val l2)) = val l2) := ⟨v16_hlv _, v16_hlv _⟩
  have HU : Hid (H16 (hlv (val l1)) ∧ H16 (hlv (val l2))) := ⟨hlv_h16 _, hlv_h16 _⟩
  clear hb2 hoy HOX HB1 H2
  generalize hlv (val l1) = X at *
  generalize hlv (val l2) = Y at *
  have HLX : Hid (nx = X.length) := by show nx = _; rw [hrx.len, ofN_len]
  have HLY : Hid (ny = Y.length) := by show ny = _; rw [hry.len, ofN_len]
  have HX := Lib.hid hrx
  have HY := Lib.hid hry
  clear hrx hry
  have w01 : IntKind.i64.wrap ((nx : Int) + (ny : Int)) = (nx : Int) + (ny : Int) := IntWalk.i64_in _ (by omega)
  have w02 : IntKind.i64.wrap ((nx : Int) + (ny : Int) + 1) = (nx : Int) + (ny : Int) + 1 := IntWalk.i64_in _ (by omega)
  obtain ⟨L, hL⟩ : ∃ L, nx + ny + 1 = L := ⟨_, rfl⟩
  have HLL := Lib.hid hL
  have hLI : (nx : Int) + (ny : Int) + 1 = (L : Int) := by omega
  have hL6 : L ≤ 1000000 := by omega
  clear hL
  go_wp2_with (first
    | (at_make; refine mk_full rfl _ _ _ rfl w2.heap.size et_u32 .i64 .i64 _ _ L rfl rfl (by omega) (by omega) (by omega) (by unfold maxLen; omega) (Nat.le_refl _) ?_; intro w3 hown3 hb3 hsz3; rw [made_u32] at hown3; have HO3 := Lib.hid hown3; have HB3 := Lib.hid hb3; clear hown3 hb3 hsz3))
  obtain ⟨g, hg⟩ : ∃ g, w2.heap.size = g := ⟨_, rfl⟩
  rw [hg] at HO3
  simp only [hg]
  have HG := Lib.hid hg
  clear hg w01 w02 hLI
  go_loopw [8] (fun iv wr => ∃ (i : Nat) (cur : List Nat), i ≤ nx ∧ iv = .int .i64 (i : Nat) ∧ MulH X Y cur i ∧ wr.ownsRow g 73 1 (.slice (some ⟨g, 0, none⟩) L L) L ((ofN cur).map (Value.int .u32)) ∧ Below w2.heap.size w2 wr) (fun iv _ => nx - (intOf iv).toNat)
  case atStart => exact ⟨0, _, by omega, rfl, by have := mulH_start X Y; rwa [← HLX.out, ← HLY.out, HLL.out] at this, HO3.out, HB3.out⟩
  case round =>
    clear HO3 HB3
    obtain ⟨i, cur, hi, rfl, hml, ho, hb⟩ := hrel
    have HM := Lib.hid hml
    have HO := Lib.hid ho
    have HB := Lib.hid hb
    clear hml ho hb
    by_cases hix : i < nx
    · have i0 : (0 : Int) ≤ (i : Int) := by omega
      have i1 : (i : Int) < (nx : Int) := by omega
      have iw : IntKind.i64.wrap ((i : Int) + 1) = ((i + 1 : Nat) : Int) := by rw [IntWalk.i64_in _ (by omega)]; rfl
      have inw : IntKind.i64.wrap ((i : Int) + (ny : Int)) = ((i + ny : Nat) : Int) := by rw [IntWalk.i64_in _ (by omega)]; rfl
      have hux := h16_at HU.out.1 i
      obtain ⟨x, hx⟩ : ∃ x, X.getD i 0 = x := ⟨_, rfl⟩
      rw [hx] at hux
      have HXE := Lib.hid hx
      clear hx
      go_wp2_with fail
      go_loopw [9, 10] (fun cv jv wr => ∃ (j c : Nat) (cur : List Nat), j ≤ ny ∧ jv = .int .i64 (j : Nat) ∧ cv = .int .u32 (c : Nat) ∧ MulHI X Y cur i j c ∧ wr.ownsRow g 73 1 (.slice (some ⟨g, 0, none⟩) L L) L ((ofN cur).map (Value.int .u32)) ∧ Below w2.heap.size w2 wr) (fun _ jv _ => ny - (intOf jv).toNat)
      case atStart => exact ⟨0, 0, cur, by omega, rfl, rfl, mulHI_start HM.out, HO.out, HB.out⟩
      case round =>
        clear HM HO HB
        clear cur
        obtain ⟨j, c, cur, hj, rfl, rfl, hin, ho, hb⟩ := hrel
        have HIN := Lib.hid hin
        have HO := Lib.hid ho
        have HB := Lib.hid hb
        have hcl : cur.length = L := by have := hin.len; have := HLX.out; have := HLY.out; have := HLL.out; omega
        have hc6 := hin.lt
        clear hin ho hb
        by_cases hjy : j < ny
        · obtain ⟨bX, oX, rfl, _, hcx⟩ := (HX.out.up HB.out).addr (by omega)
          obtain ⟨bY, oY, rfl, _, hcy⟩ := (HY.out.up HB.out).addr (by omega)
          have zx := hcx i hix
          have zy := hcy j hjy
          rw [ofN_at, HXE.out] at zx
          rw [ofN_at] at zy
          have huy := h16_at HU.out.2 j
          have hst := mulHI_step HIN.out (by have := HLX.out; omega) (by have := HLY.out; omega) HU.out.1 HU.out.2
          have huz := h16_at HIN.out.u (i + j)
          have hLb : i + j < L := by have := HLL.out; omega
          have z0 : wr.cell? ⟨g, i + j, none⟩ = some (.int .u32 (cur.getD (i + j) 0 : Nat)) := by rw [HO.out.cellAt (i + j) (by omega), mapu_at _ _ (by omega)]
          have f0 := HO.out.frozenAt (i + j)
          rw [HXE.out] at hst
          obtain ⟨y, hy⟩ : ∃ y, Y.getD j 0 = y := ⟨_, rfl⟩
          obtain ⟨z, hz⟩ : ∃ z, cur.getD (i + j) 0 = z := ⟨_, rfl⟩
          rw [hy, hz] at hst
          rw [hy] at zy huy
          rw [hz] at z0 huz
          obtain ⟨l1', l2', l3', _⟩ := mulH_lt hux huy huz hc6
          obtain ⟨P, hP⟩ : ∃ P, x * y = P := ⟨_, rfl⟩
          have hPI : (x : Int) * (y : Int) = (P : Int) := by rw [← hP]; simp
          rw [hP] at hst l1' l2' l3'
          obtain ⟨T, hT⟩ : ∃ T, P + c = T := ⟨_, rfl⟩
          rw [hT] at hst l1' l2' l3'
          obtain ⟨q1, hq1⟩ : ∃ q1, T / 65536 = q1 := ⟨_, rfl⟩
          obtain ⟨m1, hm1'⟩ : ∃ m1, T % 65536 = m1 := ⟨_, rfl⟩
          rw [hq1, hm1'] at hst l3'
          rw [hm1'] at l2'
          obtain ⟨T2, hT2⟩ : ∃ T2, z + m1 = T2 := ⟨_, rfl⟩
          rw [hT2] at hst l2' l3'
          obtain ⟨q2, hq2⟩ : ∃ q2, T2 / 65536 = q2 := ⟨_, rfl⟩
          obtain ⟨m2, hm2'⟩ : ∃ m2, T2 % 65536 = m2 := ⟨_, rfl⟩
          rw [hq2, hm2'] at hst
          rw [hq2] at l3'
          have hown := own16 (k := i + j) HO.out m2
          have HST := Lib.hid hst
          have HOW := Lib.hid hown
          have HBW := Lib.hid (HB.out.setCell (p := ⟨g, i + j, none⟩) (by rw [HG.out]; exact Nat.le_refl _) (.int .u32 (m2 : Int)))
          have e1 : IntKind.u32.wrap ((x : Int) * (y : Int)) = (P : Int) := by rw [hPI]; exact wr32 _ (by omega)
          have e2 : IntKind.u32.wrap ((P : Int) + (c : Int)) = (T : Int) := by rw [wr32i _ (by omega) (by omega)]; omega
          have e3 : (T : Int).tmod 65536 = (m1 : Int) := by rw [Int.tmod_eq_emod_of_nonneg (by omega)]; omega
          have e4 : (T : Int).tdiv 65536 = (q1 : Int) := by rw [Int.tdiv_eq_ediv_of_nonneg (by omega)]; omega
          have e3' : (T : Int) % 65536 = (m1 : Int) := by omega
          have e4' : (T : Int) / 65536 = (q1 : Int) := by omega
          have e5 : IntKind.u32.wrap (m1 : Int) = (m1 : Int) := wr32 _ (by omega)
          have e6 : IntKind.u32.wrap (q1 : Int) = (q1 : Int) := wr32 _ (by omega)
          have e7 : IntKind.u32.wrap ((z : Int) + (m1 : Int)) = (T2 : Int) := by rw [wr32i _ (by omega) (by omega)]; omega
          have e8 : (T2 : Int).tmod 65536 = (m2 : Int) := by rw [Int.tmod_eq_emod_of_nonneg (by omega)]; omega
          have e9 : (T2 : Int).tdiv 65536 = (q2 : Int) := by rw [Int.tdiv_eq_ediv_of_nonneg (by omega)]; omega
          have e8' : (T2 : Int) % 65536 = (m2 : Int) := by omega
          have e9' : (T2 : Int) / 65536 = (q2 : Int) := by omega
          have e10 : IntKind.u32.wrap (m2 : Int) = (m2 : Int) := wr32 _ (by omega)
          have e11 : IntKind.u32.wrap (q2 : Int) = (q2 : Int) := wr32 _ (by omega)
          have e12 : IntKind.u32.wrap ((q1 : Int) + (q2 : Int)) = ((q1 + q2 : Nat) : Int) := by rw [wr32i _ (by omega) (by omega)]; omega
          have j0 : (0 : Int) ≤ (j : Int) := by omega
          have j1 : (j : Int) < (ny : Int) := by omega
          have jw : IntKind.i64.wrap ((j : Int) + 1) = ((j + 1 : Nat) : Int) := by rw [IntWalk.i64_in _ (by omega)]; rfl
          have ijw : IntKind.i64.wrap ((i : Int) + (j : Int)) = ((i + j : Nat) : Int) := by rw [IntWalk.i64_in _ (by omega)]; rfl
          obtain ⟨Q, hQ⟩ : ∃ Q, i + j = Q := ⟨_, rfl⟩
          rw [hQ] at z0 f0 ijw HOW HBW HST hLb
          have Q0 : (0 : Int) ≤ (Q : Int) := by omega
          have Q1 : (Q : Int) < (L : Int) := by omega
          clear hcx hcy hst hown huy huz hy hz hP hT hq1 hm1' hT2 hq2 hm2' hQ hPI hcl
          go_wp2_with fail
          go_quiet (fail)
          generalize nq = d1 at *
          go_wp2
          go_roundw
          case rel => exact ⟨j + 1, q1 + q2, _, by omega, rfl, rfl, HST.out, HOW.out, bdrewN HBW.out d1⟩
          case measure => simp [intOf]; omega
        · obtain rfl : j = ny := by omega
          have j1 : ¬ (j : Int) < (j : Int) := by omega
          have hzero := HIN.out.zero (i + j) (by have := HLY.out; omega)
          have hLb : i + j < L := by have := HLL.out; omega
          go_wp2_with fail
          go_loopw [9, 13] (fun cv kv wx => ∃ (cc kk : Nat) (cur' : List Nat), cv = .int .u32 (cc : Nat) ∧ kv = .int .i64 (kk : Nat) ∧ kk ≤ 1000000 ∧ wx.ownsRow g 73 1 (.slice (some ⟨g, 0, none⟩) L L) L ((ofN cur').map (Value.int .u32)) ∧ Below w2.heap.size w2 wx ∧ ((kk = i + j ∧ cc < 65536 ∧ cur'.getD (i + j) 0 = 0 ∧ MulHI X Y cur' i Y.length cc) ∨ (cc = 0 ∧ MulH X Y cur' (i + 1)))) (fun cv _ _ => (intOf cv).toNat)
          case atStart => exact ⟨c, i + j, cur, rfl, rfl, by omega, HO.out, HB.out, .inl ⟨rfl, hc6, hzero, by rw [← HLY.out]; exact HIN.out⟩⟩
          case round =>
            clear HIN HO HB hcl hzero hc6
            obtain ⟨cc, kk, cur2, rfl, rfl, hkk, ho, hb, hd⟩ := hrel
            have HO := Lib.hid ho
            have HB := Lib.hid hb
            have HD := Lib.hid hd
            clear ho hb hd
            by_cases hc0 : 0 < cc
            · obtain ⟨rfl, hc6, hz, hin⟩ : kk = i + j ∧ cc < 65536 ∧ cur2.getD (i + j) 0 = 0 ∧ MulHI X Y cur2 i Y.length cc := by
                rcases HD.out with h | ⟨h, _⟩
                · exact h
                · omega
              have z0 : wr.cell? ⟨g, i + j, none⟩ = some (.int .u32 (cur2.getD (i + j) 0 : Nat)) := by rw [HO.out.cellAt (i + j) (by omega), mapu_at _ _ (by have := hin.len; have := HLX.out; have := HLY.out; have := HLL.out; omega)]
              have f0 := HO.out.frozenAt (i + j)
              rw [hz] at z0
              have hend := mulHI_end hin (by have := HLX.out; omega)
              rw [← HLY.out] at hend
              have hown := own16 (k := i + j) HO.out cc
              have HBW := Lib.hid (HB.out.setCell (p := ⟨g, i + j, none⟩) (by rw [HG.out]; exact Nat.le_refl _) (.int .u32 (cc : Int)))
              have HEND := Lib.hid hend
              have HOW := Lib.hid hown
              obtain ⟨Q, hQ⟩ : ∃ Q, i + j = Q := ⟨_, rfl⟩
              rw [hQ] at z0 f0 HOW HBW HEND hLb hkk ⊢
              have Q0 : (0 : Int) ≤ (Q : Int) := by omega
              have Q1 : (Q : Int) < (L : Int) := by omega
              have Qw : IntKind.i64.wrap ((Q : Int) + 1) = ((Q + 1 : Nat) : Int) := by rw [IntWalk.i64_in _ (by omega)]; rfl
              have cI : (0 : Int) < (cc : Int) := by omega
              have e1 : IntKind.u32.wrap (cc : Int) = (cc : Int) := wr32 _ (by omega)
              have e2 : (cc : Int).tmod 65536 = (cc : Int) := by rw [Int.tmod_eq_emod_of_nonneg (by omega)]; omega
              have e3 : (cc : Int).tdiv 65536 = 0 := by rw [Int.tdiv_eq_ediv_of_nonneg (by omega)]; omega
              have e2' : (cc : Int) % 65536 = (cc : Int) := by omega
              have e3' : (cc : Int) / 65536 = 0 := by omega
              clear hend hown hin hz hQ inw
              go_wp2
              go_roundw
              case rel => exact ⟨0, Q + 1, _, rfl, rfl, by omega, HOW.out, HBW.out, .inr ⟨rfl, HEND.out⟩⟩
              case measure => simp [intOf]; omega
            · obtain rfl : cc = 0 := by omega
              have hnx : MulH X Y cur2 (i + 1) := by
                rcases HD.out with ⟨_, _, _, h⟩ | ⟨_, h⟩
                · exact mulHI_end0 h (by have := HLX.out; omega)
                · exact h
              have HNX := Lib.hid hnx
              clear hnx
              go_wp2
              go_roundw
              case rel => exact ⟨i + 1, cur2, by omega, rfl, HNX.out, HO.out, HB.out⟩
              case measure => simp [intOf]; omega
    · obtain rfl : i = nx := by omega
      have i1 : ¬ (i : Int) < (i : Int) := by omega
      have hv : v16 cur = val l1 * val l2 := by
        have h := HM.out
        rw [HLX.out] at h
        rw [mulH_end h, HV.out.1, HV.out.2]
      have HVV := Lib.hid hv
      have HW := Lib.hid (whole16 (some ⟨g, 0, none⟩) L L cur wr (RK.of_own HO.out) (by omega) (Nat.le_refl _) (by unfold maxLen; omega) HM.out.u)
      clear hv
      go_wp2_with fail
      refine HW.out.mono ?_; rintro e w9 ⟨a9, n9, c9, rfl, ho9, _, hb9⟩
      rw [HVV.out] at ho9
      have HO9 := Lib.hid ho9
      have HB9 := Lib.hid hb9
      clear ho9 hb9
      have hz := HB2.out.size
      have hz2 := HB.out.size
      go_wp2
      go_ret
      exact ⟨_, _, _, rfl, owns_base HO9.out (by omega), HB2.out.trans ((HB.out.trans (HB9.out.mono HB.out.size)).mono HB2.out.size)⟩
end Go.Proofs.YtnmegpplfbkpcaaDoor
