/- edenref02.Add, Mul over any limbs. -/
import Derived.Test.YtnmegpplfbkpcaaDoorR02A
import Derived.Deep.Cut
namespace Go.Proofs.YtnmegpplfbkpcaaDoor
open Go.RowKit
set_option linter.unusedVariables false
set_option maxRecDepth 100000

/-- a row of halves, read -/
theorem rk16 {w w' : World} {B n c : Nat} {a : Option Addr} {l : List Nat} (h : w.ownsRow B 73 1 (.slice a n c) n ((ofN l).map (Value.int .u32))) (hb : Below w.heap.size w w') : RK .u32 w' a n (ofN l) := (RK.of_own h).up hb
theorem cap16 {w : World} {B n c : Nat} {a : Option Addr} {cs : List Value} (h : w.ownsRow B 73 1 (.slice a n c) n cs) : n ≤ c ∧ c ≤ maxLen := by
  rcases owns_slice h with ⟨_, _, e, h1, h2⟩
  cases e
  exact ⟨h1, h2⟩
set_option maxHeartbeats 16000000 in
theorem add16 (a1 a2 : Option Addr) (n1 n2 c1 c2 : Nat) (l1 l2 : List Nat) (W : World) (h1 : NR W a1 n1 l1) (h2 : NR W a2 n2 l2) (hm1 : n1 ≤ 200000) (hm2 : n2 ≤ 200000) :
    Calls Tryd.prog 85 #[.slice a1 n1 c1, .slice a2 n2 c2] W fun e w' => ∃ a' n' c', e = .returned (.slice a' n' c') ∧ w'.ownsRow W.heap.size 73 1 (.slice a' n' c') n' ((ofN (limbs (val l1 + val l2))).map (Value.int .u32)) ∧ Below W.heap.size W w' := by
  have H1 := Lib.hid (half16 a1 n1 c1 l1 W h1 (by omega))
  have H2 : Hid (∀ w', Below W.heap.size W w' → Calls Tryd.prog 107 #[.slice a2 n2 c2] w' _) := fun w' hb => half16 a2 n2 c2 l2 w' (h2.up hb) (by omega)
  clear h1 h2
  go_enter Tryd.func85, Tryd.ntmps85
  go_wp2_with fail
  refine H1.out.mono ?_; rintro e w1 ⟨ax, nx, cx, rfl, hox, hnx, hb1⟩
  have HB1 := Lib.hid hb1
  have HOX := Lib.hid hox
  clear hb1 hox H1
  go_wp2_with fail
  refine (H2.out _ HB1.out).mono ?_; rintro e w2 ⟨ay, ny, cy, rfl, hoy, hny, hb2⟩
  have hrx := rk16 HOX.out hb2
  have hry := RK.of_own hoy
  have HB2 := Lib.hid (HB1.out.trans (hb2.mono HB1.out.size))
  have HV : Hid (v16 (hlv (val l1)) = val l1 ∧ v16 (hlv (val l2)) = val l2) := ⟨v16_hlv _, v16_hlv _⟩
  have HU : Hid (H16 (hlv (val l1)) ∧ H16 (hlv (val l2))) := ⟨hlv_h16 _, hlv_h16 _⟩
  clear hb2 hoy HOX HB1 H2
  generalize hlv (val l1) = X at *
  generalize hlv (val l2) = Y at *
  have HLX : Hid (nx = X.length) := by show nx = _; rw [hrx.len, ofN_len]
  have HLY : Hid (ny = Y.length) := by show ny = _; rw [hry.len, ofN_len]
  have HX := Lib.hid hrx
  have HY := Lib.hid hry
  clear hrx hry
  go_wp2_with fail
  go_loopw [7, 8, 9] (fun lv cv iv wr => ∃ (i c : Nat) (aa : Option Addr) (cc : Nat) (cur : List Nat), iv = .int .i64 (i : Nat) ∧ cv = .int .u32 (c : Nat) ∧ lv = .slice aa i cc ∧ i ≤ nx + ny + 1 ∧ (nx + ny < i → c = 0) ∧ AddH X Y cur i c ∧ wr.ownsRow w2.heap.size 73 1 (.slice aa i cc) i ((ofN cur).map (Value.int .u32)) ∧ Below w2.heap.size w2 wr) (fun _ _ iv _ => nx + ny + 2 - (intOf iv).toNat)
  case atStart => exact ⟨0, 0, none, 0, [], rfl, rfl, rfl, by omega, fun _ => rfl, addH_start X Y, World.ownsRow_nil _ _ _ _, bnil w2⟩
  case round =>
    obtain ⟨i, c, aa, cc, cur, rfl, rfl, rfl, hi, hic, had, ho, hb⟩ := hrel
    have HIC := Lib.hid hic
    have HO := Lib.hid ho
    have HB := Lib.hid hb
    have hc1 := had.le
    have hst := addH_step had HU.out.1 HU.out.2
    have hux := h16_at HU.out.1 i
    have huy := h16_at HU.out.2 i
    have HAD := Lib.hid had
    have hcl := had.len
    have i0 : (0 : Int) ≤ (i : Int) := by omega
    have iw : IntKind.i64.wrap ((i : Int) + 1) = ((i + 1 : Nat) : Int) := by rw [IntWalk.i64_in _ (by omega)]; rfl
    have hbs := HB.out.size
    have hX0 : nx ≤ i → X.getD i 0 = 0 := fun h => by have := HLX.out; simp [List.getD_eq_getElem?_getD, show X.length ≤ i by omega]
    have hY0 : ny ≤ i → Y.getD i 0 = 0 := fun h => by have := HLY.out; simp [List.getD_eq_getElem?_getD, show Y.length ≤ i by omega]
    have hrx := HX.out.up HB.out
    have hry := HY.out.up HB.out
    clear hic ho hb had
    by_cases hix : i < nx
    · by_cases hiy : i < ny
      · skip
        obtain ⟨bX, oX, rfl, _, hcx⟩ := hrx.addr (by omega)
        have zx := hcx i hix
        rw [ofN_at] at zx
        clear hcx
        have jx : (i : Int) < (nx : Int) := by omega
        obtain ⟨bY, oY, rfl, _, hcy⟩ := hry.addr (by omega)
        have zy := hcy i hiy
        rw [ofN_at] at zy
        clear hcy
        have jy : (i : Int) < (ny : Int) := by omega
        obtain ⟨x, hx⟩ : ∃ x, X.getD i 0 = x := ⟨_, rfl⟩
        obtain ⟨y, hy⟩ : ∃ y, Y.getD i 0 = y := ⟨_, rfl⟩
        rw [hx, hy] at hst
        rw [hx] at hux
        rw [hy] at huy
        rw [hx] at zx
        rw [hy] at zy
        obtain ⟨S1, hS1⟩ : ∃ S1, c + x = S1 := ⟨_, rfl⟩
        obtain ⟨S, hS⟩ : ∃ S, S1 + y = S := ⟨_, rfl⟩
        have w1' : IntKind.u32.wrap ((c : Int) + (x : Int)) = (S1 : Int) := by rw [wr32i _ (by omega) (by omega)]; omega
        have w2' : IntKind.u32.wrap ((S1 : Int) + (y : Int)) = (S : Int) := by rw [wr32i _ (by omega) (by omega)]; omega
        rw [show c + x + y = S from by omega] at hst
        obtain ⟨q, hq⟩ : ∃ q, S / 65536 = q := ⟨_, rfl⟩
        obtain ⟨m, hm⟩ : ∃ m, S % 65536 = m := ⟨_, rfl⟩
        rw [hq, hm] at hst
        have HST := Lib.hid hst
        have HZQ : Hid (nx + ny < i + 1 → q = 0) := fun h => by omega
        have e1 : (S : Int) / 65536 = (q : Int) := by omega
        have e2 : (S : Int) % 65536 = (m : Int) := by omega
        have e3 : (S : Int).tdiv 65536 = (q : Int) := by rw [Int.tdiv_eq_ediv_of_nonneg (by omega)]; exact e1
        have e4 : (S : Int).tmod 65536 = (m : Int) := by rw [Int.tmod_eq_emod_of_nonneg (by omega)]; exact e2
        have e5 : IntKind.u32.wrap (m : Int) = (m : Int) := wr32 _ (by omega)
        have e6 : IntKind.u32.wrap (q : Int) = (q : Int) := wr32 _ (by omega)
        have hi2 : i ≤ 1000000 := by omega
        have hin : i < nx + ny + 1 := by omega
        clear hst hux huy hx hy hq hm hX0 hY0 hrx hry hcl
        go_wp2_with (first | (at_builtin; refine apl rfl _ _ _ rfl w2.heap.size et_u32 _ i _ HO.out rfl 1 _ _ rfl rfl rfl rfl (by unfold maxLen; omega) (by omega) hbs ?_; intro a6 c6 w6 h6; have H6 := Lib.hid h6; clear h6))
        go_roundw
        case rel => exact ⟨i + 1, q, a6, c6, cur ++ [m], rfl, rfl, rfl, by omega, HZQ.out, HST.out, by have h5 := H6.out.own; rw [ofNv_app]; exact h5, HB.out.trans H6.out.below⟩
        case measure => simp [intOf]; omega
      · skip
        obtain ⟨bX, oX, rfl, _, hcx⟩ := hrx.addr (by omega)
        have zx := hcx i hix
        rw [ofN_at] at zx
        clear hcx
        have jx : (i : Int) < (nx : Int) := by omega
        have y0 := hY0 (by omega)
        have jy : ¬ (i : Int) < (ny : Int) := by omega
        obtain ⟨x, hx⟩ : ∃ x, X.getD i 0 = x := ⟨_, rfl⟩
        obtain ⟨y, hy⟩ : ∃ y, Y.getD i 0 = y := ⟨_, rfl⟩
        rw [hx, hy] at hst
        rw [hx] at hux
        rw [hy] at huy
        rw [hx] at zx
        obtain rfl : y = 0 := hy.symm.trans y0
        obtain ⟨S, hS⟩ : ∃ S, c + x = S := ⟨_, rfl⟩
        have w1' : IntKind.u32.wrap ((c : Int) + (x : Int)) = (S : Int) := by rw [wr32i _ (by omega) (by omega)]; omega
        rw [show c + x + 0 = S from by omega] at hst
        obtain ⟨q, hq⟩ : ∃ q, S / 65536 = q := ⟨_, rfl⟩
        obtain ⟨m, hm⟩ : ∃ m, S % 65536 = m := ⟨_, rfl⟩
        rw [hq, hm] at hst
        have HST := Lib.hid hst
        have HZQ : Hid (nx + ny < i + 1 → q = 0) := fun h => by omega
        have e1 : (S : Int) / 65536 = (q : Int) := by omega
        have e2 : (S : Int) % 65536 = (m : Int) := by omega
        have e3 : (S : Int).tdiv 65536 = (q : Int) := by rw [Int.tdiv_eq_ediv_of_nonneg (by omega)]; exact e1
        have e4 : (S : Int).tmod 65536 = (m : Int) := by rw [Int.tmod_eq_emod_of_nonneg (by omega)]; exact e2
        have e5 : IntKind.u32.wrap (m : Int) = (m : Int) := wr32 _ (by omega)
        have e6 : IntKind.u32.wrap (q : Int) = (q : Int) := wr32 _ (by omega)
        have hi2 : i ≤ 1000000 := by omega
        have hin : i < nx + ny + 1 := by omega
        clear hst hux huy hx hy hq hm hX0 hY0 hrx hry hcl
        go_wp2_with (first | (at_builtin; refine apl rfl _ _ _ rfl w2.heap.size et_u32 _ i _ HO.out rfl 1 _ _ rfl rfl rfl rfl (by unfold maxLen; omega) (by omega) hbs ?_; intro a6 c6 w6 h6; have H6 := Lib.hid h6; clear h6))
        go_roundw
        case rel => exact ⟨i + 1, q, a6, c6, cur ++ [m], rfl, rfl, rfl, by omega, HZQ.out, HST.out, by have h5 := H6.out.own; rw [ofNv_app]; exact h5, HB.out.trans H6.out.below⟩
        case measure => simp [intOf]; omega
    · by_cases hiy : i < ny
      · skip
        have x0 := hX0 (by omega)
        have jx : ¬ (i : Int) < (nx : Int) := by omega
        obtain ⟨bY, oY, rfl, _, hcy⟩ := hry.addr (by omega)
        have zy := hcy i hiy
        rw [ofN_at] at zy
        clear hcy
        have jy : (i : Int) < (ny : Int) := by omega
        obtain ⟨x, hx⟩ : ∃ x, X.getD i 0 = x := ⟨_, rfl⟩
        obtain ⟨y, hy⟩ : ∃ y, Y.getD i 0 = y := ⟨_, rfl⟩
        rw [hx, hy] at hst
        rw [hx] at hux
        rw [hy] at huy
        obtain rfl : x = 0 := hx.symm.trans x0
        rw [hy] at zy
        obtain ⟨S, hS⟩ : ∃ S, c + y = S := ⟨_, rfl⟩
        have w1' : IntKind.u32.wrap ((c : Int) + (y : Int)) = (S : Int) := by rw [wr32i _ (by omega) (by omega)]; omega
        rw [show c + 0 + y = S from by omega] at hst
        obtain ⟨q, hq⟩ : ∃ q, S / 65536 = q := ⟨_, rfl⟩
        obtain ⟨m, hm⟩ : ∃ m, S % 65536 = m := ⟨_, rfl⟩
        rw [hq, hm] at hst
        have HST := Lib.hid hst
        have HZQ : Hid (nx + ny < i + 1 → q = 0) := fun h => by omega
        have e1 : (S : Int) / 65536 = (q : Int) := by omega
        have e2 : (S : Int) % 65536 = (m : Int) := by omega
        have e3 : (S : Int).tdiv 65536 = (q : Int) := by rw [Int.tdiv_eq_ediv_of_nonneg (by omega)]; exact e1
        have e4 : (S : Int).tmod 65536 = (m : Int) := by rw [Int.tmod_eq_emod_of_nonneg (by omega)]; exact e2
        have e5 : IntKind.u32.wrap (m : Int) = (m : Int) := wr32 _ (by omega)
        have e6 : IntKind.u32.wrap (q : Int) = (q : Int) := wr32 _ (by omega)
        have hi2 : i ≤ 1000000 := by omega
        have hin : i < nx + ny + 1 := by omega
        clear hst hux huy hx hy hq hm hX0 hY0 hrx hry hcl
        go_wp2_with (first | (at_builtin; refine apl rfl _ _ _ rfl w2.heap.size et_u32 _ i _ HO.out rfl 1 _ _ rfl rfl rfl rfl (by unfold maxLen; omega) (by omega) hbs ?_; intro a6 c6 w6 h6; have H6 := Lib.hid h6; clear h6))
        go_roundw
        case rel => exact ⟨i + 1, q, a6, c6, cur ++ [m], rfl, rfl, rfl, by omega, HZQ.out, HST.out, by have h5 := H6.out.own; rw [ofNv_app]; exact h5, HB.out.trans H6.out.below⟩
        case measure => simp [intOf]; omega
      · by_cases hc0 : 0 < c
        · skip
          have x0 := hX0 (by omega)
          have jx : ¬ (i : Int) < (nx : Int) := by omega
          have y0 := hY0 (by omega)
          have jy : ¬ (i : Int) < (ny : Int) := by omega
          obtain ⟨x, hx⟩ : ∃ x, X.getD i 0 = x := ⟨_, rfl⟩
          obtain ⟨y, hy⟩ : ∃ y, Y.getD i 0 = y := ⟨_, rfl⟩
          rw [hx, hy] at hst
          rw [hx] at hux
          rw [hy] at huy
          obtain rfl : x = 0 := hx.symm.trans x0
          obtain rfl : y = 0 := hy.symm.trans y0
          rw [show c + 0 + 0 = c from by omega] at hst
          have jc : (0 : Int) < (c : Int) := by omega
          obtain ⟨q, hq⟩ : ∃ q, c / 65536 = q := ⟨_, rfl⟩
          obtain ⟨m, hm⟩ : ∃ m, c % 65536 = m := ⟨_, rfl⟩
          rw [hq, hm] at hst
          have HST := Lib.hid hst
          have HZQ : Hid (nx + ny < i + 1 → q = 0) := fun h => by omega
          have e1 : (c : Int) / 65536 = (q : Int) := by omega
          have e2 : (c : Int) % 65536 = (m : Int) := by omega
          have e3 : (c : Int).tdiv 65536 = (q : Int) := by rw [Int.tdiv_eq_ediv_of_nonneg (by omega)]; exact e1
          have e4 : (c : Int).tmod 65536 = (m : Int) := by rw [Int.tmod_eq_emod_of_nonneg (by omega)]; exact e2
          have e5 : IntKind.u32.wrap (m : Int) = (m : Int) := wr32 _ (by omega)
          have e6 : IntKind.u32.wrap (q : Int) = (q : Int) := wr32 _ (by omega)
          have hi2 : i ≤ 1000000 := by omega
          have hin : i < nx + ny + 1 := by have := HIC.out; omega
          clear hst hux huy hx hy hq hm hX0 hY0 hrx hry hcl
          go_wp2_with (first | (at_builtin; refine apl rfl _ _ _ rfl w2.heap.size et_u32 _ i _ HO.out rfl 1 _ _ rfl rfl rfl rfl (by unfold maxLen; omega) (by omega) hbs ?_; intro a6 c6 w6 h6; have H6 := Lib.hid h6; clear h6))
          go_roundw
          case rel => exact ⟨i + 1, q, a6, c6, cur ++ [m], rfl, rfl, rfl, by omega, HZQ.out, HST.out, by have h5 := H6.out.own; rw [ofNv_app]; exact h5, HB.out.trans H6.out.below⟩
          case measure => simp [intOf]; omega
        · obtain rfl : c = 0 := by omega
          have jx : ¬ (i : Int) < (nx : Int) := by omega
          have jy : ¬ (i : Int) < (ny : Int) := by omega
          have hv := addH_end HAD.out (by have := HLX.out; omega) (by have := HLY.out; omega)
          have hcp := cap16 HO.out
          have HW := Lib.hid (whole16 aa i cc cur wr (RK.of_own HO.out) (by omega) hcp.1 hcp.2 HAD.out.u)
          have HVV : Hid (v16 cur = val l1 + val l2) := by show _ = _; rw [hv, HV.out.1, HV.out.2]
          clear hst hux huy hX0 hY0 hrx hry hcl hv hcp
          go_wp2_with fail
          refine HW.out.mono ?_; rintro e w9 ⟨a9, n9, c9, rfl, ho9, _, hb9⟩
          rw [HVV.out] at ho9
          have HO9 := Lib.hid ho9
          have HB9 := Lib.hid hb9
          clear ho9 hb9
          have hz := HB2.out.size
          go_wp2
          go_ret
          exact ⟨_, _, _, rfl, owns_base HO9.out (by omega), HB2.out.trans ((HB.out.trans (HB9.out.mono HB.out.size)).mono HB2.out.size)⟩
end Go.Proofs.YtnmegpplfbkpcaaDoor
