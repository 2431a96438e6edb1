/- The contracts of patch.within, patch.Cut. -/
import Derived.Test.YtocfkmdoalhjmaaDoorPatB
namespace Go.Proofs.YtocfkmdoalhjmaaDoor
open Go.RowKit
set_option linter.unusedVariables false
set_option maxRecDepth 100000

theorem cnw {w : World} {cs : Array Value} {t : TypeId} {g j : Nat} {v : Value} (hg : g = w.heap.size) (h : cs[j]? = some v) : (w.alloc (.cells cs t)).cell? ⟨g, j, none⟩ = some v := by
  subst hg
  have hh : (w.alloc (.cells cs t)).heap[w.heap.size]? = some (.cells cs t) := heap_alloc_new w _
  simp only [World.cell?, hh]
  simpa using h
theorem Chain.othP {w w6 : World} {g : Nat} (hk : ∀ k, k ≠ g → w6.heap[k]? = w.heap[k]?) (hz : ∀ o i x, w.heap[g]? ≠ some (faultObj o i x)) : ∀ {l : List (ByteArray × Int)} {v : Value} {a : Addr}, a.block ≠ g → Chain w v l a → Chain w6 v l a
  | [], v, a, ha, h => by
    obtain ⟨h1, c, t, h2⟩ := h
    exact ⟨h1, c, t, by rw [hk _ ha]; exact h2⟩
  | y :: r, v, a, ha, h => by
    obtain ⟨b, x, h1, h2, h3⟩ := h
    have hb : b ≠ g := fun e => hz _ _ _ (e ▸ h2)
    exact ⟨b, x, h1, by rw [hk b hb]; exact h2, Chain.othP hk hz ha h3⟩
/-- an error stays where a patch is stored -/
theorem EC.othP {R : Nat → Addr} {W w w6 : World} {g : Nat} {v : Value} {f : ErrD} {i : Int} {y z : Value} {t : TypeId} (h : EC R w v f) (hS : Sent W R) (hk : ∀ k, k ≠ g → w6.heap[k]? = w.heap[k]?) (hz : w.heap[g]? = some (.cells #[.int .i64 i, y, z] t)) (hg : W.heap.size ≤ g) : EC R w6 v f := by
  cases f with
  | none => exact h
  | some x =>
    refine Chain.othP hk (fun o i x e => ?_) ?_ h
    · rw [hz] at e
      simp [faultObj] at e
    · obtain ⟨c, t, e⟩ := hS.row (rix x.2) (rix_lt _)
      have := (Array.getElem?_eq_some_iff.1 e).1
      omega
theorem pcheck_ok (w h : Nat) (a : Option Addr) (n c : Nat) (l : List Int) (W : World) (R : Nat → Addr) (hS : Sent W R) (hR : RK .i64 W a n l) (hm : n ≤ maxLen) (hx : I64 l) (hp : IsPatch w h l) :
    Calls Tryd.prog 55 #[patV w h a n c] W fun e w' => e = .returned .nilIface ∧ Below W.heap.size W w' := by
  refine (pcheck_any w h a n c l W R hS hR hm hx).mono ?_
  rintro e w' ⟨ev, rfl, he, _, hb⟩
  unfold patchD at he
  rw [patchErr_of hp] at he
  exact ⟨by rw [show ev = .nilIface from he], hb⟩
theorem pcheck_er (w h : Int) (a : Option Addr) (n c : Nat) (l : List Int) (W : World) (R : Nat → Addr) (hS : Sent W R) (hR : RK .i64 W a n l) (hm : n ≤ maxLen) (hx : I64 l) (x : Int × Int) (hp : patchErr w h l = some x) :
    Calls Tryd.prog 55 #[patV w h a n c] W fun e w' => ∃ g, e = .returned (.iface 117 (.pointer (some ⟨g, 0, none⟩))) ∧ EC R w' (.iface 117 (.pointer (some ⟨g, 0, none⟩))) (some ([(opPatch, x.1)], x.2)) ∧ Below W.heap.size W w' := by
  refine (pcheck_any w h a n c l W R hS hR hm hx).mono ?_
  rintro e w' ⟨ev, rfl, he, hi, hb⟩
  unfold patchD at he
  rw [hp] at he
  rcases hi with rfl | ⟨g, rfl⟩
  · obtain ⟨t, p, e⟩ := Chain.iface he
    cases e
  · exact ⟨g, rfl, he, hb⟩

def withinB (x n m : Int) : Bool := decide (0 ≤ x ∧ 1 ≤ n ∧ n ≤ m ∧ x ≤ m - n)
theorem within_t (x n m : Int) (W : World) (h1 : 0 ≤ x) (h2 : 1 ≤ n) (h3 : n ≤ m) (h4 : x ≤ m - n) (h5 : m ≤ 1000) : Calls Tryd.prog 59 #[.int .i64 x, .int .i64 n, .int .i64 m] W fun e w' => e = .returned (.bool true) ∧ W = w' := by
  go_enter Tryd.func59, Tryd.ntmps59
  go_wp2
  go_ret
  exact ⟨rfl, rfl⟩
theorem within_f (x n m : Int) (W : World) (h5 : m ≤ 1000) (h : withinB x n m = false) : Calls Tryd.prog 59 #[.int .i64 x, .int .i64 n, .int .i64 m] W fun e w' => e = .returned (.bool false) ∧ W = w' := by
  have h := of_decide_eq_false h
  by_cases h1 : x < 0
  · have d1 : decide (0 ≤ x) = false := decide_eq_false (by omega)
    clear h
    go_enter Tryd.func59, Tryd.ntmps59
    go_wp2
    go_ret
    exact ⟨rfl, rfl⟩
  have h1' : 0 ≤ x := by omega
  by_cases h2 : n < 1
  · have d1 : decide (1 ≤ n) = false := decide_eq_false (by omega)
    clear h
    go_enter Tryd.func59, Tryd.ntmps59
    go_wp2
    go_ret
    exact ⟨rfl, rfl⟩
  have h2' : 1 ≤ n := by omega
  by_cases h3 : m < n
  · have d1 : decide (n ≤ m) = false := decide_eq_false (by omega)
    clear h
    go_enter Tryd.func59, Tryd.ntmps59
    go_wp2
    go_ret
    exact ⟨rfl, rfl⟩
  have h3' : n ≤ m := by omega
  have h4 : m - n < x := by omega
  have d1 : decide (x ≤ m - n) = false := decide_eq_false (by omega)
  clear h h1 h2 h3
  go_enter Tryd.func59, Tryd.ntmps59
  go_wp2
  go_ret
  exact ⟨rfl, rfl⟩

set_option maxHeartbeats 4000000 in
theorem cut1 (w h x y p q : Nat) (bp bx b_y : Nat) (a : Option Addr) (n c : Nat) (l : List Int) (W : World) (hp : IsPatch w h l) (hR : RK .i64 W a n l) (h3 : x + p ≤ w) (h4 : y + q ≤ h)
    (c0 : W.cell? ⟨bp, 0, none⟩ = some (.int .i64 w)) (c2 : W.cell? ⟨bp, 2, none⟩ = some (.slice a n c)) (cx : W.cell? ⟨bx, 0, none⟩ = some (.int .i64 x)) (cy : W.cell? ⟨b_y, 0, none⟩ = some (.int .i64 y)) :
    CellOf 62 #[.pointer (some ⟨bp, 0, none⟩), .pointer (some ⟨b_y, 0, none⟩), .pointer (some ⟨bx, 0, none⟩)] p q (fun i j => atL w l (x + i) (y + j)) W := by
  intro W' i j hb hi hj
  have hw2 := hp.w2
  have hh2 := hp.h2
  have hlen := hp.len
  have hnl := hR.len
  have hpl := place_lt (w := w) (h := h) (x := x + i) (y := y + j) (by omega) (by omega)
  obtain ⟨b, o, rfl, hbo, hcell⟩ := (hR.up hb).addr (by omega)
  obtain ⟨P, hP⟩ : ∃ P, (y + j) * w = P := ⟨_, rfl⟩
  rw [hP] at hpl
  have z0 := hcell (P + x + i) (by omega)
  have hat : l.getD (P + x + i) 0 = atL w l (x + i) (y + j) := by unfold atL; rw [hP, Nat.add_assoc]
  obtain ⟨u, hu⟩ : ∃ u, atL w l (x + i) (y + j) = u := ⟨_, rfl⟩
  rw [hat, hu] at z0
  show Calls _ _ _ _ fun e w' => e = .returned (.int .i64 (atL w l (x + i) (y + j))) ∧ _
  rw [hu]
  have y0 := cpa hb c0
  have y2 := cpa hb c2
  have yx := cpa hb cx
  have yy := cpa hb cy
  have hPI : ((y : Int) + (j : Int)) * (w : Int) = (P : Int) := by rw [← hP, Int.natCast_mul, Int.natCast_add]
  have hP4 : P ≤ 5000 := by have := Nat.mul_le_mul hw2 hh2; omega
  have hPw : IntKind.i64.wrap (P : Int) = (P : Int) := IntWalk.i64_in _ (by omega)
  have i1 : (P : Int) + (x : Int) + (i : Int) < (n : Int) := by omega
  have i0 : (0 : Int) ≤ (P : Int) + (x : Int) + (i : Int) := by omega
  have i2 : ((P : Int) + (x : Int) + (i : Int)).toNat = P + x + i := by omega
  have hx64 : x ≤ 64 := by omega
  have hi64 : i ≤ 64 := by omega
  have hy64 : y ≤ 64 := by omega
  have hj64 : j ≤ 64 := by omega
  clear hcell hat hu hP hnl hlen hR hp hpl c0 c2 cx cy
  show Calls _ _ #[.int .i64 i, .int .i64 j, .pointer (some ⟨bp, 0, none⟩), .pointer (some ⟨b_y, 0, none⟩), .pointer (some ⟨bx, 0, none⟩)] _ _
  go_enter Tryd.func62, Tryd.ntmps62
  go_wp2
  go_ret
  exact ⟨rfl, bnil W'⟩

/-- the fault of patch.Cut -/
def cutD (w h : Int) (l : List Int) (x y p q : Int) : ErrD :=
  match patchErr w h l with
  | some e => some ([(opPatch, e.1)], e.2)
  | none => if withinB x p w = false then some ([(opPatch, 1)], 3) else if withinB y q h = false then some ([(opPatch, 2)], 3) else none
/-- no patch, and an error -/
def PatErr (R : Nat → Addr) (x : ErrD) (W : World) (e : Ending) (w' : World) : Prop := ∃ g, e = .returned (.tuple #[patV 0 0 none 0 0, .iface 117 (.pointer (some ⟨g, 0, none⟩))]) ∧ EC R w' (.iface 117 (.pointer (some ⟨g, 0, none⟩))) x ∧ Below W.heap.size W w'

set_option maxHeartbeats 8000000 in
theorem cut_errP (w h x y p q : Int) (a : Option Addr) (n c : Nat) (l : List Int) (W : World) (R : Nat → Addr) (hS : Sent W R) (hR : RK .i64 W a n l) (hm : n ≤ maxLen) (hx : I64 l) (hd : cutD w h l x y p q ≠ none) :
    Calls Tryd.prog 22 #[patV w h a n c, .int .i64 x, .int .i64 y, .int .i64 p, .int .i64 q] W (PatErr R (cutD w h l x y p q) W) := by
  obtain ⟨Wb, hWb⟩ : ∃ Wb, (((W.alloc (.cells #[.int .i64 w, .int .i64 h, .slice a n c] 24)).alloc (.cells #[.int .i64 x] 3)).alloc (.cells #[.int .i64 y] 3)).alloc (.cells #[.int .i64 0, .int .i64 0, .slice none 0 0] 24) = Wb := ⟨_, rfl⟩
  have HX : Hid (Wb.cell? ⟨W.heap.size, 0, none⟩ = some (.int .i64 w) ∧ Wb.cell? ⟨W.heap.size, 1, none⟩ = some (.int .i64 h) ∧ Wb.cell? ⟨W.heap.size, 2, none⟩ = some (.slice a n c) ∧ Wb.cell? ⟨W.heap.size + 1, 0, none⟩ = some (.int .i64 x) ∧ Wb.cell? ⟨W.heap.size + 1 + 1, 0, none⟩ = some (.int .i64 y)) := by rw [← hWb]; exact ⟨al000 (al000 (al000 (cnw rfl rfl))), al000 (al000 (al000 (cnw rfl rfl))), al000 (al000 (al000 (cnw rfl rfl))), al000 (al000 (cnw (by simp) rfl)), al000 (cnw (by simp) rfl)⟩
  have HZ : Hid (Wb.heap[W.heap.size + 1 + 1 + 1]? = some (.cells #[.int .i64 0, .int .i64 0, .slice none 0 0] 24)) := by
    show _ = _
    rw [← hWb]
    have := heap_alloc_new (((W.alloc (.cells #[.int .i64 w, .int .i64 h, .slice a n c] 24)).alloc (.cells #[.int .i64 x] 3)).alloc (.cells #[.int .i64 y] 3)) (.cells #[.int .i64 0, .int .i64 0, .slice none 0 0] 24)
    simpa using this
  have HSZ : Hid (Wb.heap.size = W.heap.size + 4) := by show _ = _; rw [← hWb]; simp
  have HBX : Hid (Below W.heap.size W Wb) := by rw [← hWb]; exact balloc (balloc (balloc (balloc (bnil W) _) _) _) _
  have HSN := Lib.hid (hS.up HBX.out)
  have HS0 := Lib.hid hS
  have HR := Lib.hid (hR.up HBX.out)
  have HI6 := Lib.hid hx
  clear hS hR hx
  have HWB := Lib.hid hWb; clear hWb
  cases he : patchErr w h l with
  | some y0 =>
    have hd2 : cutD w h l x y p q = some ([(opPatch, y0.1)], y0.2) := by unfold cutD; rw [he]
    have HD := Lib.hid hd2
    have HE := Lib.hid he
    clear hd hd2 he
    go_enter Tryd.func22, Tryd.ntmps22
    go_wp2_with fail
    rw [HWB.out]
    refine (pcheck_er w h a n c l _ R HSN.out HR.out hm HI6.out y0 HE.out).mono ?_; rintro e w1 ⟨g, rfl, he1, hb1⟩
    have HC1 := Lib.hid hb1
    have HEC := Lib.hid he1
    clear hb1 he1
    have hz := (HC1.out.block (W.heap.size + 1 + 1 + 1) (by have := HSZ.out; omega)).trans HZ.out
    have HZ8 := Lib.hid hz
    obtain ⟨⟨d0, d1', d2'⟩, q0, q1, q2⟩ := p_cells hz
    clear hz
    go_wp2
    obtain ⟨w9, e9, ⟨r0, r1, r2⟩, hk9, hs9, hbl9⟩ := set3p HZ8.out (.int .i64 0) (.int .i64 0) (.slice none 0 0)
    rw [e9]
    refine bodyPost_ret (v := .tuple #[patV 0 0 none 0 0, .iface 117 (.pointer (some ⟨g, 0, none⟩))]) (by simp [results, Tryd.results22, go_sem, r0, r1, r2]) rfl ?_
    rw [HD.out]
    exact ⟨_, rfl, HEC.out.othP HS0.out hk9 HZ8.out (by omega), hbl9 _ _ (by omega) (HBX.out.trans (HC1.out.mono HBX.out.size))⟩
  | none =>
    obtain ⟨w, h, rfl, rfl, hp⟩ := patchErr_none he
    have hw2 := hp.w2
    have hh2 := hp.h2
    have HPP := Lib.hid hp
    have hdd : cutD (w : Int) (h : Int) l x y p q = if withinB x p (w : Int) = false then some ([(opPatch, 1)], 3) else if withinB y q (h : Int) = false then some ([(opPatch, 2)], 3) else none := by unfold cutD; rw [he]
    have hno := hd
    rw [hdd] at hno
    clear hd he hp
    by_cases h1 : withinB x p (w : Int) = false
    · rw [if_pos h1] at hdd
      have HD := Lib.hid hdd
      have H1 := Lib.hid h1
      clear hdd hno h1
      go_enter Tryd.func22, Tryd.ntmps22
      go_wp2_with fail
      rw [HWB.out]
      refine (pcheck_ok w h a n c l _ R HSN.out HR.out hm HI6.out HPP.out).mono ?_; rintro e w1 ⟨rfl, hb1⟩
      have HC1 := Lib.hid hb1
      have x0 := cpa hb1 HX.out.1
      have xx := cpa hb1 HX.out.2.2.2.1
      have HG1 := Lib.hid (HSN.out.up hb1)
      clear hb1
      go_wp2_with fail
      refine (within_f x p w _ (by omega) H1.out).mono ?_; rintro e w2 ⟨rfl, rfl⟩
      clear x0 xx
      go_wp2_with fail
      refine (patch_wrong _ _ _ R HG1.out.glob rfl).mono ?_; rintro e w2 ⟨rfl, rfl⟩
      have HEC := Lib.hid (ec_err (HG1.out.up (balloc (bnil w1) (faultObj opPatch 1 (.iface 199 (.pointer (some (R (rix 3)))))))) (isErr_new (Nat.le_refl _)))
      have HC2 := Lib.hid (HC1.out.alloc HC1.out.size (faultObj opPatch 1 (.iface 199 (.pointer (some (R (rix 3)))))))
      obtain ⟨wz, hwz⟩ : ∃ wz, w1.alloc (faultObj opPatch 1 (.iface 199 (.pointer (some (R (rix 3)))))) = wz := ⟨_, rfl⟩
      rw [hwz] at HEC HC2 ⊢
      clear hwz
      have hz := (HC2.out.block (W.heap.size + 1 + 1 + 1) (by have := HSZ.out; omega)).trans HZ.out
      have HZ8 := Lib.hid hz
      obtain ⟨⟨d0, d1', d2'⟩, q0, q1, q2⟩ := p_cells hz
      clear hz
      go_wp2
      obtain ⟨w9, e9, ⟨r0, r1, r2⟩, hk9, hs9, hbl9⟩ := set3p HZ8.out (.int .i64 0) (.int .i64 0) (.slice none 0 0)
      rw [e9]
      refine bodyPost_ret (v := .tuple #[patV 0 0 none 0 0, .iface 117 (.pointer (some ⟨w1.heap.size, 0, none⟩))]) (by simp [results, Tryd.results22, go_sem, r0, r1, r2]) rfl ?_
      rw [HD.out]
      exact ⟨_, rfl, HEC.out.othP HS0.out hk9 HZ8.out (by omega), hbl9 _ _ (by omega) (HBX.out.trans (HC2.out.mono HBX.out.size))⟩
    · have h2 : withinB y q (h : Int) = false := by
        rw [if_neg h1] at hno
        cases hq : withinB y q (h : Int) with
        | false => rfl
        | true => rw [hq] at hno; exact absurd (if_neg (by simp)) hno
      rw [if_neg h1, if_pos h2] at hdd
      have HD := Lib.hid hdd
      have h1' := of_decide_eq_true (show withinB x p (w : Int) = true by simpa using h1)
      obtain ⟨k1, k2, k3, k4⟩ := h1'
      have H2 := Lib.hid h2
      clear hdd hno h1 h2
      go_enter Tryd.func22, Tryd.ntmps22
      go_wp2_with fail
      rw [HWB.out]
      refine (pcheck_ok w h a n c l _ R HSN.out HR.out hm HI6.out HPP.out).mono ?_; rintro e w1 ⟨rfl, hb1⟩
      have HC1 := Lib.hid hb1
      have x0 := cpa hb1 HX.out.1
      have x1 := cpa hb1 HX.out.2.1
      have xx := cpa hb1 HX.out.2.2.2.1
      have xy := cpa hb1 HX.out.2.2.2.2
      have HG1 := Lib.hid (HSN.out.up hb1)
      clear hb1
      go_wp2_with fail
      refine (within_t x p w _ k1 k2 k3 k4 (by omega)).mono ?_; rintro e w2 ⟨rfl, rfl⟩
      go_wp2_with fail
      refine (within_f y q h _ (by omega) H2.out).mono ?_; rintro e w2 ⟨rfl, rfl⟩
      clear x0 xx x1 xy
      go_wp2_with fail
      refine (patch_wrong _ _ _ R HG1.out.glob rfl).mono ?_; rintro e w2 ⟨rfl, rfl⟩
      have HEC := Lib.hid (ec_err (HG1.out.up (balloc (bnil w1) (faultObj opPatch 2 (.iface 199 (.pointer (some (R (rix 3)))))))) (isErr_new (Nat.le_refl _)))
      have HC2 := Lib.hid (HC1.out.alloc HC1.out.size (faultObj opPatch 2 (.iface 199 (.pointer (some (R (rix 3)))))))
      obtain ⟨wz, hwz⟩ : ∃ wz, w1.alloc (faultObj opPatch 2 (.iface 199 (.pointer (some (R (rix 3)))))) = wz := ⟨_, rfl⟩
      rw [hwz] at HEC HC2 ⊢
      clear hwz
      have hz := (HC2.out.block (W.heap.size + 1 + 1 + 1) (by have := HSZ.out; omega)).trans HZ.out
      have HZ8 := Lib.hid hz
      obtain ⟨⟨d0, d1', d2'⟩, q0, q1, q2⟩ := p_cells hz
      clear hz
      go_wp2
      obtain ⟨w9, e9, ⟨r0, r1, r2⟩, hk9, hs9, hbl9⟩ := set3p HZ8.out (.int .i64 0) (.int .i64 0) (.slice none 0 0)
      rw [e9]
      refine bodyPost_ret (v := .tuple #[patV 0 0 none 0 0, .iface 117 (.pointer (some ⟨w1.heap.size, 0, none⟩))]) (by simp [results, Tryd.results22, go_sem, r0, r1, r2]) rfl ?_
      rw [HD.out]
      exact ⟨_, rfl, HEC.out.othP HS0.out hk9 HZ8.out (by omega), hbl9 _ _ (by omega) (HBX.out.trans (HC2.out.mono HBX.out.size))⟩

set_option maxHeartbeats 8000000 in
theorem cut_okP (w h x y p q : Nat) (a : Option Addr) (n c : Nat) (l : List Int) (W : World) (R : Nat → Addr) (hS : Sent W R) (hR : RK .i64 W a n l) (hm : n ≤ maxLen) (hx : I64 l) (hp : IsPatch w h l) (p1 : 1 ≤ p) (q1 : 1 ≤ q) (h3 : x + p ≤ w) (h4 : y + q ≤ h) :
    Calls Tryd.prog 22 #[patV w h a n c, .int .i64 x, .int .i64 y, .int .i64 p, .int .i64 q] W fun e w' => ∃ g c', e = .returned (.tuple #[patV p q (some ⟨g, 0, none⟩) (p * q) c', .nilIface]) ∧ OwI w' W.heap.size (some ⟨g, 0, none⟩) (p * q) c' (cutL w l x y p q) ∧ Below W.heap.size W w' := by
  have hw2 := hp.w2
  have hh2 := hp.h2
  obtain ⟨Wb, hWb⟩ : ∃ Wb, (((W.alloc (.cells #[.int .i64 w, .int .i64 h, .slice a n c] 24)).alloc (.cells #[.int .i64 x] 3)).alloc (.cells #[.int .i64 y] 3)).alloc (.cells #[.int .i64 0, .int .i64 0, .slice none 0 0] 24) = Wb := ⟨_, rfl⟩
  have HX : Hid (Wb.cell? ⟨W.heap.size, 0, none⟩ = some (.int .i64 w) ∧ Wb.cell? ⟨W.heap.size, 1, none⟩ = some (.int .i64 h) ∧ Wb.cell? ⟨W.heap.size, 2, none⟩ = some (.slice a n c) ∧ Wb.cell? ⟨W.heap.size + 1, 0, none⟩ = some (.int .i64 x) ∧ Wb.cell? ⟨W.heap.size + 1 + 1, 0, none⟩ = some (.int .i64 y)) := by rw [← hWb]; exact ⟨al000 (al000 (al000 (cnw rfl rfl))), al000 (al000 (al000 (cnw rfl rfl))), al000 (al000 (al000 (cnw rfl rfl))), al000 (al000 (cnw (by simp) rfl)), al000 (cnw (by simp) rfl)⟩
  have HZ : Hid (Wb.heap[W.heap.size + 1 + 1 + 1]? = some (.cells #[.int .i64 0, .int .i64 0, .slice none 0 0] 24)) := by
    show _ = _
    rw [← hWb]
    have := heap_alloc_new (((W.alloc (.cells #[.int .i64 w, .int .i64 h, .slice a n c] 24)).alloc (.cells #[.int .i64 x] 3)).alloc (.cells #[.int .i64 y] 3)) (.cells #[.int .i64 0, .int .i64 0, .slice none 0 0] 24)
    simpa using this
  have HSZ : Hid (Wb.heap.size = W.heap.size + 4) := by show _ = _; rw [← hWb]; simp
  have HBX : Hid (Below W.heap.size W Wb) := by rw [← hWb]; exact balloc (balloc (balloc (balloc (bnil W) _) _) _) _
  have HSN := Lib.hid (hS.up HBX.out)
  have HS0 := Lib.hid hS
  have HR := Lib.hid (hR.up HBX.out)
  have HI6 := Lib.hid hx
  clear hS hR hx
  have HWB := Lib.hid hWb; clear hWb
  have HPP := Lib.hid hp
  clear hp
  have hmf : ∀ (fn : Fn) (first cap : Array Value) (w : World), (Instr.makeFunc fn first cap).run Tryd.prog w = .ok (.func fn first cap) w := fun _ _ _ _ => rfl
  go_enter Tryd.func22, Tryd.ntmps22
  go_wp2_with fail
  rw [HWB.out]
  refine (pcheck_ok w h a n c l _ R HSN.out HR.out hm HI6.out HPP.out).mono ?_; rintro e w1 ⟨rfl, hb1⟩
  have HC1 := Lib.hid hb1
  have x0 := cpa hb1 HX.out.1
  have x1 := cpa hb1 HX.out.2.1
  have x2 := cpa hb1 HX.out.2.2.1
  have xx := cpa hb1 HX.out.2.2.2.1
  have xy := cpa hb1 HX.out.2.2.2.2
  have HR1 := Lib.hid (HR.out.up hb1)
  clear hb1
  have k1 : (0 : Int) ≤ (x : Int) := by omega
  have k2 : (1 : Int) ≤ (p : Int) := by omega
  have k3 : (p : Int) ≤ (w : Int) := by omega
  have k4 : (x : Int) ≤ (w : Int) - (p : Int) := by omega
  have k5 : (0 : Int) ≤ (y : Int) := by omega
  have k6 : (1 : Int) ≤ (q : Int) := by omega
  have k7 : (q : Int) ≤ (h : Int) := by omega
  have k8 : (y : Int) ≤ (h : Int) - (q : Int) := by omega
  go_wp2_with fail
  refine (within_t x p w _ k1 k2 k3 k4 (by omega)).mono ?_; rintro e w2 ⟨rfl, rfl⟩
  go_wp2_with fail
  refine (within_t y q h _ k5 k6 k7 k8 (by omega)).mono ?_; rintro e w2 ⟨rfl, rfl⟩
  have HCO := Lib.hid (cut1 w h x y p q W.heap.size (W.heap.size + 1) (W.heap.size + 1 + 1) a n c l w1 HPP.out HR1.out h3 h4 x0 x2 xx xy)
  clear k1 k2 k3 k4 k5 k6 k7 k8 x0 x1 x2 xx xy
  go_wp2_with fail
  refine (made_any p q 62 _ _ _ p1 (by omega) q1 (by omega) (enters_of Tryd.func62 (by kernel_rfl) rfl) HCO.out).mono ?_; rintro e w2 ⟨g, c2, rfl, ho2, hb2⟩
  have HC2 := Lib.hid (bstep HC1.out hb2)
  have hl1 := HC1.out.size
  have HL1 := Lib.hid hl1
  have HO2 := Lib.hid ho2
  clear ho2 hb2 hl1
  have hz := (HC2.out.block (W.heap.size + 1 + 1 + 1) (by have := HSZ.out; omega)).trans HZ.out
  have HZ8 := Lib.hid hz
  obtain ⟨⟨d0, d1', d2'⟩, q0, q1', q2⟩ := p_cells hz
  clear hz
  go_wp2
  obtain ⟨w9, e9, ⟨r0, r1, r2⟩, hk9, hs9, hbl9⟩ := set3p HZ8.out (.int .i64 p) (.int .i64 q) (.slice (some ⟨g, 0, none⟩) (p * q) c2)
  rw [e9]
  refine bodyPost_ret (v := .tuple #[patV p q (some ⟨g, 0, none⟩) (p * q) c2, .nilIface]) (by simp [results, Tryd.results22, go_sem, r0, r1, r2]) rfl ?_
  have hl1 := HL1.out
  have hsz := HSZ.out
  refine ⟨g, c2, rfl, ?_, hbl9 _ _ (by omega) (HBX.out.trans (HC2.out.mono HBX.out.size))⟩
  exact OwI.base (b' := W.heap.size) ⟨own_of_heap' HO2.out.own fun b hb => hk9 b (by have := (HO2.out.own.lt b hb).1; omega)⟩ (by omega)
theorem set3_cellP {w : World} {a : Addr} {v u0 u1 u2 : Value} {g : Nat} (h : w.cell? a = some v) (hne : a.block ≠ g) : (((w.setCell ⟨g, 0, none⟩ u0).setCell ⟨g, 1, none⟩ u1).setCell ⟨g, 2, none⟩ u2).cell? a = some v := by
  rw [World.cell?_of_block (w := w)]
  · exact h
  · rw [Below.heap_setCell _ _ _ _ hne, Below.heap_setCell _ _ _ _ hne, Below.heap_setCell _ _ _ _ hne]
end Go.Proofs.YtocfkmdoalhjmaaDoor
