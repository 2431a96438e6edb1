/- Rules in the plane (plain): windows, images, tables that count neighbours, the texts of tables. The contracts of plane.Check and edenref22.Check, for any numbers. plane.Step where it refuses; the window's number step by step. edenref22.Check of a table; no error told further. Plain: images of pieces and of turned patches. -/
import Derived.Test.YtoaooblodgejdaaDoorPatX
import Derived.Test.YtoaooblodgejdaaDoorErrH
namespace Go.Proofs.YtoaooblodgejdaaDoor
set_option linter.unusedVariables false
set_option maxRecDepth 100000

/-- the number of the window at a place -/
def winZ (w : Nat) (l : List Int) (x y : Nat) : Int :=
  256 * atL w l x y + 128 * atL w l (x + 1) y + 64 * atL w l (x + 2) y + 32 * atL w l x (y + 1) + 16 * atL w l (x + 1) (y + 1) + 8 * atL w l (x + 2) (y + 1) + 4 * atL w l x (y + 2) + 2 * atL w l (x + 1) (y + 2) + atL w l (x + 2) (y + 2)
def winN (w : Nat) (l : List Int) (x y : Nat) : Nat := (winZ w l x y).toNat
theorem winZ_lt {w h : Nat} {l : List Int} (hp : IsPatch w h l) {x y : Nat} (hx : x + 2 < w) (hy : y + 2 < h) : 0 ≤ winZ w l x y ∧ winZ w l x y < 512 := by
  have h1 := atL_sym hp (show x < w by omega) (show y < h by omega)
  have h2 := atL_sym hp (show x + 1 < w by omega) (show y < h by omega)
  have h3 := atL_sym hp (show x + 2 < w by omega) (show y < h by omega)
  have h4 := atL_sym hp (show x < w by omega) (show y + 1 < h by omega)
  have h5 := atL_sym hp (show x + 1 < w by omega) (show y + 1 < h by omega)
  have h6 := atL_sym hp (show x + 2 < w by omega) (show y + 1 < h by omega)
  have h7 := atL_sym hp (show x < w by omega) (show y + 2 < h by omega)
  have h8 := atL_sym hp (show x + 1 < w by omega) (show y + 2 < h by omega)
  have h9 := atL_sym hp (show x + 2 < w by omega) (show y + 2 < h by omega)
  unfold winZ
  omega
theorem winN_lt {w h : Nat} {l : List Int} (hp : IsPatch w h l) {x y : Nat} (hx : x + 2 < w) (hy : y + 2 < h) : winN w l x y < 512 ∧ ((winN w l x y : Nat) : Int) = winZ w l x y := by
  have := winZ_lt hp hx hy
  unfold winN
  omega
/-- the image of a patch -/
def stepF (t : List Int) (w : Nat) (l : List Int) (x y : Nat) : Int := t.getD (winN w l x y) 0
def stepL (t : List Int) (w h : Nat) (l : List Int) : List Int := madeL (w - 2) (h - 2) (stepF t w l)
/-- a window's number of neighbours -/
def aboutN (i : Nat) : Nat := i / 256 % 2 + i / 128 % 2 + i / 64 % 2 + i / 32 % 2 + i / 8 % 2 + i / 4 % 2 + i / 2 % 2 + i % 2
/-- the table of two sets -/
def tabF (born stays i : Nat) : Nat := (if i / 16 % 2 = 1 then stays else born) / 2 ^ aboutN i % 2
def tabOf (born stays : Nat) : List Int := (List.range 512).map fun i => ((tabF born stays i : Nat) : Int)
theorem tabOf_len (born stays : Nat) : (tabOf born stays).length = 512 := by simp [tabOf]
theorem tabOf_get {born stays i : Nat} (hi : i < 512) : (tabOf born stays).getD i 0 = ((tabF born stays i : Nat) : Int) := by simp [tabOf, hi]
theorem tabOf_sym (born stays : Nat) : ∀ x ∈ tabOf born stays, x = 0 ∨ x = 1 := by
  intro x hx
  obtain ⟨i, _, rfl⟩ := List.mem_map.1 hx
  unfold tabF
  omega
/-- a byte of a table's text is taken: state, the digit ahead, the sets -/
def takeF (st : Nat) (last : Int) (s0 s1 : Nat) (c : UInt8) : Option (Nat × Int × Nat × Nat) :=
  if st = 0 then (if c = 66 then some (1, -1, s0, s1) else none)
  else if st = 2 then (if c = 83 then some (3, -1, s0, s1) else none)
  else if st = 1 ∧ c = 47 then some (2, last, s0, s1)
  else if (c.toNat : Int) - 48 ≤ last ∨ 8 < (c.toNat : Int) - 48 then none
  else if st = 1 then some (1, (c.toNat : Int) - 48, s0 + 2 ^ (c.toNat - 48), s1) else some (3, (c.toNat : Int) - 48, s0, s1 + 2 ^ (c.toNat - 48))
/-- the state of a reader: the set that grows lies below the next digit's weight -/
structure RdSt (st : Nat) (last : Int) (s0 s1 : Nat) : Prop where
  s3 : st ≤ 3
  lo : -1 ≤ last
  hi : last ≤ 8
  b0 : s0 < 512
  b1 : s1 < 512
  g0 : st = 1 → s0 < 2 ^ (last + 1).toNat
  g1 : st = 3 → s1 < 2 ^ (last + 1).toNat
  z0 : st = 0 → s0 = 0 ∧ s1 = 0
  z1 : st = 1 → s1 = 0
  z2 : st = 2 → s1 = 0
theorem RdSt.start : RdSt 0 (-1) 0 0 := ⟨by omega, by omega, by omega, by omega, by omega, (fun h => by omega), (fun h => by omega), fun _ => ⟨rfl, rfl⟩, (fun h => by omega), (fun h => by omega)⟩
theorem pow_grow {s d : Nat} {last : Int} (h : s < 2 ^ (last + 1).toNat) (h1 : -1 ≤ last) (h2 : last < (d : Int)) (h3 : d ≤ 8) : s < 2 ^ d ∧ s + 2 ^ d < 2 ^ (d + 1) ∧ s + 2 ^ d < 512 := by
  have e1 : 2 ^ (last + 1).toNat ≤ 2 ^ d := Nat.pow_le_pow_right (by omega) (by omega)
  have e2 : 2 ^ (d + 1) ≤ 2 ^ 9 := Nat.pow_le_pow_right (by omega) (by omega)
  have e3 : 2 ^ (d + 1) = 2 ^ d * 2 := Nat.pow_succ ..
  have e4 : (2 : Nat) ^ 9 = 512 := by decide
  omega
theorem take_next {st s0 s1 : Nat} {last : Int} {c : UInt8} {r : Nat × Int × Nat × Nat} (h : RdSt st last s0 s1) (e : takeF st last s0 s1 c = some r) : RdSt r.1 r.2.1 r.2.2.1 r.2.2.2 := by
  have h0 := h.s3
  unfold takeF at e
  by_cases c0 : st = 0
  · rw [if_pos c0] at e
    split at e
    · cases e
      obtain ⟨z0, z1⟩ := h.z0 c0
      exact ⟨by show 1 ≤ 3; omega, by show (-1 : Int) ≤ -1; omega, by show (-1 : Int) ≤ 8; omega, h.b0, h.b1, fun _ => by show s0 < 2 ^ 0; omega, (fun h => by cases h), (fun h => by cases h), fun _ => z1, (fun h => by cases h)⟩
    · cases e
  rw [if_neg c0] at e
  by_cases c2 : st = 2
  · rw [if_pos c2] at e
    split at e
    · cases e
      have z1 := h.z2 c2
      exact ⟨by show 3 ≤ 3; omega, by show (-1 : Int) ≤ -1; omega, by show (-1 : Int) ≤ 8; omega, h.b0, h.b1, (fun h => by cases h), fun _ => by show s1 < 2 ^ 0; omega, (fun h => by cases h), (fun h => by cases h), (fun h => by cases h)⟩
    · cases e
  rw [if_neg c2] at e
  by_cases c1 : st = 1 ∧ c = 47
  · rw [if_pos c1] at e
    cases e
    exact ⟨by show 2 ≤ 3; omega, h.lo, h.hi, h.b0, h.b1, (fun h => by cases h), (fun h => by cases h), (fun h => by cases h), (fun h => by cases h), fun _ => h.z1 c1.1⟩
  rw [if_neg c1] at e
  split at e
  · cases e
  rename_i hd
  have hlo := h.lo
  obtain ⟨d, hd1⟩ : ∃ d, c.toNat - 48 = d := ⟨_, rfl⟩
  have hd2 : (c.toNat : Int) - 48 = (d : Int) := by omega
  rw [hd2] at hd e
  rw [hd1] at e
  have hdl : ((d : Int) + 1).toNat = d + 1 := by omega
  split at e
  · rename_i hs
    cases e
    have hg := pow_grow (h.g0 hs) hlo (show last < (d : Int) by omega) (by omega)
    exact ⟨by show 1 ≤ 3; omega, by show -1 ≤ (d : Int); omega, by show (d : Int) ≤ 8; omega, hg.2.2, h.b1, fun _ => by show _ < 2 ^ ((d : Int) + 1).toNat; rw [hdl]; exact hg.2.1, (fun h => by cases h), (fun h => by cases h), fun _ => h.z1 hs, (fun h => by cases h)⟩
  · rename_i hs
    cases e
    have h3 : st = 3 := by omega
    have hg := pow_grow (h.g1 h3) hlo (show last < (d : Int) by omega) (by omega)
    exact ⟨by show 3 ≤ 3; omega, by show -1 ≤ (d : Int); omega, by show (d : Int) ≤ 8; omega, h.b0, hg.2.2, (fun h => by cases h), fun _ => by show _ < 2 ^ ((d : Int) + 1).toNat; rw [hdl]; exact hg.2.1, (fun h => by cases h), (fun h => by cases h), (fun h => by cases h)⟩
/-- a table's text is gone through -/
def lifeRun : List UInt8 → Nat → Nat → Int → Nat → Nat → Except Nat (Nat × Nat)
  | [], i, st, last, s0, s1 => if st = 3 then .ok (s0, s1) else .error i
  | c :: r, i, st, last, s0, s1 => match takeF st last s0 s1 c with
    | some (st', last', s0', s1') => lifeRun r (i + 1) st' last' s0' s1'
    | none => .error i
end Go.Proofs.YtoaooblodgejdaaDoor
namespace Go.Proofs.YtoaooblodgejdaaDoor
open Go.RowKit
set_option linter.unusedVariables false
set_option maxRecDepth 100000

theorem plcheck1 (w : World) : PredOf 66 #[] cellB w := by
  intro W x hb
  have key : ∀ b, cellB x = b → Calls Tryd.prog 66 #[.int .i64 x] W fun e w' => e = .returned (.bool b) ∧ ∃ n, w' = W.drewN n := by
    intro b hbx
    by_cases h0 : x = 0
    · subst h0
      obtain rfl : b = false := by rw [← hbx]; decide
      go_enter Tryd.func66, Tryd.ntmps66
      go_wp2
      go_ret
      exact ⟨rfl, 0, rfl⟩
    by_cases h1 : x = 1
    · subst h1
      obtain rfl : b = false := by rw [← hbx]; decide
      go_enter Tryd.func66, Tryd.ntmps66
      go_wp2
      go_ret
      exact ⟨rfl, 0, rfl⟩
    obtain rfl : b = true := by rw [← hbx]; exact cellB_true.2 ⟨h0, h1⟩
    have n0 : (x != 0) = true := by rw [bne_iff_ne]; exact h0
    have n1 : (x != 1) = true := by rw [bne_iff_ne]; exact h1
    clear h0 h1 hbx
    go_enter Tryd.func66, Tryd.ntmps66
    go_wp2
    go_ret
    exact ⟨rfl, 0, rfl⟩
  exact key _ rfl
structure IsTab (l : List Int) : Prop where
  len : l.length = 512
  sym : ∀ x ∈ l, x = 0 ∨ x = 1
/-- a table's fault -/
def tabD (l : List Int) : ErrD := if l.length ≠ 512 then some ([(opPlane, 0)], 1) else if 0 ≤ idxI cellB l then some ([(opPlane, 1 + idxI cellB l)], 1) else none
theorem tabD_none {l : List Int} (h : tabD l = none) : IsTab l := by
  unfold tabD at h
  split at h
  · cases h
  rename_i h1
  split at h
  · cases h
  rename_i h2
  exact ⟨Decidable.byContradiction h1, fun x hx => cellB_false.1 (idxI_neg h2 x hx)⟩
theorem tabD_of {l : List Int} (h : IsTab l) : tabD l = none := by
  unfold tabD
  rw [if_neg (fun h2 => h2 h.len), if_neg]
  intro h2
  have hno : idxI cellB l = -1 := by
    unfold idxI
    rw [List.findIdx?_eq_none_iff.2 fun x hx => by simpa using cellB_false.2 (h.sym x hx)]
  omega
set_option maxHeartbeats 4000000 in
theorem plcheck_any (a : Option Addr) (n c : Nat) (l : List Int) (W : World) (R : Nat → Addr) (hS : Sent W R) (hR : RK .i64 W a n l) (hm : n ≤ maxLen) :
    Calls Tryd.prog 22 #[.slice a n c] W fun e w' => ∃ ev, e = .returned ev ∧ EC R w' ev (tabD l) ∧ (ev = .nilIface ∨ ∃ g, ev = .iface 124 (.pointer (some ⟨g, 0, none⟩))) ∧ Below W.heap.size W w' := by
  have hmx : n ≤ 9223372036854775807 := hm
  have HL := Lib.hid hR.len
  have HR := Lib.hid hR; clear hR
  have HSN := Lib.hid hS; clear hS
  obtain ⟨i, hi⟩ : ∃ i, idxI cellB l = i := ⟨_, rfl⟩
  have hib := idxI_bd cellB l
  rw [hi, ← HL.out] at hib
  obtain ⟨hi1, hi2⟩ := hib
  have HE : Hid (∀ (w0 : World) (hb : Below W.heap.size W w0) (at_ num : Int), EC R (w0.alloc (faultObj opPlane at_ (.iface 190 (.pointer (some (R (rix num))))))) (.iface 124 (.pointer (some ⟨w0.heap.size, 0, none⟩))) (some ([(opPlane, at_)], num))) := fun w0 hb at_ num => ec_err ((HSN.out.up hb).up (balloc (bnil w0) _)) (isErr_new (Nat.le_refl _))
  have HG := Lib.hid HSN.out.glob
  have HI := Lib.hid hi
  clear hi
  by_cases c0 : n ≠ 512
  · have hd : tabD l = some ([(opPlane, 0)], 1) := by unfold tabD; rw [if_pos (by rw [← HL.out]; exact c0)]
    have HD := Lib.hid hd; clear hd
    have cb : ((n : Int) != 512) = true := by rw [bne_iff_ne]; omega
    have cb2 : ((n : Int) == 512) = false := by rw [beq_eq_false_iff_ne]; omega
    clear c0
    go_enter Tryd.func22, Tryd.ntmps22
    go_wp2_with fail
    refine (plane_wrong _ _ _ R HG.out rfl).mono ?_; rintro e w1 ⟨rfl, rfl⟩
    go_wp2
    go_ret
    rw [HD.out]
    exact ⟨_, rfl, HE.out _ (bnil W) _ _, .inr ⟨_, rfl⟩, balloc (bnil W) _⟩
  obtain rfl : n = 512 := Decidable.byContradiction c0
  have hd : tabD l = if 0 ≤ i then some ([(opPlane, 1 + i)], 1) else none := by
    unfold tabD
    rw [if_neg (fun h => h HL.out.symm), HI.out]
  have HD := Lib.hid hd
  clear hd c0
  have hcall : Calls Tryd.prog 65 #[.slice a 512 c, .func (.func 66) #[] #[]] W fun e w' => e = .returned (.int .i64 i) ∧ ∃ m, w' = W.drewN m := by
    have := indexFunc_any a 512 c l 66 #[] cellB W HR.out hm (enters_of Tryd.func66 (by kernel_rfl) rfl) (plcheck1 W)
    rwa [HI.out] at this
  have HCALL := Lib.hid hcall
  clear hcall
  by_cases c3 : 0 ≤ i
  · have hd := HD.out
    rw [if_pos c3] at hd
    have HD2 := Lib.hid hd; clear hd
    go_enter Tryd.func22, Tryd.ntmps22
    go_wp2_with fail
    refine HCALL.out.mono ?_; rintro e w9 ⟨rfl, m, rfl⟩
    go_wp2_with fail
    refine (plane_wrong _ _ _ R (Glob.drewN HG.out) rfl).mono ?_; rintro e w9 ⟨rfl, rfl⟩
    go_wp2
    go_ret
    rw [HD2.out]
    exact ⟨_, rfl, HE.out _ (bdrewN (bnil W) m) _ _, .inr ⟨_, rfl⟩, balloc (bdrewN (bnil W) m) _⟩
  · have hd := HD.out
    rw [if_neg c3] at hd
    have HD2 := Lib.hid hd; clear hd
    go_enter Tryd.func22, Tryd.ntmps22
    go_wp2_with fail
    refine HCALL.out.mono ?_; rintro e w9 ⟨rfl, m, rfl⟩
    go_wp2
    go_ret
    rw [HD2.out]
    exact ⟨_, rfl, rfl, .inl rfl, bdrewN (bnil W) m⟩
theorem plcheck_ok (a : Option Addr) (n c : Nat) (l : List Int) (W : World) (R : Nat → Addr) (hS : Sent W R) (hR : RK .i64 W a n l) (hm : n ≤ maxLen) (hp : IsTab l) :
    Calls Tryd.prog 22 #[.slice a n c] W fun e w' => e = .returned .nilIface ∧ Below W.heap.size W w' := by
  refine (plcheck_any a n c l W R hS hR hm).mono ?_
  rintro e w' ⟨ev, rfl, he, _, hb⟩
  rw [tabD_of hp] at he
  exact ⟨by rw [show ev = .nilIface from he], hb⟩
theorem plcheck_er (a : Option Addr) (n c : Nat) (l : List Int) (W : World) (R : Nat → Addr) (hS : Sent W R) (hR : RK .i64 W a n l) (hm : n ≤ maxLen) (hp : tabD l ≠ none) :
    Calls Tryd.prog 22 #[.slice a n c] W fun e w' => ∃ g, e = .returned (.iface 124 (.pointer (some ⟨g, 0, none⟩))) ∧ EC R w' (.iface 124 (.pointer (some ⟨g, 0, none⟩))) (tabD l) ∧ Below W.heap.size W w' := by
  refine (plcheck_any a n c l W R hS hR hm).mono ?_
  rintro e w' ⟨ev, rfl, he, hi, hb⟩
  rcases hi with rfl | ⟨g, rfl⟩
  · cases hx : tabD l with
    | none => exact absurd hx hp
    | some x =>
      rw [hx] at he
      obtain ⟨t, p, e⟩ := Chain.iface he
      cases e
  · exact ⟨g, rfl, he, hb⟩

set_option maxHeartbeats 8000000 in
theorem refplcheck_any (a : Option Addr) (n c : Nat) (l : List Int) (W : World) (hR : RK .i64 W a n l) (hm : n ≤ maxLen) :
    Calls Tryd.prog 80 #[.slice a n c] W (RefRet W (tabD l)) := by
  have hnl := hR.len
  have hmx : n ≤ 9223372036854775807 := hm
  have T0 := Tk.nil W
  have T1 := T0.add (fun wv => Below W.heap.size W wv) (bnil W)
  clear T0
  have T2 := T1.add (fun wv => RK .i64 wv a n l) (hR)
  clear T1
  clear hR
  obtain ⟨Wb, hWb⟩ : ∃ Wb, W.alloc (.cells #[.int .i64 0, .slice none 0 0, .slice none 0 0] 60) = Wb := ⟨_, rfl⟩
  have hbWb : Below W.heap.size W Wb := by rw [← hWb]; exact balloc (bnil W) _
  have T3 := T2.up hbWb
  clear T2
  have HWb := Lib.hid hWb
  clear hWb hbWb
  have hz : Wb.heap[W.heap.size]? = some (.cells #[.int .i64 0, .slice none 0 0, .slice none 0 0] 60) := by
    rw [← HWb.out]
    exact heap_alloc_new W _
  have T4 := T3.add (fun wv => wv.heap[W.heap.size]? = some (.cells #[.int .i64 0, .slice none 0 0, .slice none 0 0] 60)) (hz)
  clear T3
  clear hz
  by_cases c0 : n ≠ 512
  · skip
    have hd : tabD l = some ([(opPlane, 0)], 1) := by unfold tabD; rw [if_pos (by rw [← hnl]; exact c0)]
    have HD := Lib.hid hd
    have cb : ((n : Int) != 512) = true := by rw [bne_iff_ne]; omega
    have cb2 : ((n : Int) == 512) = false := by rw [beq_eq_false_iff_ne]; omega
    clear hd c0 hnl
    go_enter Tryd.func80, Tryd.ntmps80
    have sb0 : W.heap.size < Wb.heap.size := heap_ltT (T4.out.2)
    go_wp2_with fail
    rw [HWb.out]
    refine (rawNew_fresh _ _ _ _ rfl).mono ?_; rintro e w8 ⟨b1, b2, rfl, lb1, lb2, hw8, hbw8⟩
    have T5 := T4.up hbw8
    clear T4
    obtain ⟨w9, e9, ⟨r0, r1, r2⟩, hret⟩ := er_at (Nat.le_refl _) (T5.out.2) (T5.out.1.1.2) (by omega) (by omega) hw8
    obtain ⟨⟨q0, q1, q2⟩, f0, f1, f2⟩ := p_cells (T5.out.2)
    have HRET := Lib.hid hret
    have HE9 := Lib.hid e9
    have HR9 := Lib.hid (And.intro r0 (And.intro r1 r2))
    clear hw8 hret lb1 lb2 sb0 e9 r0 r1 r2
    go_wp2
    rw [HE9.out]
    have r0 := HR9.out.1
    have r1 := HR9.out.2.1
    have r2 := HR9.out.2.2
    refine bodyPost_ret (v := .agg #[.int .i64 1, .slice (some ⟨b1, 0, none⟩) 1 1, .slice (some ⟨b2, 0, none⟩) 1 1]) (by simp [results, Tryd.results80, go_sem, r0, r1, r2]) rfl ?_
    rw [HD.out]
    exact HRET.out
  have hn : n = 512 := Decidable.byContradiction c0
  have hD : Hid (tabD l = if 0 ≤ idxI cellB l then some ([(opPlane, 1 + idxI cellB l)], 1) else none) := by
    show _ = _
    unfold tabD
    rw [if_neg (by rw [← hnl]; exact c0)]
  have HNL := Lib.hid hnl
  subst hn
  clear c0 hnl
  go_enter Tryd.func80, Tryd.ntmps80
  go_wp2_with fail
  rw [HWb.out]
  go_loop [3] (fun ix => ∃ i : Nat, i ≤ 512 ∧ ix = .int .i64 i ∧ ∀ x ∈ l.take i, cellB x = false) (fun ix => 512 - (intOf ix).toNat)
  case atStart => exact ⟨0, by omega, rfl, fun x hx => by simp at hx⟩
  case round =>
    obtain ⟨i, hi, rfl, hall⟩ := hrel
    have HA := Lib.hid hall
    clear hall
    by_cases hin : i < 512
    · skip
      obtain ⟨ab, ao, hab0, hab, hcell⟩ := (T4.out.1.2).addr (by omega)
      subst hab0
      have z0 := hcell i hin
      have hnext : Hid (cellB (l.getD i 0) = false → ∀ x ∈ l.take (i + 1), cellB x = false) := fun hc => all_take_succ (by have := HNL.out; omega) HA.out hc
      have hhit : Hid (cellB (l.getD i 0) = true → idxI cellB l = (i : Int)) := fun hc => findIdx_at (by have := HNL.out; omega) HA.out hc
      generalize l.getD i 0 = u at z0 hnext hhit
      have i0 : (0 : Int) ≤ (i : Int) := by omega
      have i1 : (i : Int) < 512 := by omega
      clear hcell
      by_cases hu : u = 0 ∨ u = 1
      · skip
        have HN := Lib.hid (hnext.out (cellB_false.2 hu))
        clear hnext hhit
        rcases hu with rfl | rfl
        · skip
          go_wp2
          go_round
          case rel => exact ⟨i + 1, by omega, by go_num, HN.out⟩
          case measure => simp [intOf]; omega
        · skip
          go_wp2
          go_round
          case rel => exact ⟨i + 1, by omega, by go_num, HN.out⟩
          case measure => simp [intOf]; omega
      · skip
        have hi2 := hhit.out (cellB_true.2 (by omega))
        have hd := hD.out
        rw [if_pos (by omega), hi2] at hd
        have HD := Lib.hid hd
        have hu0 : (u != 0) = true := by rw [bne_iff_ne]; omega
        have hu1 : (u != 1) = true := by rw [bne_iff_ne]; omega
        clear hd hi2 hu hhit hnext
        have sb0 : W.heap.size < Wb.heap.size := heap_ltT (T4.out.2)
        go_wp2_with fail
        refine (rawNew_fresh _ _ _ _ rfl).mono ?_; rintro e w8 ⟨b1, b2, rfl, lb1, lb2, hw8, hbw8⟩
        have T5 := T4.up hbw8
        clear T4
        obtain ⟨w9, e9, ⟨r0, r1, r2⟩, hret⟩ := er_at (Nat.le_refl _) (T5.out.2) (T5.out.1.1.2) (by omega) (by omega) hw8
        obtain ⟨⟨q0, q1, q2⟩, f0, f1, f2⟩ := p_cells (T5.out.2)
        have HRET := Lib.hid hret
        have HE9 := Lib.hid e9
        have HR9 := Lib.hid (And.intro r0 (And.intro r1 r2))
        clear hw8 hret lb1 lb2 sb0 e9 r0 r1 r2
        go_wp2
        rw [HE9.out]
        have r0 := HR9.out.1
        have r1 := HR9.out.2.1
        have r2 := HR9.out.2.2
        refine bodyPost_ret (v := .agg #[.int .i64 1, .slice (some ⟨b1, 0, none⟩) 1 1, .slice (some ⟨b2, 0, none⟩) 1 1]) (by simp [results, Tryd.results80, go_sem, r0, r1, r2]) rfl ?_
        rw [HD.out]
        exact HRET.out
    · skip
      obtain rfl : i = 512 := by omega
      have hno : idxI cellB l = -1 := findIdx_none fun x hx => HA.out x (by rw [List.take_of_length_le (by have := HNL.out; omega)]; exact hx)
      have hd := hD.out
      rw [if_neg (by omega)] at hd
      have HD := Lib.hid hd
      clear hd hno
      obtain ⟨⟨q0, q1, q2⟩, f0, f1, f2⟩ := p_cells (T4.out.2)
      obtain ⟨w9, e9, ⟨r0, r1, r2⟩, hret⟩ := er_none (Nat.le_refl _) (T4.out.2) (T4.out.1.1.2)
      have HRET := Lib.hid hret
      have HE9 := Lib.hid e9
      have HR9 := Lib.hid (And.intro r0 (And.intro r1 r2))
      clear hret e9 r0 r1 r2
      go_wp2
      rw [HE9.out]
      have r0 := HR9.out.1
      have r1 := HR9.out.2.1
      have r2 := HR9.out.2.2
      refine bodyPost_ret (v := .agg #[.int .i64 0, .slice none 0 0, .slice none 0 0]) (by simp [results, Tryd.results80, go_sem, r0, r1, r2]) rfl ?_
      rw [HD.out]
      exact HRET.out
end Go.Proofs.YtoaooblodgejdaaDoor
namespace Go.Proofs.YtoaooblodgejdaaDoor
open Go.RowKit
set_option linter.unusedVariables false
set_option maxRecDepth 100000

/-- what plane.Step tells -/
def stepD (t : List Int) (w h : Int) (l : List Int) : ErrD := match tabD t with
  | some e => some e
  | none => match patchD w h l with
    | some e => some ((opPlane, 1) :: e.1, e.2)
    | none => if w < 3 ∨ h < 3 then some ([(opPlane, 1)], 3) else none
def stepO (t : List Int) (w h : Int) (l : List Int) : Int × Int × List Int := if stepD t w h l = none then (w - 2, h - 2, stepL t w.toNat h.toNat l) else (0, 0, [])
theorem stepO_er {t : List Int} {w h : Int} {l : List Int} {x : List (ByteArray × Int) × Int} (hd : stepD t w h l = some x) : stepO t w h l = (0, 0, []) := by unfold stepO; rw [if_neg (by rw [hd]; exact nofun)]
/-- a window's number, line by line -/
def winP (w : Nat) (l : List Int) (x y : Nat) : Nat → Nat
  | 0 => 0
  | k + 1 => 8 * winP w l x y k + 4 * (atL w l x (y + k)).toNat + 2 * (atL w l (x + 1) (y + k)).toNat + (atL w l (x + 2) (y + k)).toNat
theorem atL_nat {w h : Nat} {l : List Int} (hp : IsPatch w h l) {x y : Nat} (hx : x < w) (hy : y < h) : ∃ c : Nat, atL w l x y = (c : Int) ∧ c ≤ 1 := by
  rcases atL_sym hp hx hy with h | h
  · exact ⟨0, h, by omega⟩
  · exact ⟨1, h, by omega⟩
theorem winP_three {w h : Nat} {l : List Int} (hp : IsPatch w h l) {x y : Nat} (hx : x + 2 < w) (hy : y + 2 < h) : winP w l x y 3 = winN w l x y := by
  obtain ⟨c1, e1, _⟩ := atL_nat hp (show x < w by omega) (show y < h by omega)
  obtain ⟨c2, e2, _⟩ := atL_nat hp (show x + 1 < w by omega) (show y < h by omega)
  obtain ⟨c3, e3, _⟩ := atL_nat hp (show x + 2 < w by omega) (show y < h by omega)
  obtain ⟨c4, e4, _⟩ := atL_nat hp (show x < w by omega) (show y + 1 < h by omega)
  obtain ⟨c5, e5, _⟩ := atL_nat hp (show x + 1 < w by omega) (show y + 1 < h by omega)
  obtain ⟨c6, e6, _⟩ := atL_nat hp (show x + 2 < w by omega) (show y + 1 < h by omega)
  obtain ⟨c7, e7, _⟩ := atL_nat hp (show x < w by omega) (show y + 2 < h by omega)
  obtain ⟨c8, e8, _⟩ := atL_nat hp (show x + 1 < w by omega) (show y + 2 < h by omega)
  obtain ⟨c9, e9, _⟩ := atL_nat hp (show x + 2 < w by omega) (show y + 2 < h by omega)
  unfold winN winZ
  simp only [winP, Nat.add_zero, e1, e2, e3, e4, e5, e6, e7, e8, e9, Int.toNat_natCast]
  omega
theorem winP_lt {w h : Nat} {l : List Int} (hp : IsPatch w h l) {x y : Nat} (hx : x + 2 < w) (hy : y + 2 < h) : ∀ k, k ≤ 3 → winP w l x y k < 8 ^ k
  | 0, _ => by simp [winP]
  | k + 1, hk => by
    have ih := winP_lt hp hx hy k (by omega)
    obtain ⟨c1, e1, _⟩ := atL_nat hp (show x < w by omega) (show y + k < h by omega)
    obtain ⟨c2, e2, _⟩ := atL_nat hp (show x + 1 < w by omega) (show y + k < h by omega)
    obtain ⟨c3, e3, _⟩ := atL_nat hp (show x + 2 < w by omega) (show y + k < h by omega)
    simp only [winP, e1, e2, e3, Int.toNat_natCast]
    rw [Nat.pow_succ]
    omega
theorem or_line : ∀ (n : Fin 64) (a b c : Fin 2), (((n.val * 8 ||| a.val * 4) ||| b.val * 2) ||| c.val) = 8 * n.val + 4 * a.val + 2 * b.val + c.val ∧ (n.val * 8 ||| a.val * 4) < 600 ∧ ((n.val * 8 ||| a.val * 4) ||| b.val * 2) < 600 := by decide +kernel
theorem plunder (op : ByteArray) (at_ : Int) (t : TypeId) (p : Value) (w : World) :
    Calls Tryd.prog 74 #[.string op, .int .i64 at_, .iface t p] w fun e w' =>
      e = .returned (.iface 124 (.pointer (some ⟨w.heap.size, 0, none⟩))) ∧ w' = w.alloc (faultObj op at_ (.iface t p)) := by
  go_enter Tryd.func74, Tryd.ntmps74
  go_wp2
  go_ret
  exact ⟨rfl, rfl⟩
set_option maxHeartbeats 16000000 in
theorem plstep_er (w h : Int) (a aT : Option Addr) (n c nT cT : Nat) (l t : List Int) (W : World) (R : Nat → Addr) (hS : Sent W R) (hR : RK .i64 W a n l) (hm : n ≤ maxLen) (hx : I64 l) (hT : RK .i64 W aT nT t) (hmT : nT ≤ maxLen) (hd : stepD t w h l ≠ none) :
    Calls Tryd.prog 27 #[.slice aT nT cT, patV w h a n c] W (PatRet R W (stepO t w h l) (stepD t w h l)) := by
  have T0 := Tk.nil W
  have T1 := T0.add (fun wv => Below W.heap.size W wv) (bnil W)
  clear T0
  have T2 := T1.add (fun wv => Sent wv R) (hS)
  clear T1
  have T3 := T2.add (fun wv => RK .i64 wv a n l) (hR)
  clear T2
  have T4 := T3.add (fun wv => RK .i64 wv aT nT t) (hT)
  clear T3
  have HI6 := Lib.hid hx
  have HS0 := Lib.hid hS
  clear hS hR hT hx
  obtain ⟨Wb, hWb⟩ : ∃ Wb, (W.alloc (.cells #[.int .i64 w, .int .i64 h, .slice a n c] 24)).alloc (.cells #[.int .i64 0, .int .i64 0, .slice none 0 0] 24) = Wb := ⟨_, rfl⟩
  have hbWb : Below W.heap.size W Wb := by rw [← hWb]; exact balloc (balloc (bnil W) _) _
  have T5 := T4.up hbWb
  clear T4
  have T6 := T5.add (fun wv => wv.cell? ⟨W.heap.size, 0, none⟩ = some (.int .i64 w) ∧ wv.cell? ⟨W.heap.size, 1, none⟩ = some (.int .i64 h) ∧ wv.cell? ⟨W.heap.size, 2, none⟩ = some (.slice a n c)) (by rw [← hWb]; exact ⟨al000 (cnw (by simp) rfl), al000 (cnw (by simp) rfl), al000 (cnw (by simp) rfl)⟩)
  clear T5
  have HWb := Lib.hid hWb
  clear hWb hbWb
  have hz1 : Wb.heap[W.heap.size + 1]? = some (.cells #[.int .i64 0, .int .i64 0, .slice none 0 0] 24) := by
    rw [← HWb.out]
    have := heap_alloc_new (W.alloc (.cells #[.int .i64 w, .int .i64 h, .slice a n c] 24)) (.cells #[.int .i64 0, .int .i64 0, .slice none 0 0] 24)
    simpa using this
  have T7 := T6.add (fun wv => wv.heap[W.heap.size + 1]? = some (.cells #[.int .i64 0, .int .i64 0, .slice none 0 0] 24)) (hz1)
  clear T6
  clear hz1
  by_cases htd : tabD t ≠ none
  · skip
    have hsd : stepD t w h l = tabD t := by
      unfold stepD
      cases hq : tabD t with
      | none => exact absurd hq htd
      | some x => rfl
    obtain ⟨x, hx⟩ : ∃ x, tabD t = some x := by
      cases hq : tabD t with
      | none => exact absurd hq htd
      | some x => exact ⟨x, rfl⟩
    have HOD := Lib.hid (And.intro (stepO_er (hsd.trans hx)) hsd)
    have HTD := Lib.hid htd
    clear hsd hx hd htd
    go_enter Tryd.func27, Tryd.ntmps27
    go_wp2_with fail
    rw [HWb.out]
    refine (plcheck_er aT nT cT t Wb R T7.out.1.1.1.1.2 T7.out.1.1.2 hmT HTD.out).mono ?_; rintro e w1 ⟨g, rfl, he, hbw1⟩
    have T8 := T7.up hbw1
    clear T7
    have HEC := Lib.hid (he)
    obtain ⟨⟨q0, q1, q2⟩, f0, f1, f2⟩ := p_cells (T8.out.2)
    obtain ⟨w9, e9, ⟨r0, r1, r2⟩, hk9, hs9, hbl9⟩ := set3p (T8.out.2) (.int .i64 0) (.int .i64 0) (.slice none 0 0)
    have HRET := Lib.hid (And.intro (HEC.out.othP HS0.out hk9 (T8.out.2) (by omega)) (hbl9 W W.heap.size (by omega) (T8.out.1.1.1.1.1.2)))
    have HE9 := Lib.hid e9
    have HR9 := Lib.hid (And.intro r0 (And.intro r1 r2))
    clear hk9 hs9 hbl9 e9 r0 r1 r2
    go_wp2
    rw [HE9.out]
    have r0 := HR9.out.1
    have r1 := HR9.out.2.1
    have r2 := HR9.out.2.2
    refine bodyPost_ret (v := .tuple #[patV 0 0 none 0 0, .iface 124 (.pointer (some ⟨g, 0, none⟩))]) (by simp [results, Tryd.results27, go_sem, r0, r1, r2]) rfl ?_
    rw [HOD.out.1, HOD.out.2]
    exact ⟨none, 0, 0, _, rfl, OwI.nil _ _, HRET.out.1, HRET.out.2⟩
  have htd0 : tabD t = none := Decidable.byContradiction htd
  have HT := Lib.hid (tabD_none htd0)
  cases hpe : patchErr w h l with
  | some y =>
    have hsd : stepD t w h l = some ([(opPlane, 1), (opPatch, y.1)], y.2) := by
      unfold stepD patchD
      rw [htd0, hpe]
      rfl
    have HOD := Lib.hid (And.intro (stepO_er hsd) hsd)
    have HPE := Lib.hid hpe
    clear hsd hd htd htd0 hpe
    go_enter Tryd.func27, Tryd.ntmps27
    go_wp2_with fail
    rw [HWb.out]
    refine (plcheck_ok aT nT cT t Wb R T7.out.1.1.1.1.2 T7.out.1.1.2 hmT HT.out).mono ?_; rintro e w1 ⟨rfl, hbw1⟩
    have T8 := T7.up hbw1
    clear T7
    have v_p0 : w1.cell? ⟨W.heap.size, 0, none⟩ = some (.int .i64 w) := T8.out.1.2.1
    have v_p1 : w1.cell? ⟨W.heap.size, 1, none⟩ = some (.int .i64 h) := T8.out.1.2.2.1
    have v_p2 : w1.cell? ⟨W.heap.size, 2, none⟩ = some (.slice a n c) := T8.out.1.2.2.2
    go_wp2_with fail
    refine (pcheck_er w h a n c l w1 R T8.out.1.1.1.1.2 T8.out.1.1.1.2 hm HI6.out y HPE.out).mono ?_; rintro e w2 ⟨g, rfl, he, hbw2⟩
    clear v_p0 v_p1 v_p2
    have T9 := T8.up hbw2
    clear T8
    have HE2 := Lib.hid he
    clear he
    go_wp2_with fail
    refine (plunder _ _ _ _ _).mono ?_; rintro e w3 ⟨rfl, hw3⟩
    have hb3 : Below w2.heap.size w2 w3 := by rw [hw3]; exact balloc (bnil w2) _
    have he3 : EC R w3 (.iface 124 (.pointer (some ⟨w2.heap.size, 0, none⟩))) (some ([(opPlane, 1), (opPatch, y.1)], y.2)) := by rw [hw3]; exact ec_under opPlane 1 HE2.out
    clear hw3
    have T10 := T9.up hb3
    clear T9
    clear hb3
    have HEC := Lib.hid (he3)
    obtain ⟨⟨q0, q1, q2⟩, f0, f1, f2⟩ := p_cells (T10.out.2)
    obtain ⟨w9, e9, ⟨r0, r1, r2⟩, hk9, hs9, hbl9⟩ := set3p (T10.out.2) (.int .i64 0) (.int .i64 0) (.slice none 0 0)
    have HRET := Lib.hid (And.intro (HEC.out.othP HS0.out hk9 (T10.out.2) (by omega)) (hbl9 W W.heap.size (by omega) (T10.out.1.1.1.1.1.2)))
    have HE9 := Lib.hid e9
    have HR9 := Lib.hid (And.intro r0 (And.intro r1 r2))
    clear hk9 hs9 hbl9 e9 r0 r1 r2
    go_wp2
    rw [HE9.out]
    have r0 := HR9.out.1
    have r1 := HR9.out.2.1
    have r2 := HR9.out.2.2
    refine bodyPost_ret (v := .tuple #[patV 0 0 none 0 0, .iface 124 (.pointer (some ⟨w2.heap.size, 0, none⟩))]) (by simp [results, Tryd.results27, go_sem, r0, r1, r2]) rfl ?_
    rw [HOD.out.1, HOD.out.2]
    exact ⟨none, 0, 0, _, rfl, OwI.nil _ _, HRET.out.1, HRET.out.2⟩
  | none =>
    obtain ⟨w, h, rfl, rfl, hp⟩ := patchErr_none hpe
    have hc : w < 3 ∨ h < 3 := by
      refine Decidable.byContradiction fun hn => hd ?_
      unfold stepD patchD
      rw [htd0, hpe]
      exact if_neg (by omega)
    have hsd : stepD t w h l = some ([(opPlane, 1)], 3) := by
      unfold stepD patchD
      rw [htd0, hpe]
      exact if_pos (by omega)
    have HOD := Lib.hid (And.intro (stepO_er hsd) hsd)
    have HPP := Lib.hid hp
    clear hsd hd htd htd0 hpe hp
    by_cases hc1 : w < 3
    · skip
      have hcI : (w : Int) < 3 := by omega
      clear hc hc1
      go_enter Tryd.func27, Tryd.ntmps27
      go_wp2_with fail
      rw [HWb.out]
      refine (plcheck_ok aT nT cT t Wb R T7.out.1.1.1.1.2 T7.out.1.1.2 hmT HT.out).mono ?_; rintro e w1 ⟨rfl, hbw1⟩
      have T8 := T7.up hbw1
      clear T7
      have v_p0 : w1.cell? ⟨W.heap.size, 0, none⟩ = some (.int .i64 w) := T8.out.1.2.1
      have v_p1 : w1.cell? ⟨W.heap.size, 1, none⟩ = some (.int .i64 h) := T8.out.1.2.2.1
      have v_p2 : w1.cell? ⟨W.heap.size, 2, none⟩ = some (.slice a n c) := T8.out.1.2.2.2
      go_wp2_with fail
      refine (pcheck_ok w h a n c l w1 R T8.out.1.1.1.1.2 T8.out.1.1.1.2 hm HI6.out HPP.out).mono ?_; rintro e w2 ⟨rfl, hbw2⟩
      clear v_p0 v_p1 v_p2
      have T9 := T8.up hbw2
      clear T8
      have v_p0 : w2.cell? ⟨W.heap.size, 0, none⟩ = some (.int .i64 w) := T9.out.1.2.1
      have v_p1 : w2.cell? ⟨W.heap.size, 1, none⟩ = some (.int .i64 h) := T9.out.1.2.2.1
      have v_p2 : w2.cell? ⟨W.heap.size, 2, none⟩ = some (.slice a n c) := T9.out.1.2.2.2
      go_wp2_with fail
      refine (plane_wrong _ _ _ R (T9.out.1.1.1.1.2).glob rfl).mono ?_; rintro e w3 ⟨rfl, hw3⟩
      have hb3 : Below w2.heap.size w2 w3 := by rw [hw3]; exact balloc (bnil w2) _
      have he3 : EC R w3 (.iface 124 (.pointer (some ⟨w2.heap.size, 0, none⟩))) (some ([(opPlane, 1)], 3)) := by rw [hw3]; exact ec_err ((T9.out.1.1.1.1.2).up (balloc (bnil w2) (faultObj opPlane 1 (.iface 190 (.pointer (some (R (rix 3)))))))) (isErr_new (Nat.le_refl _))
      clear hw3
      clear v_p0 v_p1 v_p2
      have T10 := T9.up hb3
      clear T9
      clear hb3
      have HEC := Lib.hid (he3)
      obtain ⟨⟨q0, q1, q2⟩, f0, f1, f2⟩ := p_cells (T10.out.2)
      obtain ⟨w9, e9, ⟨r0, r1, r2⟩, hk9, hs9, hbl9⟩ := set3p (T10.out.2) (.int .i64 0) (.int .i64 0) (.slice none 0 0)
      have HRET := Lib.hid (And.intro (HEC.out.othP HS0.out hk9 (T10.out.2) (by omega)) (hbl9 W W.heap.size (by omega) (T10.out.1.1.1.1.1.2)))
      have HE9 := Lib.hid e9
      have HR9 := Lib.hid (And.intro r0 (And.intro r1 r2))
      clear hk9 hs9 hbl9 e9 r0 r1 r2
      go_wp2
      rw [HE9.out]
      have r0 := HR9.out.1
      have r1 := HR9.out.2.1
      have r2 := HR9.out.2.2
      refine bodyPost_ret (v := .tuple #[patV 0 0 none 0 0, .iface 124 (.pointer (some ⟨w2.heap.size, 0, none⟩))]) (by simp [results, Tryd.results27, go_sem, r0, r1, r2]) rfl ?_
      rw [HOD.out.1, HOD.out.2]
      exact ⟨none, 0, 0, _, rfl, OwI.nil _ _, HRET.out.1, HRET.out.2⟩
    · skip
      have hcI : ¬ (w : Int) < 3 := by omega
      have hcJ : (h : Int) < 3 := by omega
      clear hc hc1
      go_enter Tryd.func27, Tryd.ntmps27
      go_wp2_with fail
      rw [HWb.out]
      refine (plcheck_ok aT nT cT t Wb R T7.out.1.1.1.1.2 T7.out.1.1.2 hmT HT.out).mono ?_; rintro e w1 ⟨rfl, hbw1⟩
      have T8 := T7.up hbw1
      clear T7
      have v_p0 : w1.cell? ⟨W.heap.size, 0, none⟩ = some (.int .i64 w) := T8.out.1.2.1
      have v_p1 : w1.cell? ⟨W.heap.size, 1, none⟩ = some (.int .i64 h) := T8.out.1.2.2.1
      have v_p2 : w1.cell? ⟨W.heap.size, 2, none⟩ = some (.slice a n c) := T8.out.1.2.2.2
      go_wp2_with fail
      refine (pcheck_ok w h a n c l w1 R T8.out.1.1.1.1.2 T8.out.1.1.1.2 hm HI6.out HPP.out).mono ?_; rintro e w2 ⟨rfl, hbw2⟩
      clear v_p0 v_p1 v_p2
      have T9 := T8.up hbw2
      clear T8
      have v_p0 : w2.cell? ⟨W.heap.size, 0, none⟩ = some (.int .i64 w) := T9.out.1.2.1
      have v_p1 : w2.cell? ⟨W.heap.size, 1, none⟩ = some (.int .i64 h) := T9.out.1.2.2.1
      have v_p2 : w2.cell? ⟨W.heap.size, 2, none⟩ = some (.slice a n c) := T9.out.1.2.2.2
      go_wp2_with fail
      refine (plane_wrong _ _ _ R (T9.out.1.1.1.1.2).glob rfl).mono ?_; rintro e w3 ⟨rfl, hw3⟩
      have hb3 : Below w2.heap.size w2 w3 := by rw [hw3]; exact balloc (bnil w2) _
      have he3 : EC R w3 (.iface 124 (.pointer (some ⟨w2.heap.size, 0, none⟩))) (some ([(opPlane, 1)], 3)) := by rw [hw3]; exact ec_err ((T9.out.1.1.1.1.2).up (balloc (bnil w2) (faultObj opPlane 1 (.iface 190 (.pointer (some (R (rix 3)))))))) (isErr_new (Nat.le_refl _))
      clear hw3
      clear v_p0 v_p1 v_p2
      have T10 := T9.up hb3
      clear T9
      clear hb3
      have HEC := Lib.hid (he3)
      obtain ⟨⟨q0, q1, q2⟩, f0, f1, f2⟩ := p_cells (T10.out.2)
      obtain ⟨w9, e9, ⟨r0, r1, r2⟩, hk9, hs9, hbl9⟩ := set3p (T10.out.2) (.int .i64 0) (.int .i64 0) (.slice none 0 0)
      have HRET := Lib.hid (And.intro (HEC.out.othP HS0.out hk9 (T10.out.2) (by omega)) (hbl9 W W.heap.size (by omega) (T10.out.1.1.1.1.1.2)))
      have HE9 := Lib.hid e9
      have HR9 := Lib.hid (And.intro r0 (And.intro r1 r2))
      clear hk9 hs9 hbl9 e9 r0 r1 r2
      go_wp2
      rw [HE9.out]
      have r0 := HR9.out.1
      have r1 := HR9.out.2.1
      have r2 := HR9.out.2.2
      refine bodyPost_ret (v := .tuple #[patV 0 0 none 0 0, .iface 124 (.pointer (some ⟨w2.heap.size, 0, none⟩))]) (by simp [results, Tryd.results27, go_sem, r0, r1, r2]) rfl ?_
      rw [HOD.out.1, HOD.out.2]
      exact ⟨none, 0, 0, _, rfl, OwI.nil _ _, HRET.out.1, HRET.out.2⟩
end Go.Proofs.YtoaooblodgejdaaDoor
namespace Go.Proofs.YtoaooblodgejdaaDoor
open Go.RowKit
set_option linter.unusedVariables false
set_option maxRecDepth 100000

theorem wc_numP {w : World} {N n : Int} {x y : Value} {es : List (ByteArray × Int)} (h : WC w (.agg #[.int .i64 N, x, y]) (some (es, n))) : N = n := by
  obtain ⟨⟨ao, aa, co, ca, e, _⟩, _⟩ := h
  simp only [Value.agg.injEq, Array.mk.injEq, List.cons.injEq, Value.int.injEq] at e
  exact e.1.2
theorem refplcheck_ok (a : Option Addr) (n c : Nat) (l : List Int) (W : World) (hR : RK .i64 W a n l) (hm : n ≤ maxLen) (ht : tabD l = none) :
    Calls Tryd.prog 80 #[.slice a n c] W fun e w' => e = .returned (.agg #[.int .i64 0, .slice none 0 0, .slice none 0 0]) ∧ Below W.heap.size W w' := by
  refine (refplcheck_any a n c l W hR hm).mono ?_
  rintro e w' ⟨N, a1, n1, c1, a2, n2, c2, rfl, _, _, _, _, hz, hb⟩
  obtain ⟨rfl, rfl, rfl, rfl, rfl, rfl, rfl⟩ := hz ht
  exact ⟨rfl, hb⟩
theorem refUnder_z (op : ByteArray) (at_ : Int) (W : World) : Calls Tryd.prog 79 #[.string op, .int .i64 at_, .agg #[.int .i64 0, .slice none 0 0, .slice none 0 0]] W fun e w' => e = .returned (.agg #[.int .i64 0, .slice none 0 0, .slice none 0 0]) ∧ Below W.heap.size W w' := by
  refine (refUnder_none op at_ W).mono ?_
  rintro e w' ⟨N, a1, n1, c1, a2, n2, c2, rfl, _, _, _, _, hz, hb⟩
  obtain ⟨rfl, rfl, rfl, rfl, rfl, rfl, rfl⟩ := hz rfl
  exact ⟨rfl, hb⟩
end Go.Proofs.YtoaooblodgejdaaDoor
namespace Go.Proofs.YtoaooblodgejdaaDoor
set_option linter.unusedVariables false
set_option maxRecDepth 100000

theorem winN_eq {w w' : Nat} {l l' : List Int} {x y x' y' : Nat} (h : ∀ i j, i < 3 → j < 3 → atL w l (x + i) (y + j) = atL w' l' (x' + i) (y' + j)) : winN w l x y = winN w' l' x' y' := by
  have h00 := h 0 0 (by omega) (by omega)
  have h10 := h 1 0 (by omega) (by omega)
  have h20 := h 2 0 (by omega) (by omega)
  have h01 := h 0 1 (by omega) (by omega)
  have h11 := h 1 1 (by omega) (by omega)
  have h21 := h 2 1 (by omega) (by omega)
  have h02 := h 0 2 (by omega) (by omega)
  have h12 := h 1 2 (by omega) (by omega)
  have h22 := h 2 2 (by omega) (by omega)
  simp only [Nat.add_zero] at h00 h10 h20 h01 h11 h21 h02 h12 h22
  unfold winN winZ
  rw [h00, h10, h20, h01, h11, h21, h02, h12, h22]
/-- the image of a piece is a piece of the image -/
theorem step_cut {w h x y p q : Nat} {l t : List Int} (hp : 1 ≤ p) (hx : x + p + 2 ≤ w) (hy : y + q + 2 ≤ h) : stepL t (p + 2) (q + 2) (cutL w l x y (p + 2) (q + 2)) = cutL (w - 2) (stepL t w h l) x y p q := by
  unfold stepL
  show madeL p q _ = _
  unfold cutL
  refine madeL_congr (by omega) fun i j hi hj => ?_
  rw [atL_made (by omega) (by omega)]
  unfold stepF
  congr 1
  refine winN_eq fun a b ha hb => ?_
  rw [atL_made (by omega) (by omega), Nat.add_assoc, Nat.add_assoc]
/-- a window's number, its cells taken from other places -/
def mvT (f : Nat → Nat) (win : Nat) : Nat → Nat
  | 0 => 0
  | k + 1 => 2 * mvT f win k + win / 2 ^ (8 - f k) % 2
def qF (k : Nat) : Nat := [6, 3, 0, 7, 4, 1, 8, 5, 2].getD k 0
def mF (k : Nat) : Nat := [2, 1, 0, 5, 4, 3, 8, 7, 6].getD k 0
theorem mvT_lt (f : Nat → Nat) (win : Nat) : ∀ k, mvT f win k < 2 ^ k
  | 0 => by simp [mvT]
  | k + 1 => by
    have ih := mvT_lt f win k
    unfold mvT
    rw [Nat.pow_succ]
    omega
theorem mv_bits : ∀ (a b c d e f g h i : Fin 2), mvT qF (256 * a.val + 128 * b.val + 64 * c.val + 32 * d.val + 16 * e.val + 8 * f.val + 4 * g.val + 2 * h.val + i.val) 9 = 256 * g.val + 128 * d.val + 64 * a.val + 32 * h.val + 16 * e.val + 8 * b.val + 4 * i.val + 2 * f.val + c.val ∧ mvT mF (256 * a.val + 128 * b.val + 64 * c.val + 32 * d.val + 16 * e.val + 8 * f.val + 4 * g.val + 2 * h.val + i.val) 9 = 256 * c.val + 128 * b.val + 64 * a.val + 32 * f.val + 16 * e.val + 8 * d.val + 4 * i.val + 2 * h.val + g.val := by decide +kernel
/-- do a quarter turn and the mirror leave the table? -/
def evOk (t : List Int) (i : Nat) : Prop := t.getD (mvT qF i 9) 0 = t.getD i 0 ∧ t.getD (mvT mF i 9) 0 = t.getD i 0
instance (t : List Int) (i : Nat) : Decidable (evOk t i) := by unfold evOk; exact inferInstance
def evB (t : List Int) : Bool := (List.range 512).all fun i => decide (evOk t i)
theorem evB_true {t : List Int} (h : ∀ i, i < 512 → evOk t i) : evB t = true := by
  unfold evB
  rw [List.all_eq_true]
  intro i hi
  exact decide_eq_true (h i (List.mem_range.1 hi))
theorem evB_of {t : List Int} (h : evB t = true) {i : Nat} (hi : i < 512) : evOk t i := by
  unfold evB at h
  rw [List.all_eq_true] at h
  exact of_decide_eq_true (h i (List.mem_range.2 hi))
theorem evB_false {t : List Int} {i : Nat} (hi : i < 512) (h : ¬ evOk t i) : evB t = false := by
  cases hq : evB t with
  | false => rfl
  | true => exact absurd (evB_of hq hi) h
theorem win_move {w h : Nat} {l : List Int} (hp : IsPatch w h l) {x y : Nat} (hx : x + 2 < w) (hy : y + 2 < h) {w' : Nat} {l' : List Int} {x' y' : Nat} :
    ((∀ i j, i < 3 → j < 3 → atL w' l' (x' + i) (y' + j) = atL w l (x + j) (y + (2 - i))) → winN w' l' x' y' = mvT qF (winN w l x y) 9) ∧
    ((∀ i j, i < 3 → j < 3 → atL w' l' (x' + i) (y' + j) = atL w l (x + (2 - i)) (y + j)) → winN w' l' x' y' = mvT mF (winN w l x y) 9) := by
  obtain ⟨c1, e1, h1⟩ := atL_nat hp (show x < w by omega) (show y < h by omega)
  obtain ⟨c2, e2, h2⟩ := atL_nat hp (show x + 1 < w by omega) (show y < h by omega)
  obtain ⟨c3, e3, h3⟩ := atL_nat hp (show x + 2 < w by omega) (show y < h by omega)
  obtain ⟨c4, e4, h4⟩ := atL_nat hp (show x < w by omega) (show y + 1 < h by omega)
  obtain ⟨c5, e5, h5⟩ := atL_nat hp (show x + 1 < w by omega) (show y + 1 < h by omega)
  obtain ⟨c6, e6, h6⟩ := atL_nat hp (show x + 2 < w by omega) (show y + 1 < h by omega)
  obtain ⟨c7, e7, h7⟩ := atL_nat hp (show x < w by omega) (show y + 2 < h by omega)
  obtain ⟨c8, e8, h8⟩ := atL_nat hp (show x + 1 < w by omega) (show y + 2 < h by omega)
  obtain ⟨c9, e9, h9⟩ := atL_nat hp (show x + 2 < w by omega) (show y + 2 < h by omega)
  have hN : winN w l x y = 256 * c1 + 128 * c2 + 64 * c3 + 32 * c4 + 16 * c5 + 8 * c6 + 4 * c7 + 2 * c8 + c9 := by
    unfold winN winZ
    rw [e1, e2, e3, e4, e5, e6, e7, e8, e9]
    omega
  obtain ⟨b1, b2⟩ := mv_bits ⟨c1, by omega⟩ ⟨c2, by omega⟩ ⟨c3, by omega⟩ ⟨c4, by omega⟩ ⟨c5, by omega⟩ ⟨c6, by omega⟩ ⟨c7, by omega⟩ ⟨c8, by omega⟩ ⟨c9, by omega⟩
  simp only at b1 b2
  rw [hN, b1, b2]
  clear b1 b2 hN
  constructor
  · intro hA
    have a00 := hA 0 0 (by omega) (by omega)
    have a10 := hA 1 0 (by omega) (by omega)
    have a20 := hA 2 0 (by omega) (by omega)
    have a01 := hA 0 1 (by omega) (by omega)
    have a11 := hA 1 1 (by omega) (by omega)
    have a21 := hA 2 1 (by omega) (by omega)
    have a02 := hA 0 2 (by omega) (by omega)
    have a12 := hA 1 2 (by omega) (by omega)
    have a22 := hA 2 2 (by omega) (by omega)
    simp only [Nat.add_zero, Nat.sub_zero, Nat.reduceSub, Nat.sub_self] at a00 a10 a20 a01 a11 a21 a02 a12 a22
    clear hA
    unfold winN winZ
    rw [a00, a10, a20, a01, a11, a21, a02, a12, a22, e1, e2, e3, e4, e5, e6, e7, e8, e9]
    clear a00 a10 a20 a01 a11 a21 a02 a12 a22 e1 e2 e3 e4 e5 e6 e7 e8 e9
    omega
  · intro hA
    have a00 := hA 0 0 (by omega) (by omega)
    have a10 := hA 1 0 (by omega) (by omega)
    have a20 := hA 2 0 (by omega) (by omega)
    have a01 := hA 0 1 (by omega) (by omega)
    have a11 := hA 1 1 (by omega) (by omega)
    have a21 := hA 2 1 (by omega) (by omega)
    have a02 := hA 0 2 (by omega) (by omega)
    have a12 := hA 1 2 (by omega) (by omega)
    have a22 := hA 2 2 (by omega) (by omega)
    simp only [Nat.add_zero, Nat.sub_zero, Nat.reduceSub, Nat.sub_self] at a00 a10 a20 a01 a11 a21 a02 a12 a22
    clear hA
    unfold winN winZ
    rw [a00, a10, a20, a01, a11, a21, a02, a12, a22, e1, e2, e3, e4, e5, e6, e7, e8, e9]
    clear a00 a10 a20 a01 a11 a21 a02 a12 a22 e1 e2 e3 e4 e5 e6 e7 e8 e9
    omega
theorem step_q {w h : Nat} {l t : List Int} (hp : IsPatch w h l) (hw : 3 ≤ w) (hh : 3 ≤ h) (he : evB t = true) : stepL t h w (turnL w h l 1) = turnL (w - 2) (h - 2) (stepL t w h l) 1 := by
  unfold stepL
  show madeL (h - 2) (w - 2) _ = madeL (h - 2) (w - 2) _
  refine madeL_congr (by omega) fun x y hx hy => ?_
  have e1 : turnF (w - 2) (h - 2) (madeL (w - 2) (h - 2) (stepF t w l)) 1 x y = stepF t w l y (h - 2 - 1 - x) := by
    show atL (w - 2) _ y (h - 2 - 1 - x) = _
    rw [atL_made (by omega) (by omega)]
  rw [e1]
  unfold stepF
  have hlt := (winN_lt hp (show y + 2 < w by omega) (show h - 2 - 1 - x + 2 < h by omega)).1
  rw [(win_move hp (show y + 2 < w by omega) (show h - 2 - 1 - x + 2 < h by omega)).1 fun i j hi hj => ?_]
  · exact (evB_of he hlt).1
  · show atL h (madeL h w _) (x + i) (y + j) = _
    rw [atL_made (by omega) (by omega)]
    show atL w l (y + j) (h - 1 - (x + i)) = _
    exact atL_congr rfl (by omega)
theorem step_m {w h : Nat} {l t : List Int} (hp : IsPatch w h l) (hw : 3 ≤ w) (hh : 3 ≤ h) (he : evB t = true) : stepL t w h (turnL w h l 4) = turnL (w - 2) (h - 2) (stepL t w h l) 4 := by
  unfold stepL
  show madeL (w - 2) (h - 2) _ = madeL (w - 2) (h - 2) _
  refine madeL_congr (by omega) fun x y hx hy => ?_
  have e1 : turnF (w - 2) (h - 2) (madeL (w - 2) (h - 2) (stepF t w l)) 4 x y = stepF t w l (w - 2 - 1 - x) y := by
    show atL (w - 2) _ (w - 2 - 1 - x) y = _
    rw [atL_made (by omega) (by omega)]
  rw [e1]
  unfold stepF
  have hlt := (winN_lt hp (show w - 2 - 1 - x + 2 < w by omega) (show y + 2 < h by omega)).1
  rw [(win_move hp (show w - 2 - 1 - x + 2 < w by omega) (show y + 2 < h by omega)).2 fun i j hi hj => ?_]
  · exact (evB_of he hlt).2
  · show atL w (madeL w h _) (x + i) (y + j) = _
    rw [atL_made (by omega) (by omega)]
    show atL w l (w - 1 - (x + i)) (y + j) = _
    exact atL_congr (by omega) rfl
theorem stepL_patch {w h : Nat} {l t : List Int} (hp : IsPatch w h l) (ht : t.length = 512) (hs : ∀ x ∈ t, x = 0 ∨ x = 1) (hw : 3 ≤ w) (hh : 3 ≤ h) : IsPatch (w - 2) (h - 2) (stepL t w h l) := by
  have := hp.w2
  have := hp.h2
  refine ⟨by omega, by omega, by omega, by omega, madeL_len _ _ _, madeL_mem (P := fun x => x = 0 ∨ x = 1) (by omega) fun x y hx hy => ?_⟩
  have hlt := (winN_lt hp (show x + 2 < w by omega) (show y + 2 < h by omega)).1
  unfold stepF
  rw [show t.getD (winN w l x y) 0 = t[winN w l x y]'(by omega) by simp [show winN w l x y < t.length by omega]]
  exact hs _ (List.getElem_mem _)
/-- the image of a turned patch, where turns don't matter -/
theorem step_turn {w h T : Nat} {l t : List Int} (hp : IsPatch w h l) (ht : t.length = 512) (hs : ∀ x ∈ t, x = 0 ∨ x = 1) (hw : 3 ≤ w) (hh : 3 ≤ h) (he : evB t = true) (hT : T < 8) :
    stepL t (turnW w h T) (turnW h w T) (turnL w h l T) = turnL (w - 2) (h - 2) (stepL t w h l) T := by
  have hi := stepL_patch hp ht hs hw hh
  have q0 : stepL t (turnW w h 0) (turnW h w 0) (turnL w h l 0) = turnL (w - 2) (h - 2) (stepL t w h l) 0 := by
    have e1 : turnL w h l 0 = l := made_atL hp.w1 hp.len
    have e2 : turnL (w - 2) (h - 2) (stepL t w h l) 0 = stepL t w h l := made_atL hi.w1 hi.len
    rw [e1, e2]
    rfl
  have next : ∀ S, S < 3 → stepL t (turnW w h S) (turnW h w S) (turnL w h l S) = turnL (w - 2) (h - 2) (stepL t w h l) S → stepL t (turnW w h (S + 1)) (turnW h w (S + 1)) (turnL w h l (S + 1)) = turnL (w - 2) (h - 2) (stepL t w h l) (S + 1) := by
    intro S hS ih
    have hb : bothT S 1 = S + 1 := by
      have : S = 0 ∨ S = 1 ∨ S = 2 := by omega
      rcases this with rfl | rfl | rfl <;> rfl
    have h1 := turn_turn (w := w) (h := h) (l := l) hp.w1 hp.h1 (show S < 8 by omega) (show 1 < 8 by omega)
    have h2 := turn_turn (w := w - 2) (h := h - 2) (l := stepL t w h l) hi.w1 hi.h1 (show S < 8 by omega) (show 1 < 8 by omega)
    rw [hb] at h1 h2
    have hq := step_q (t := t) (turn_patch (t := S) hp) (by unfold turnW; split <;> omega) (by unfold turnW; split <;> omega) he
    rw [h1.2.2, ih] at hq
    have e1 : turnW w h S - 2 = turnW (w - 2) (h - 2) S := by unfold turnW; split <;> rfl
    have e2 : turnW h w S - 2 = turnW (h - 2) (w - 2) S := by unfold turnW; split <;> rfl
    rw [e1, e2, h2.2.2] at hq
    rw [← hq]
    have e3 : turnW w h (S + 1) = turnW h w S := h1.1.symm
    have e4 : turnW h w (S + 1) = turnW w h S := h1.2.1.symm
    rw [e3, e4]
  have mir : ∀ S, S < 4 → stepL t (turnW w h S) (turnW h w S) (turnL w h l S) = turnL (w - 2) (h - 2) (stepL t w h l) S → stepL t (turnW w h (S + 4)) (turnW h w (S + 4)) (turnL w h l (S + 4)) = turnL (w - 2) (h - 2) (stepL t w h l) (S + 4) := by
    intro S hS ih
    have hb : bothT S 4 = S + 4 := by
      have : S = 0 ∨ S = 1 ∨ S = 2 ∨ S = 3 := by omega
      rcases this with rfl | rfl | rfl | rfl <;> rfl
    have h1 := turn_turn (w := w) (h := h) (l := l) hp.w1 hp.h1 (show S < 8 by omega) (show 4 < 8 by omega)
    have h2 := turn_turn (w := w - 2) (h := h - 2) (l := stepL t w h l) hi.w1 hi.h1 (show S < 8 by omega) (show 4 < 8 by omega)
    rw [hb] at h1 h2
    have hq := step_m (t := t) (turn_patch (t := S) hp) (by unfold turnW; split <;> omega) (by unfold turnW; split <;> omega) he
    rw [h1.2.2, ih] at hq
    have e1 : turnW w h S - 2 = turnW (w - 2) (h - 2) S := by unfold turnW; split <;> rfl
    have e2 : turnW h w S - 2 = turnW (h - 2) (w - 2) S := by unfold turnW; split <;> rfl
    rw [e1, e2, h2.2.2] at hq
    rw [← hq]
    have e3 : turnW w h (S + 4) = turnW w h S := h1.1.symm
    have e4 : turnW h w (S + 4) = turnW h w S := h1.2.1.symm
    rw [e3, e4]
  have q1 := next 0 (by omega) q0
  have q2 := next 1 (by omega) q1
  have q3 := next 2 (by omega) q2
  have hc : T = 0 ∨ T = 1 ∨ T = 2 ∨ T = 3 ∨ T = 4 ∨ T = 5 ∨ T = 6 ∨ T = 7 := by omega
  rcases hc with rfl | rfl | rfl | rfl | rfl | rfl | rfl | rfl
  · exact q0
  · exact q1
  · exact q2
  · exact q3
  · exact mir 0 (by omega) q0
  · exact mir 1 (by omega) q1
  · exact mir 2 (by omega) q2
  · exact mir 3 (by omega) q3
end Go.Proofs.YtoaooblodgejdaaDoor
