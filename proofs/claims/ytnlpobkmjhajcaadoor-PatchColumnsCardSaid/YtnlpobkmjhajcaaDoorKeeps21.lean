/- edenlaw21.PatchKeeps returns true. -/
import Derived.Test.YtnlpobkmjhajcaaDoorPatI
import Derived.Test.YtnlpobkmjhajcaaDoorPatJ
import Derived.Test.YtnlpobkmjhajcaaDoorPatL
import Derived.Test.YtnlpobkmjhajcaaDoorPatO
import Derived.Test.YtnlpobkmjhajcaaDoorTrkP
import Derived.Test.YtnlpobkmjhajcaaDoorApart
namespace Go.Proofs.YtnlpobkmjhajcaaDoor
open Go.RowKit
set_option linter.unusedVariables false
set_option maxRecDepth 100000

theorem OwI.form {w : World} {B : Nat} {a : Option Addr} {n c : Nat} {l : List Int} (h : OwI w B a n c l) (hn : 0 < n) : ∃ g, a = some ⟨g, 0, none⟩ ∧ B ≤ g ∧ g < w.heap.size := own_form h.own hn
theorem OwI.lt {w : World} {B g : Nat} {n c : Nat} {l : List Int} (h : OwI w B (some ⟨g, 0, none⟩) n c l) : B ≤ g ∧ g < w.heap.size := h.own.lt g rfl
theorem OwI.len {w : World} {B : Nat} {a : Option Addr} {n c : Nat} {l : List Int} (h : OwI w B a n c l) : n = l.length := h.rk.len
/-- rows of two element types lie in two blocks -/
theorem ap_ty {w : World} {b1 b2 sz1 sz2 n1 n2 : Nat} {e1 e2 : TypeId} {v1 v2 : Value} {c1 c2 : List Value} (h1 : w.ownsRow b1 e1 sz1 v1 n1 c1) (h2 : w.ownsRow b2 e2 sz2 v2 n2 c2) (hne : e1 ≠ e2) : ∀ g, v1.ownBlock = some g → v2.ownBlock ≠ some g := by
  intro g hg1 hg2
  rcases h1.2 with ⟨rfl, _⟩ | ⟨g1, _, _, rfl, _, k1, _⟩
  · cases hg1
  rcases h2.2 with ⟨rfl, _⟩ | ⟨g2, _, _, rfl, _, k2, _⟩
  · cases hg2
  cases hg1; cases hg2
  rw [k1] at k2
  cases k2
  exact hne rfl
theorem ap_ne {g1 g2 n1 c1 n2 c2 : Nat} (h : g1 ≠ g2) : Ap (ApI.IV (some ⟨g1, 0, none⟩, n1, c1)) (ApI.IV (some ⟨g2, 0, none⟩, n2, c2)) := by
  intro g h1 h2
  cases h1; cases h2
  exact h rfl
theorem ap_neq {w : World} {b1 b2 sz1 sz2 n1 n2 : Nat} {v1 v2 : Value} {c1 c2 : List Value} (h1 : w.ownsRow b1 22 sz1 v1 n1 c1) (h2 : w.ownsRow b2 3 sz2 v2 n2 c2) : v2.ownBlock = none ∨ v2.ownBlock ≠ v1.ownBlock := by
  cases e : v2.ownBlock with
  | none => exact .inl rfl
  | some g => exact .inr fun e2 => ap_ty h2 h1 (by decide) g e e2.symm
/-- the rows stand in a row of the call's own -/
theorem apart_row (gl base B m c : Nat) (its : List ApI.It) (W : World) (hr : W.ownsRow B 22 1 (.slice (some ⟨gl, 0, none⟩) m c) m (its.map ApI.IV)) (hbase : base ≤ W.heap.size)
    (hpair : its.Pairwise fun x y => Ap (ApI.IV x) (ApI.IV y)) (hown : ∀ x ∈ its, ∃ xs, W.ownsRow base 3 1 (ApI.IV x) x.2.1 xs) (hsmall : ∀ x ∈ its, x.2.1 * 8 ≤ 140737488350000) (hlen : its.length ≤ 1000000) :
    Calls Tryd.prog 17 #[.slice (some ⟨gl, 0, none⟩) m c] W fun e w' => e = .returned (.bool true) ∧ Below base W w' := by
  have hm : m = its.length := by simpa using hr.1.symm
  have hap : ∀ p q (hp : p < its.length) (hq : q < its.length), p < q → Ap (ApI.IV its[p]) (ApI.IV its[q]) := fun p q hp hq h => List.pairwise_iff_getElem.1 hpair p q hp hq h
  have S : ApI.St gl its := by
    refine ⟨fun p q hp hq hne => ?_, fun q hq e => ?_, fun q hq => hsmall _ (List.getElem_mem hq), hlen⟩
    · rcases Nat.lt_or_ge p q with h | h
      · exact hap p q hp hq h
      · exact (hap q p hq hp (by omega)).symm
    · obtain ⟨xs, h⟩ := hown _ (List.getElem_mem hq)
      exact ap_ty h hr (by decide) gl e rfl
  refine (ApI.apart_any gl base its W S (hr.lt gl rfl).2 hbase (fun q hq => ?_) (fun q hq => hown _ (List.getElem_mem hq)) m c hm).mono fun e2 w' h => ⟨h.1, h.2.1⟩
  rw [hr.cellAt q (by omega)]
  simp [hq]
theorem cut_all {w h : Nat} {l : List Int} (hp : IsPatch w h l) : cutL w l 0 0 w h = l := by
  unfold cutL
  simp only [Nat.zero_add]
  exact made_atL hp.w1 hp.len
theorem turn_0 {w h : Nat} {l : List Int} (hp : IsPatch w h l) : turnL w h l 0 = l := made_atL (w := w) (h := h) hp.w1 hp.len
theorem turn_okZ (w h : Nat) (t : Int) (K : Nat) (a : Option Addr) (n c : Nat) (l : List Int) (W : World) (R : Nat → Addr) (hK : w * h = K) (hS : Sent W R) (hR : RK .i64 W a n l) (hm : n ≤ maxLen) (hp : IsPatch w h l) (ht : t % 8 = ((0 : Nat) : Int)) :
    Calls Tryd.prog 11 #[patV w h a n c, .int .i64 t] W fun e w' => ∃ g c', e = .returned (.tuple #[patV w h (some ⟨g, 0, none⟩) K c', .nilIface]) ∧ OwI w' W.heap.size (some ⟨g, 0, none⟩) K c' l ∧ Below W.heap.size W w' := by
  have h := turn_okP w h t a n c l W R hS hR hm hp.i64 hp 0 ht
  rw [turn_0 hp] at h
  subst hK
  exact h
theorem cut_okZ (w h K : Nat) (a : Option Addr) (n c : Nat) (l : List Int) (W : World) (R : Nat → Addr) (hK : w * h = K) (hS : Sent W R) (hR : RK .i64 W a n l) (hm : n ≤ maxLen) (hp : IsPatch w h l) :
    Calls Tryd.prog 13 #[patV w h a n c, .int .i64 0, .int .i64 0, .int .i64 w, .int .i64 h] W fun e w' => ∃ g c', e = .returned (.tuple #[patV w h (some ⟨g, 0, none⟩) K c', .nilIface]) ∧ OwI w' W.heap.size (some ⟨g, 0, none⟩) K c' l ∧ Below W.heap.size W w' := by
  have h := cut_okP w h 0 0 w h a n c l W R hS hR hm hp.i64 hp hp.w1 hp.h1 (by omega) (by omega)
  rw [cut_all hp] at h
  subst hK
  exact h
theorem columns_okZ (w h : Nat) (a : Option Addr) (n c : Nat) (l : List Int) (W : World) (R : Nat → Addr) (hS : Sent W R) (hR : RK .i64 W a n l) (hm : n ≤ maxLen) (hp : IsPatch w h l) (h16 : h ≤ 16) :
    Calls Tryd.prog 15 #[patV w h a n c] W fun e w' => ∃ g c', e = .returned (.tuple #[.slice (some ⟨g, 0, none⟩) w c', .nilIface]) ∧ OwI w' W.heap.size (some ⟨g, 0, none⟩) w c' (colL w h l) ∧ Below W.heap.size W w' := by
  have hd : colD (w : Int) (h : Int) l = none := by unfold colD; rw [patchErr_of hp]; exact if_neg (by omega)
  have ho : colO (w : Int) (h : Int) l = colL w h l := by unfold colO; rw [hd]; rfl
  refine (columns_any w h a n c l W R hS hR hm hp.i64).mono ?_
  rw [hd, ho]
  rintro e w' ⟨a1, n1, c1, ev, rfl, h1, h2, hb⟩
  obtain rfl : n1 = w := by rw [h1.len, colL_len]
  obtain ⟨g, rfl, _, _⟩ := h1.form hp.w1
  obtain rfl : ev = .nilIface := h2
  exact ⟨g, c1, rfl, h1, hb⟩
theorem columns_erZ (w h : Nat) (a : Option Addr) (n c : Nat) (l : List Int) (W : World) (R : Nat → Addr) (hS : Sent W R) (hR : RK .i64 W a n l) (hm : n ≤ maxLen) (hp : IsPatch w h l) (h16 : 16 < h) :
    Calls Tryd.prog 15 #[patV w h a n c] W fun e w' => ∃ a1 n1 c1 t p, e = .returned (.tuple #[.slice a1 n1 c1, .iface t p]) ∧ Below W.heap.size W w' := by
  have hd : colD (w : Int) (h : Int) l = some ([(opPatch, 2)], 4) := by unfold colD; rw [patchErr_of hp]; exact if_pos (by omega)
  have ho : colO (w : Int) (h : Int) l = [] := by unfold colO; rw [hd]; rfl
  refine (columns_any w h a n c l W R hS hR hm hp.i64).mono ?_
  rw [hd, ho]
  rintro e w' ⟨a1, n1, c1, ev, rfl, h1, h2, hb⟩
  obtain ⟨t, p, rfl⟩ := Chain.iface h2
  exact ⟨a1, n1, c1, t, _, rfl, hb⟩
theorem join_okZ (h m K : Nat) (a : Option Addr) (n c : Nat) (cs l : List Int) (W : World) (R : Nat → Addr) (hS : Sent W R) (hR : RK .i64 W a n cs) (hm : n ≤ maxLen) (hj : JoinOk h cs) (hK : n * h = K) (hl : joinL h cs = l) :
    Calls Tryd.prog 16 #[.int .i64 h, .slice a n c] W fun e w' => ∃ g c', e = .returned (.tuple #[patV n h (some ⟨g, 0, none⟩) K c', .nilIface]) ∧ OwI w' W.heap.size (some ⟨g, 0, none⟩) K c' l ∧ Below W.heap.size W w' := by
  have hd := joinD_of hj
  have hn := hR.len
  have ho : joinO h cs = ((n : Int), (h : Int), l) := by unfold joinO; rw [if_pos hd, ← hn, ← hl]; rfl
  refine (join_any h a n c cs W R hS hR hm).mono ?_
  rw [hd, ho]
  rintro e w' ⟨a1, n1, c1, ev, rfl, h1, h2, hb⟩
  have hp := join_patch hj
  obtain rfl : n1 = K := by rw [h1.len, ← hl, hp.len, ← hK, ← hn]
  obtain ⟨g, rfl, _, _⟩ := h1.form (by rw [← hK, hn]; exact Nat.mul_pos hj.n1 hj.h1)
  obtain rfl : ev = .nilIface := h2
  exact ⟨g, c1, rfl, h1, hb⟩

set_option maxHeartbeats 16000000 in
theorem patch_keeps (w h : Int) (a : Option Addr) (n c : Nat) (l : List Int) (W : World) (R : Nat → Addr) (hS : Sent W R) (m : Int) (hm : W.cell? ⟨13, 0, none⟩ = some (.int .i64 m)) (hR : SlI W a n c l) (hx : I64 l) :
    Calls Tryd.prog 5 #[patV w h a n c] W (TrueBelow W) := by
  have hnm := hR.nm
  have h8 := hR.n8
  have T0 := Tk.nil W
  have T1 := T0.add (fun wv => Below W.heap.size W wv) (bnil W)
  clear T0
  have T2 := T1.add (fun wv => Sent wv R) (hS)
  clear T1
  have T3 := T2.add (fun wv => wv.cell? ⟨13, 0, none⟩ = some (.int .i64 m)) (hm)
  clear T2
  have T4 := T3.add (fun wv => RK .i64 wv a n l) (hR.rk)
  clear T3
  have HI6 := Lib.hid hx
  clear hS hR hm hx
  obtain ⟨Wb, hWb⟩ : ∃ Wb, W.alloc (.cells #[.int .i64 w, .int .i64 h, .slice a n c] 24) = Wb := ⟨_, rfl⟩
  have hbWb : Below W.heap.size W Wb := by rw [← hWb]; exact balloc (bnil W) _
  have T5 := T4.up hbWb
  clear T4
  have T6 := T5.add (fun wv => wv.cell? ⟨W.heap.size, 0, none⟩ = some (.int .i64 w) ∧ wv.cell? ⟨W.heap.size, 1, none⟩ = some (.int .i64 h) ∧ wv.cell? ⟨W.heap.size, 2, none⟩ = some (.slice a n c)) (by rw [← hWb]; exact ⟨cnw (by simp) rfl, cnw (by simp) rfl, cnw (by simp) rfl⟩)
  clear T5
  have HWb := Lib.hid hWb
  clear hWb hbWb
  go_enter Tryd.func5, Tryd.ntmps5
  go_wp2_with fail
  rw [HWb.out]
  refine (awake21 Wb R T6.out.1.1.1.2 m T6.out.1.1.2).mono ?_; rintro e w1 ⟨rfl, hbw1⟩
  have T7 := T6.up hbw1
  clear T6
  have v_p0 : w1.cell? ⟨W.heap.size, 0, none⟩ = some (.int .i64 w) := T7.out.2.1
  have v_p1 : w1.cell? ⟨W.heap.size, 1, none⟩ = some (.int .i64 h) := T7.out.2.2.1
  have v_p2 : w1.cell? ⟨W.heap.size, 2, none⟩ = some (.slice a n c) := T7.out.2.2.2
  go_wp2_with fail
  refine (lent21_any w h a n c l w1 T7.out.1.2 h8).mono ?_; rintro e w2 ⟨gm, rfl, hlm, hbw2⟩
  clear v_p0 v_p1 v_p2
  have T8 := T7.up hbw2
  clear T7
  have T9 := T8.add (fun wv => LentM wv gm n l) (hlm)
  clear T8
  have T10 := T9.add (fun wv => RK .i64 wv (some ⟨gm, 0, none⟩) n l) ((hlm.sl h8).rk)
  clear T9
  clear hlm
  obtain ⟨wm, hwm⟩ : ∃ wm, w2.alloc (.cells #[.int .i64 w, .int .i64 h, .slice (some ⟨gm, 0, none⟩) n (n + 2)] 24) = wm := ⟨_, rfl⟩
  have hbwm : Below w2.heap.size w2 wm := by rw [← hwm]; exact balloc (bnil w2) _
  have T11 := T10.up hbwm
  clear T10
  have T12 := T11.add (fun wv => wv.cell? ⟨w2.heap.size, 0, none⟩ = some (.int .i64 w) ∧ wv.cell? ⟨w2.heap.size, 1, none⟩ = some (.int .i64 h) ∧ wv.cell? ⟨w2.heap.size, 2, none⟩ = some (.slice (some ⟨gm, 0, none⟩) n (n + 2))) (by rw [← hwm]; exact ⟨cnw (by simp) rfl, cnw (by simp) rfl, cnw (by simp) rfl⟩)
  clear T11
  have Hwm := Lib.hid hwm
  clear hwm hbwm
  cases he : patchErr w h l with
  | some y0 =>
    have HE := Lib.hid he
    have hd0 : cutD w h l 0 0 w h ≠ none := by unfold cutD; rw [he]; exact nofun
    have HD0 := Lib.hid hd0
    clear he hd0
    have v_m0 : (w2.alloc (.cells #[.int .i64 w, .int .i64 h, .slice (some ⟨gm, 0, none⟩) n (n + 2)] 24)).cell? ⟨w2.heap.size, 0, none⟩ = some (.int .i64 w) := by rw [Hwm.out]; exact T12.out.2.1
    have v_m1 : (w2.alloc (.cells #[.int .i64 w, .int .i64 h, .slice (some ⟨gm, 0, none⟩) n (n + 2)] 24)).cell? ⟨w2.heap.size, 1, none⟩ = some (.int .i64 h) := by rw [Hwm.out]; exact T12.out.2.2.1
    have v_m2 : (w2.alloc (.cells #[.int .i64 w, .int .i64 h, .slice (some ⟨gm, 0, none⟩) n (n + 2)] 24)).cell? ⟨w2.heap.size, 2, none⟩ = some (.slice (some ⟨gm, 0, none⟩) n (n + 2)) := by rw [Hwm.out]; exact T12.out.2.2.2
    go_wp2_with fail
    rw [Hwm.out]
    refine (turn_errP w h 0 (some ⟨gm, 0, none⟩) n (n + 2) l wm R T12.out.1.1.1.1.1.1.2 T12.out.1.2 hnm HI6.out y0 HE.out).mono ?_; rintro e w3 ⟨g3, rfl, he3, hbw3⟩
    clear v_m0 v_m1 v_m2
    have T13 := T12.up hbw3
    clear T12
    obtain ⟨w4, hw4⟩ : ∃ w4, w3.alloc (.cells #[.int .i64 0, .int .i64 0, .slice none 0 0] 24) = w4 := ⟨_, rfl⟩
    have hbw4 : Below w3.heap.size w3 w4 := by rw [← hw4]; exact balloc (bnil w3) _
    have T14 := T13.up hbw4
    clear T13
    have Hw4 := Lib.hid hw4
    clear hw4 hbw4
    have v_m0 : (w3.alloc (.cells #[.int .i64 0, .int .i64 0, .slice none 0 0] 24)).cell? ⟨w2.heap.size, 0, none⟩ = some (.int .i64 w) := by rw [Hw4.out]; exact T14.out.2.1
    have v_m1 : (w3.alloc (.cells #[.int .i64 0, .int .i64 0, .slice none 0 0] 24)).cell? ⟨w2.heap.size, 1, none⟩ = some (.int .i64 h) := by rw [Hw4.out]; exact T14.out.2.2.1
    have v_m2 : (w3.alloc (.cells #[.int .i64 0, .int .i64 0, .slice none 0 0] 24)).cell? ⟨w2.heap.size, 2, none⟩ = some (.slice (some ⟨gm, 0, none⟩) n (n + 2)) := by rw [Hw4.out]; exact T14.out.2.2.2
    go_wp2_with fail
    rw [Hw4.out]
    refine (turn_errP w h 8 (some ⟨gm, 0, none⟩) n (n + 2) l w4 R T14.out.1.1.1.1.1.1.2 T14.out.1.2 hnm HI6.out y0 HE.out).mono ?_; rintro e w5 ⟨g5, rfl, he5, hbw5⟩
    clear v_m0 v_m1 v_m2
    have T15 := T14.up hbw5
    clear T14
    obtain ⟨w6, hw6⟩ : ∃ w6, w5.alloc (.cells #[.int .i64 0, .int .i64 0, .slice none 0 0] 24) = w6 := ⟨_, rfl⟩
    have hbw6 : Below w5.heap.size w5 w6 := by rw [← hw6]; exact balloc (bnil w5) _
    have T16 := T15.up hbw6
    clear T15
    have Hw6 := Lib.hid hw6
    clear hw6 hbw6
    have v_m0 : (w5.alloc (.cells #[.int .i64 0, .int .i64 0, .slice none 0 0] 24)).cell? ⟨w2.heap.size, 0, none⟩ = some (.int .i64 w) := by rw [Hw6.out]; exact T16.out.2.1
    have v_m1 : (w5.alloc (.cells #[.int .i64 0, .int .i64 0, .slice none 0 0] 24)).cell? ⟨w2.heap.size, 1, none⟩ = some (.int .i64 h) := by rw [Hw6.out]; exact T16.out.2.2.1
    have v_m2 : (w5.alloc (.cells #[.int .i64 0, .int .i64 0, .slice none 0 0] 24)).cell? ⟨w2.heap.size, 2, none⟩ = some (.slice (some ⟨gm, 0, none⟩) n (n + 2)) := by rw [Hw6.out]; exact T16.out.2.2.2
    go_wp2_with fail
    rw [Hw6.out]
    refine (cut_errP w h 0 0 w h (some ⟨gm, 0, none⟩) n (n + 2) l w6 R T16.out.1.1.1.1.1.1.2 T16.out.1.2 hnm HI6.out HD0.out).mono ?_; rintro e w7 ⟨g7, rfl, he7, hbw7⟩
    clear v_m0 v_m1 v_m2
    have T17 := T16.up hbw7
    clear T16
    obtain ⟨w8, hw8⟩ : ∃ w8, w7.alloc (.cells #[.int .i64 0, .int .i64 0, .slice none 0 0] 24) = w8 := ⟨_, rfl⟩
    have hbw8 : Below w7.heap.size w7 w8 := by rw [← hw8]; exact balloc (bnil w7) _
    have T18 := T17.up hbw8
    clear T17
    have Hw8 := Lib.hid hw8
    clear hw8 hbw8
    go_wp2
    go_ret
    rw [Hw8.out]
    exact ⟨rfl, T18.out.1.1.1.1.1.1.1.2⟩
  | none =>
    obtain ⟨w, h, rfl, rfl, hp⟩ := patchErr_none he
    have HPP := Lib.hid hp
    obtain ⟨K, hK⟩ : ∃ K, w * h = K := ⟨_, rfl⟩
    have hK1 : 1 ≤ K := by rw [← hK]; exact Nat.mul_pos hp.w1 hp.h1
    have hK4 : K ≤ 4096 := by rw [← hK]; exact Nat.mul_le_mul hp.w2 hp.h2
    have hw1 := hp.w1
    have hw2 := hp.w2
    have hnK : n = K := by rw [(T12.out.1.2).len, hp.len, hK]
    have HNK := Lib.hid hnK
    have HK := Lib.hid hK
    clear hp he hK hnK
    have T13 := T12.add (fun wv => Below wm.heap.size wm wv) (bnil wm)
    clear T12
    have TM := T13
    have hWm : W.heap.size ≤ wm.heap.size := (T13.out.1.1.1.1.1.1.1.1.2).size
    have v_m0 : (w2.alloc (.cells #[.int .i64 w, .int .i64 h, .slice (some ⟨gm, 0, none⟩) n (n + 2)] 24)).cell? ⟨w2.heap.size, 0, none⟩ = some (.int .i64 w) := by rw [Hwm.out]; exact T13.out.1.2.1
    have v_m1 : (w2.alloc (.cells #[.int .i64 w, .int .i64 h, .slice (some ⟨gm, 0, none⟩) n (n + 2)] 24)).cell? ⟨w2.heap.size, 1, none⟩ = some (.int .i64 h) := by rw [Hwm.out]; exact T13.out.1.2.2.1
    have v_m2 : (w2.alloc (.cells #[.int .i64 w, .int .i64 h, .slice (some ⟨gm, 0, none⟩) n (n + 2)] 24)).cell? ⟨w2.heap.size, 2, none⟩ = some (.slice (some ⟨gm, 0, none⟩) n (n + 2)) := by rw [Hwm.out]; exact T13.out.1.2.2.2
    go_wp2_with fail
    rw [Hwm.out]
    refine (turn_okZ w h 0 K (some ⟨gm, 0, none⟩) n (n + 2) l wm R HK.out T13.out.1.1.1.1.1.1.1.2 T13.out.1.1.2 hnm HPP.out (by decide)).mono ?_; rintro e w3 ⟨ga, ca, rfl, ho, hbw3⟩
    clear v_m0 v_m1 v_m2
    have T14 := T13.up hbw3
    clear T13
    obtain ⟨loga, higa⟩ := ho.lt
    skip
    have T15 := T14.add (fun wv => OwI wv wm.heap.size (some ⟨ga, 0, none⟩) K ca l) (ho.base (Nat.le_refl _))
    clear T14
    clear ho
    obtain ⟨w4, hw4⟩ : ∃ w4, w3.alloc (.cells #[.int .i64 w, .int .i64 h, .slice (some ⟨ga, 0, none⟩) K ca] 24) = w4 := ⟨_, rfl⟩
    have hbw4 : Below w3.heap.size w3 w4 := by rw [← hw4]; exact balloc (bnil w3) _
    have T16 := T15.up hbw4
    clear T15
    have T17 := T16.add (fun wv => wv.cell? ⟨w3.heap.size, 0, none⟩ = some (.int .i64 w) ∧ wv.cell? ⟨w3.heap.size, 1, none⟩ = some (.int .i64 h) ∧ wv.cell? ⟨w3.heap.size, 2, none⟩ = some (.slice (some ⟨ga, 0, none⟩) K ca)) (by rw [← hw4]; exact ⟨cnw (by simp) rfl, cnw (by simp) rfl, cnw (by simp) rfl⟩)
    clear T16
    have Hw4 := Lib.hid hw4
    clear hw4 hbw4
    have szgb : wm.heap.size ≤ w4.heap.size := (T17.out.1.1.2).size
    have sga : ga < w4.heap.size := (T17.out.1.2).lt.2
    have v_m0 : (w3.alloc (.cells #[.int .i64 w, .int .i64 h, .slice (some ⟨ga, 0, none⟩) K ca] 24)).cell? ⟨w2.heap.size, 0, none⟩ = some (.int .i64 w) := by rw [Hw4.out]; exact T17.out.1.1.1.2.1
    have v_m1 : (w3.alloc (.cells #[.int .i64 w, .int .i64 h, .slice (some ⟨ga, 0, none⟩) K ca] 24)).cell? ⟨w2.heap.size, 1, none⟩ = some (.int .i64 h) := by rw [Hw4.out]; exact T17.out.1.1.1.2.2.1
    have v_m2 : (w3.alloc (.cells #[.int .i64 w, .int .i64 h, .slice (some ⟨ga, 0, none⟩) K ca] 24)).cell? ⟨w2.heap.size, 2, none⟩ = some (.slice (some ⟨gm, 0, none⟩) n (n + 2)) := by rw [Hw4.out]; exact T17.out.1.1.1.2.2.2
    go_wp2_with fail
    rw [Hw4.out]
    refine (turn_okZ w h 8 K (some ⟨gm, 0, none⟩) n (n + 2) l w4 R HK.out T17.out.1.1.1.1.1.1.1.1.1.2 T17.out.1.1.1.1.2 hnm HPP.out (by decide)).mono ?_; rintro e w5 ⟨gb, cb, rfl, ho, hbw5⟩
    clear v_m0 v_m1 v_m2
    have T18 := T17.up hbw5
    clear T17
    obtain ⟨logb, higb⟩ := ho.lt
    skip
    have T19 := T18.add (fun wv => OwI wv wm.heap.size (some ⟨gb, 0, none⟩) K cb l) (ho.base szgb)
    clear T18
    clear ho
    obtain ⟨w6, hw6⟩ : ∃ w6, w5.alloc (.cells #[.int .i64 w, .int .i64 h, .slice (some ⟨gb, 0, none⟩) K cb] 24) = w6 := ⟨_, rfl⟩
    have hbw6 : Below w5.heap.size w5 w6 := by rw [← hw6]; exact balloc (bnil w5) _
    have T20 := T19.up hbw6
    clear T19
    have T21 := T20.add (fun wv => wv.cell? ⟨w5.heap.size, 0, none⟩ = some (.int .i64 w) ∧ wv.cell? ⟨w5.heap.size, 1, none⟩ = some (.int .i64 h) ∧ wv.cell? ⟨w5.heap.size, 2, none⟩ = some (.slice (some ⟨gb, 0, none⟩) K cb)) (by rw [← hw6]; exact ⟨cnw (by simp) rfl, cnw (by simp) rfl, cnw (by simp) rfl⟩)
    clear T20
    have Hw6 := Lib.hid hw6
    clear hw6 hbw6
    have szgc : wm.heap.size ≤ w6.heap.size := (T21.out.1.1.1.1.2).size
    have sgb : gb < w6.heap.size := (T21.out.1.2).lt.2
    have v_m0 : (w5.alloc (.cells #[.int .i64 w, .int .i64 h, .slice (some ⟨gb, 0, none⟩) K cb] 24)).cell? ⟨w2.heap.size, 0, none⟩ = some (.int .i64 w) := by rw [Hw6.out]; exact T21.out.1.1.1.1.1.2.1
    have v_m1 : (w5.alloc (.cells #[.int .i64 w, .int .i64 h, .slice (some ⟨gb, 0, none⟩) K cb] 24)).cell? ⟨w2.heap.size, 1, none⟩ = some (.int .i64 h) := by rw [Hw6.out]; exact T21.out.1.1.1.1.1.2.2.1
    have v_m2 : (w5.alloc (.cells #[.int .i64 w, .int .i64 h, .slice (some ⟨gb, 0, none⟩) K cb] 24)).cell? ⟨w2.heap.size, 2, none⟩ = some (.slice (some ⟨gm, 0, none⟩) n (n + 2)) := by rw [Hw6.out]; exact T21.out.1.1.1.1.1.2.2.2
    go_wp2_with fail
    rw [Hw6.out]
    refine (cut_okZ w h K (some ⟨gm, 0, none⟩) n (n + 2) l w6 R HK.out T21.out.1.1.1.1.1.1.1.1.1.1.1.2 T21.out.1.1.1.1.1.1.2 hnm HPP.out).mono ?_; rintro e w7 ⟨gc, cc, rfl, ho, hbw7⟩
    clear v_m0 v_m1 v_m2
    have T22 := T21.up hbw7
    clear T21
    obtain ⟨logc, higc⟩ := ho.lt
    skip
    have T23 := T22.add (fun wv => OwI wv wm.heap.size (some ⟨gc, 0, none⟩) K cc l) (ho.base szgc)
    clear T22
    clear ho
    obtain ⟨w8, hw8⟩ : ∃ w8, w7.alloc (.cells #[.int .i64 w, .int .i64 h, .slice (some ⟨gc, 0, none⟩) K cc] 24) = w8 := ⟨_, rfl⟩
    have hbw8 : Below w7.heap.size w7 w8 := by rw [← hw8]; exact balloc (bnil w7) _
    have T24 := T23.up hbw8
    clear T23
    have T25 := T24.add (fun wv => wv.cell? ⟨w7.heap.size, 0, none⟩ = some (.int .i64 w) ∧ wv.cell? ⟨w7.heap.size, 1, none⟩ = some (.int .i64 h) ∧ wv.cell? ⟨w7.heap.size, 2, none⟩ = some (.slice (some ⟨gc, 0, none⟩) K cc)) (by rw [← hw8]; exact ⟨cnw (by simp) rfl, cnw (by simp) rfl, cnw (by simp) rfl⟩)
    clear T24
    have Hw8 := Lib.hid hw8
    clear hw8 hbw8
    have sgc : gc < w8.heap.size := (T25.out.1.2).lt.2
    have v_m0 : (w7.alloc (.cells #[.int .i64 w, .int .i64 h, .slice (some ⟨gc, 0, none⟩) K cc] 24)).cell? ⟨w2.heap.size, 0, none⟩ = some (.int .i64 w) := by rw [Hw8.out]; exact T25.out.1.1.1.1.1.1.1.2.1
    have v_m1 : (w7.alloc (.cells #[.int .i64 w, .int .i64 h, .slice (some ⟨gc, 0, none⟩) K cc] 24)).cell? ⟨w2.heap.size, 1, none⟩ = some (.int .i64 h) := by rw [Hw8.out]; exact T25.out.1.1.1.1.1.1.1.2.2.1
    have v_m2 : (w7.alloc (.cells #[.int .i64 w, .int .i64 h, .slice (some ⟨gc, 0, none⟩) K cc] 24)).cell? ⟨w2.heap.size, 2, none⟩ = some (.slice (some ⟨gm, 0, none⟩) n (n + 2)) := by rw [Hw8.out]; exact T25.out.1.1.1.1.1.1.1.2.2.2
    have v_a2 : (w7.alloc (.cells #[.int .i64 w, .int .i64 h, .slice (some ⟨gc, 0, none⟩) K cc] 24)).cell? ⟨w3.heap.size, 2, none⟩ = some (.slice (some ⟨ga, 0, none⟩) K ca) := by rw [Hw8.out]; exact T25.out.1.1.1.1.2.2.2
    have v_b2 : (w7.alloc (.cells #[.int .i64 w, .int .i64 h, .slice (some ⟨gc, 0, none⟩) K cc] 24)).cell? ⟨w5.heap.size, 2, none⟩ = some (.slice (some ⟨gb, 0, none⟩) K cb) := by rw [Hw8.out]; exact T25.out.1.1.2.2.2
    have v_c2 : (w7.alloc (.cells #[.int .i64 w, .int .i64 h, .slice (some ⟨gc, 0, none⟩) K cc] 24)).cell? ⟨w7.heap.size, 2, none⟩ = some (.slice (some ⟨gc, 0, none⟩) K cc) := by rw [Hw8.out]; exact T25.out.2.2.2
    have HLW : Hid ((w7.alloc (.cells #[.int .i64 w, .int .i64 h, .slice (some ⟨gc, 0, none⟩) K cc] 24)).alloc (.cells #[.slice (some ⟨ga, 0, none⟩) K ca, .slice (some ⟨gb, 0, none⟩) K cb, .slice (some ⟨gc, 0, none⟩) K cc] 22) = w8.alloc (.cells #[.slice (some ⟨ga, 0, none⟩) K ca, .slice (some ⟨gb, 0, none⟩) K cb, .slice (some ⟨gc, 0, none⟩) K cc] 22)) := by show _ = _; rw [Hw8.out]
    obtain ⟨w9, hw9⟩ : ∃ w9, w8.alloc (.cells #[.slice (some ⟨ga, 0, none⟩) K ca, .slice (some ⟨gb, 0, none⟩) K cb, .slice (some ⟨gc, 0, none⟩) K cc] 22) = w9 := ⟨_, rfl⟩
    have hb9 : Below w8.heap.size w8 w9 := by rw [← hw9]; exact balloc (bnil w8) _
    have hM8 : wm.heap.size ≤ w8.heap.size := (T25.out.1.1.1.1.1.1.2).size
    have hg8 : w7.heap.size + 1 = w8.heap.size := by rw [← Hw8.out]; simp
    have hol : w9.ownsRow w8.heap.size 22 1 (.slice (some ⟨w7.heap.size + 1, 0, none⟩) 3 3) 3 ([((some ⟨ga, 0, none⟩, K, ca) : ApI.It), (some ⟨gb, 0, none⟩, K, cb), (some ⟨gc, 0, none⟩, K, cc)].map ApI.IV) := by rw [← hw9]; exact own_lit hg8 (Nat.le_refl _) (by unfold maxLen; omega) rfl
    have T26 := T25.up hb9
    clear T25
    have T27 := T26.add (fun wv => wv.ownsRow w8.heap.size 22 1 (.slice (some ⟨w7.heap.size + 1, 0, none⟩) 3 3) 3 ([((some ⟨ga, 0, none⟩, K, ca) : ApI.It), (some ⟨gb, 0, none⟩, K, cb), (some ⟨gc, 0, none⟩, K, cc)].map ApI.IV)) (hol)
    clear T26
    have HW9 := Lib.hid hw9
    clear hol hb9 hw9 hg8
    have u_m0 : ((w7.alloc (.cells #[.int .i64 w, .int .i64 h, .slice (some ⟨gc, 0, none⟩) K cc] 24)).alloc (.cells #[.slice (some ⟨ga, 0, none⟩) K ca, .slice (some ⟨gb, 0, none⟩) K cb, .slice (some ⟨gc, 0, none⟩) K cc] 22)).cell? ⟨w2.heap.size, 0, none⟩ = some (.int .i64 w) := by rw [HLW.out, HW9.out]; exact T27.out.1.1.1.1.1.1.1.1.2.1
    have u_m1 : ((w7.alloc (.cells #[.int .i64 w, .int .i64 h, .slice (some ⟨gc, 0, none⟩) K cc] 24)).alloc (.cells #[.slice (some ⟨ga, 0, none⟩) K ca, .slice (some ⟨gb, 0, none⟩) K cb, .slice (some ⟨gc, 0, none⟩) K cc] 22)).cell? ⟨w2.heap.size, 1, none⟩ = some (.int .i64 h) := by rw [HLW.out, HW9.out]; exact T27.out.1.1.1.1.1.1.1.1.2.2.1
    have u_m2 : ((w7.alloc (.cells #[.int .i64 w, .int .i64 h, .slice (some ⟨gc, 0, none⟩) K cc] 24)).alloc (.cells #[.slice (some ⟨ga, 0, none⟩) K ca, .slice (some ⟨gb, 0, none⟩) K cb, .slice (some ⟨gc, 0, none⟩) K cc] 22)).cell? ⟨w2.heap.size, 2, none⟩ = some (.slice (some ⟨gm, 0, none⟩) n (n + 2)) := by rw [HLW.out, HW9.out]; exact T27.out.1.1.1.1.1.1.1.1.2.2.2
    by_cases h16 : 16 < h
    · skip
      have hI : ¬ h ≤ 16 := by omega
      skip
      go_wp2_with fail
      rw [HLW.out, HW9.out]
      clear v_m0 v_m1 v_m2 v_a2 v_b2 v_c2 u_m0 u_m1 u_m2
      refine (columns_erZ w h (some ⟨gm, 0, none⟩) n (n + 2) l w9 R T27.out.1.1.1.1.1.1.1.1.1.1.1.1.1.1.2 T27.out.1.1.1.1.1.1.1.1.1.2 hnm HPP.out h16).mono ?_; rintro e w10 ⟨a1, n1, c1, t1, p1, rfl, hbw10⟩
      have T28 := T27.up hbw10
      clear T27
      have v_a0 : w10.cell? ⟨w3.heap.size, 0, none⟩ = some (.int .i64 w) := T28.out.1.1.1.1.1.2.1
      have v_a1 : w10.cell? ⟨w3.heap.size, 1, none⟩ = some (.int .i64 h) := T28.out.1.1.1.1.1.2.2.1
      have v_a2 : w10.cell? ⟨w3.heap.size, 2, none⟩ = some (.slice (some ⟨ga, 0, none⟩) K ca) := T28.out.1.1.1.1.1.2.2.2
      have v_p0 : w10.cell? ⟨W.heap.size, 0, none⟩ = some (.int .i64 w) := T28.out.1.1.1.1.1.1.1.1.1.1.1.2.1
      have v_p1 : w10.cell? ⟨W.heap.size, 1, none⟩ = some (.int .i64 h) := T28.out.1.1.1.1.1.1.1.1.1.1.1.2.2.1
      have v_p2 : w10.cell? ⟨W.heap.size, 2, none⟩ = some (.slice a n c) := T28.out.1.1.1.1.1.1.1.1.1.1.1.2.2.2
      go_wp2_with fail
      refine (patches_eq w h (some ⟨ga, 0, none⟩) a K n ca c l w10 (T28.out.1.1.1.1.1.1.2).rk T28.out.1.1.1.1.1.1.1.1.1.1.1.1.2 (by rw [← (T28.out.1.1.1.1.1.1.2).len]; unfold maxLen; omega)).mono ?_; rintro e x1 ⟨rfl, hbx1⟩
      clear v_a0 v_a1 v_a2 v_p0 v_p1 v_p2
      have T29 := T28.up hbx1
      clear T28
      have v_b0 : x1.cell? ⟨w5.heap.size, 0, none⟩ = some (.int .i64 w) := T29.out.1.1.1.2.1
      have v_b1 : x1.cell? ⟨w5.heap.size, 1, none⟩ = some (.int .i64 h) := T29.out.1.1.1.2.2.1
      have v_b2 : x1.cell? ⟨w5.heap.size, 2, none⟩ = some (.slice (some ⟨gb, 0, none⟩) K cb) := T29.out.1.1.1.2.2.2
      have v_p0 : x1.cell? ⟨W.heap.size, 0, none⟩ = some (.int .i64 w) := T29.out.1.1.1.1.1.1.1.1.1.1.1.2.1
      have v_p1 : x1.cell? ⟨W.heap.size, 1, none⟩ = some (.int .i64 h) := T29.out.1.1.1.1.1.1.1.1.1.1.1.2.2.1
      have v_p2 : x1.cell? ⟨W.heap.size, 2, none⟩ = some (.slice a n c) := T29.out.1.1.1.1.1.1.1.1.1.1.1.2.2.2
      go_wp2_with fail
      refine (patches_eq w h (some ⟨gb, 0, none⟩) a K n cb c l x1 (T29.out.1.1.1.1.2).rk T29.out.1.1.1.1.1.1.1.1.1.1.1.1.2 (by rw [← (T29.out.1.1.1.1.2).len]; unfold maxLen; omega)).mono ?_; rintro e x2 ⟨rfl, hbx2⟩
      clear v_b0 v_b1 v_b2 v_p0 v_p1 v_p2
      have T30 := T29.up hbx2
      clear T29
      have v_c0 : x2.cell? ⟨w7.heap.size, 0, none⟩ = some (.int .i64 w) := T30.out.1.2.1
      have v_c1 : x2.cell? ⟨w7.heap.size, 1, none⟩ = some (.int .i64 h) := T30.out.1.2.2.1
      have v_c2 : x2.cell? ⟨w7.heap.size, 2, none⟩ = some (.slice (some ⟨gc, 0, none⟩) K cc) := T30.out.1.2.2.2
      have v_p0 : x2.cell? ⟨W.heap.size, 0, none⟩ = some (.int .i64 w) := T30.out.1.1.1.1.1.1.1.1.1.1.1.2.1
      have v_p1 : x2.cell? ⟨W.heap.size, 1, none⟩ = some (.int .i64 h) := T30.out.1.1.1.1.1.1.1.1.1.1.1.2.2.1
      have v_p2 : x2.cell? ⟨W.heap.size, 2, none⟩ = some (.slice a n c) := T30.out.1.1.1.1.1.1.1.1.1.1.1.2.2.2
      go_wp2_with fail
      refine (patches_eq w h (some ⟨gc, 0, none⟩) a K n cc c l x2 (T30.out.1.1.2).rk T30.out.1.1.1.1.1.1.1.1.1.1.1.1.2 (by rw [← (T30.out.1.1.2).len]; unfold maxLen; omega)).mono ?_; rintro e x3 ⟨rfl, hbx3⟩
      clear v_c0 v_c1 v_c2 v_p0 v_p1 v_p2
      have T31 := T30.up hbx3
      clear T30
      go_wp2_with fail
      have hpair : List.Pairwise (fun x y => Ap (ApI.IV x) (ApI.IV y)) [((some ⟨ga, 0, none⟩, K, ca) : ApI.It), (some ⟨gb, 0, none⟩, K, cb), (some ⟨gc, 0, none⟩, K, cc)] := by
        simp only [List.pairwise_cons, List.mem_cons, List.not_mem_nil, or_false, forall_eq_or_imp, forall_eq, List.Pairwise.nil, false_imp_iff, implies_true, and_true]
        refine ⟨⟨?_, ?_⟩, ?_⟩ <;> exact ap_ne (by omega)
      have hown : ∀ x ∈ [((some ⟨ga, 0, none⟩, K, ca) : ApI.It), (some ⟨gb, 0, none⟩, K, cb), (some ⟨gc, 0, none⟩, K, cc)], ∃ xs, x3.ownsRow wm.heap.size 3 1 (ApI.IV x) x.2.1 xs := by
        simp only [List.mem_cons, List.not_mem_nil, or_false, forall_eq_or_imp, forall_eq]
        exact ⟨⟨_, (T31.out.1.1.1.1.1.1.2).own⟩, ⟨_, (T31.out.1.1.1.1.2).own⟩, ⟨_, (T31.out.1.1.2).own⟩⟩
      have hsm : ∀ x ∈ [((some ⟨ga, 0, none⟩, K, ca) : ApI.It), (some ⟨gb, 0, none⟩, K, cb), (some ⟨gc, 0, none⟩, K, cc)], x.2.1 * 8 ≤ 140737488350000 := by
        simp only [List.mem_cons, List.not_mem_nil, or_false, forall_eq_or_imp, forall_eq]
        omega
      have HPAIR := Lib.hid hpair
      have HOWN := Lib.hid hown
      have HSM := Lib.hid hsm
      clear hpair hown hsm
      refine (apart_row (w7.heap.size + 1) wm.heap.size _ 3 3 [((some ⟨ga, 0, none⟩, K, ca) : ApI.It), (some ⟨gb, 0, none⟩, K, cb), (some ⟨gc, 0, none⟩, K, cc)] x3 T31.out.2 (T31.out.1.1.1.1.1.1.1.2).size HPAIR.out HOWN.out HSM.out (by simp)).mono ?_; rintro e z1 ⟨rfl, hbz⟩
      have hbz1 : Below wm.heap.size wm z1 := (T31.out.1.1.1.1.1.1.1.2).trans hbz
      clear T31
      have T32 := TM.up hbz1
      clear hbz hbz1
      have v_m0 : z1.cell? ⟨w2.heap.size, 0, none⟩ = some (.int .i64 w) := T32.out.1.2.1
      have v_m1 : z1.cell? ⟨w2.heap.size, 1, none⟩ = some (.int .i64 h) := T32.out.1.2.2.1
      have v_m2 : z1.cell? ⟨w2.heap.size, 2, none⟩ = some (.slice (some ⟨gm, 0, none⟩) n (n + 2)) := T32.out.1.2.2.2
      have v_p0 : z1.cell? ⟨W.heap.size, 0, none⟩ = some (.int .i64 w) := T32.out.1.1.1.1.2.1
      have v_p1 : z1.cell? ⟨W.heap.size, 1, none⟩ = some (.int .i64 h) := T32.out.1.1.1.1.2.2.1
      have v_p2 : z1.cell? ⟨W.heap.size, 2, none⟩ = some (.slice a n c) := T32.out.1.1.1.1.2.2.2
      go_wp2_with fail
      refine (kept21_any w h gm a n c l z1 T32.out.1.1.1.2 T32.out.1.1.1.1.1.2 h8).mono ?_; rintro e z2 ⟨rfl, hbz2⟩
      clear v_m0 v_m1 v_m2 v_p0 v_p1 v_p2
      have T33 := T32.up hbz2
      clear T32
      go_wp2
      go_ret
      exact ⟨rfl, T33.out.1.1.1.1.1.1.1.1.2⟩
    have hI : h ≤ 16 := by omega
    go_wp2_with fail
    rw [HLW.out, HW9.out]
    clear v_m0 v_m1 v_m2 v_a2 v_b2 v_c2 u_m0 u_m1 u_m2
    have sw9 : wm.heap.size ≤ w9.heap.size := (T27.out.1.1.1.1.1.1.1.2).size
    have sc9 : w8.heap.size ≤ w9.heap.size := by rw [← HW9.out]; simp
    refine (columns_okZ w h (some ⟨gm, 0, none⟩) n (n + 2) l w9 R T27.out.1.1.1.1.1.1.1.1.1.1.1.1.1.1.2 T27.out.1.1.1.1.1.1.1.1.1.2 hnm HPP.out hI).mono ?_; rintro e w10 ⟨gd, cd, rfl, ho, hbw10⟩
    have T28 := T27.up hbw10
    clear T27
    have hlo := ho.lt
    obtain ⟨lod, hid⟩ := hlo
    have T29 := T28.add (fun wv => OwI wv wm.heap.size (some ⟨gd, 0, none⟩) w cd (colL w h l)) (ho.base sw9)
    clear T28
    clear ho
    have sw10 : wm.heap.size ≤ w10.heap.size := (T29.out.1.1.1.1.1.1.1.1.2).size
    have v_m0 : w10.cell? ⟨w2.heap.size, 0, none⟩ = some (.int .i64 w) := T29.out.1.1.1.1.1.1.1.1.1.2.1
    have v_m1 : w10.cell? ⟨w2.heap.size, 1, none⟩ = some (.int .i64 h) := T29.out.1.1.1.1.1.1.1.1.1.2.2.1
    have v_m2 : w10.cell? ⟨w2.heap.size, 2, none⟩ = some (.slice (some ⟨gm, 0, none⟩) n (n + 2)) := T29.out.1.1.1.1.1.1.1.1.1.2.2.2
    go_wp2_with fail
    refine (join_okZ h 0 K (some ⟨gd, 0, none⟩) w cd (colL w h l) l w10 R T29.out.1.1.1.1.1.1.1.1.1.1.1.1.1.1.1.2 (T29.out.2).rk (by unfold maxLen; omega) (colL_ok HPP.out hI) HK.out (join_col HPP.out hI)).mono ?_; rintro e w11 ⟨gx, cx, rfl, ho, hbw11⟩
    clear v_m0 v_m1 v_m2
    have T30 := T29.up hbw11
    clear T29
    obtain ⟨lox, hix⟩ := ho.lt
    have T31 := T30.add (fun wv => OwI wv wm.heap.size (some ⟨gx, 0, none⟩) K cx l) (ho.base sw10)
    clear T30
    clear ho
    obtain ⟨w12, hw12⟩ : ∃ w12, w11.alloc (.cells #[.int .i64 w, .int .i64 h, .slice (some ⟨gx, 0, none⟩) K cx] 24) = w12 := ⟨_, rfl⟩
    have hbw12 : Below w11.heap.size w11 w12 := by rw [← hw12]; exact balloc (bnil w11) _
    have T32 := T31.up hbw12
    clear T31
    have T33 := T32.add (fun wv => wv.cell? ⟨w11.heap.size, 0, none⟩ = some (.int .i64 w) ∧ wv.cell? ⟨w11.heap.size, 1, none⟩ = some (.int .i64 h) ∧ wv.cell? ⟨w11.heap.size, 2, none⟩ = some (.slice (some ⟨gx, 0, none⟩) K cx)) (by rw [← hw12]; exact ⟨cnw (by simp) rfl, cnw (by simp) rfl, cnw (by simp) rfl⟩)
    clear T32
    have Hw12 := Lib.hid hw12
    clear hw12 hbw12
    have sgx : gx < w12.heap.size := (T33.out.1.2).lt.2
    have sw12 : wm.heap.size ≤ w12.heap.size := (T33.out.1.1.1.1.1.1.1.1.1.1.2).size
    have v_m0 : (w11.alloc (.cells #[.int .i64 w, .int .i64 h, .slice (some ⟨gx, 0, none⟩) K cx] 24)).cell? ⟨w2.heap.size, 0, none⟩ = some (.int .i64 w) := by rw [Hw12.out]; exact T33.out.1.1.1.1.1.1.1.1.1.1.1.2.1
    have v_m1 : (w11.alloc (.cells #[.int .i64 w, .int .i64 h, .slice (some ⟨gx, 0, none⟩) K cx] 24)).cell? ⟨w2.heap.size, 1, none⟩ = some (.int .i64 h) := by rw [Hw12.out]; exact T33.out.1.1.1.1.1.1.1.1.1.1.1.2.2.1
    have v_m2 : (w11.alloc (.cells #[.int .i64 w, .int .i64 h, .slice (some ⟨gx, 0, none⟩) K cx] 24)).cell? ⟨w2.heap.size, 2, none⟩ = some (.slice (some ⟨gm, 0, none⟩) n (n + 2)) := by rw [Hw12.out]; exact T33.out.1.1.1.1.1.1.1.1.1.1.1.2.2.2
    go_wp2_with fail
    rw [Hw12.out]
    refine (columns_okZ w h (some ⟨gm, 0, none⟩) n (n + 2) l w12 R T33.out.1.1.1.1.1.1.1.1.1.1.1.1.1.1.1.1.1.2 T33.out.1.1.1.1.1.1.1.1.1.1.1.1.2 hnm HPP.out hI).mono ?_; rintro e w13 ⟨gy, cy, rfl, ho, hbw13⟩
    clear v_m0 v_m1 v_m2
    have T34 := T33.up hbw13
    clear T33
    obtain ⟨loy, hiy⟩ := ho.lt
    have T35 := T34.add (fun wv => OwI wv wm.heap.size (some ⟨gy, 0, none⟩) w cy (colL w h l)) (ho.base sw12)
    clear T34
    clear ho
    have v_x2 : w13.cell? ⟨w11.heap.size, 2, none⟩ = some (.slice (some ⟨gx, 0, none⟩) K cx) := T35.out.1.2.2.2
    have HOL := Lib.hid (T35.out.1.1.1.1.2)
    have HS8 : Hid (w8.heap.size ≤ w13.heap.size) := by show _ ≤ _; have := (T35.out.1.1.1.1.2).lt _ rfl; omega
    go_wp2_with (first
      | (at_builtin; refine apl rfl _ _ _ rfl w8.heap.size et_ints _ 3 _ HOL.out rfl 3 _ _ rfl rfl rfl rfl (by unfold maxLen; omega) (by omega) HS8.out ?_; intro a14 c14 w14 h14; have v_a0 := (h14.cell _ (World.block_lt_of_cell? _ _ (T35.out.1.1.1.1.1.1.1.1.1.2.1)) (fun _ => (by decide : 0 < 3))).trans (T35.out.1.1.1.1.1.1.1.1.1.2.1); have v_a1 := (h14.cell _ (World.block_lt_of_cell? _ _ (T35.out.1.1.1.1.1.1.1.1.1.2.2.1)) (fun _ => (by decide : 1 < 3))).trans (T35.out.1.1.1.1.1.1.1.1.1.2.2.1); have v_a2 := (h14.cell _ (World.block_lt_of_cell? _ _ (T35.out.1.1.1.1.1.1.1.1.1.2.2.2)) (fun _ => (by decide : 2 < 3))).trans (T35.out.1.1.1.1.1.1.1.1.1.2.2.2); have v_p0 := (h14.cell _ (World.block_lt_of_cell? _ _ (T35.out.1.1.1.1.1.1.1.1.1.1.1.1.1.1.1.2.1)) (fun _ => (by decide : 0 < 3))).trans (T35.out.1.1.1.1.1.1.1.1.1.1.1.1.1.1.1.2.1); have v_p1 := (h14.cell _ (World.block_lt_of_cell? _ _ (T35.out.1.1.1.1.1.1.1.1.1.1.1.1.1.1.1.2.2.1)) (fun _ => (by decide : 1 < 3))).trans (T35.out.1.1.1.1.1.1.1.1.1.1.1.1.1.1.1.2.2.1); have v_p2 := (h14.cell _ (World.block_lt_of_cell? _ _ (T35.out.1.1.1.1.1.1.1.1.1.1.1.1.1.1.1.2.2.2)) (fun _ => (by decide : 2 < 3))).trans (T35.out.1.1.1.1.1.1.1.1.1.1.1.1.1.1.1.2.2.2)))
    clear v_x2
    have hb14 := h14.below
    have ho14 := h14.own
    obtain ⟨gl, rfl, _, _⟩ := own_form ho14 (by omega)
    have HB14 := Lib.hid hb14
    have sw8 : wm.heap.size ≤ w8.heap.size := by exact hM8
    have hbM : Below wm.heap.size wm w14 := (T35.out.1.1.1.1.1.1.1.1.1.1.1.2).trans (hb14.mono sw8)
    have hbW : Below W.heap.size W w14 := (T35.out.1.1.1.1.1.1.1.1.1.1.1.1.1.1.1.1.1.1.1.2).trans (hb14.mono (by have := hWm; omega))
    have tm := TM.up hbM
    have T36 := Tk.nil w14
    have T37 := T36.add (fun wv => Below W.heap.size W wv) (hbW)
    clear T36
    have T38 := T37.add (fun wv => Below wm.heap.size wm wv) (hbM)
    clear T37
    have T39 := T38.add (fun wv => wv.cell? ⟨W.heap.size, 0, none⟩ = some (.int .i64 w) ∧ wv.cell? ⟨W.heap.size, 1, none⟩ = some (.int .i64 h) ∧ wv.cell? ⟨W.heap.size, 2, none⟩ = some (.slice a n c)) (⟨tm.out.1.1.1.1.2.1, tm.out.1.1.1.1.2.2.1, tm.out.1.1.1.1.2.2.2⟩)
    clear T38
    have T40 := T39.add (fun wv => RK .i64 wv a n l) (tm.out.1.1.1.1.1.2)
    clear T39
    have T41 := T40.add (fun wv => wv.cell? ⟨w3.heap.size, 0, none⟩ = some (.int .i64 w) ∧ wv.cell? ⟨w3.heap.size, 1, none⟩ = some (.int .i64 h) ∧ wv.cell? ⟨w3.heap.size, 2, none⟩ = some (.slice (some ⟨ga, 0, none⟩) K ca)) (⟨(h14.cell _ (World.block_lt_of_cell? _ _ (T35.out.1.1.1.1.1.1.1.1.1.2.1)) (fun _ => (by decide : 0 < 3))).trans (T35.out.1.1.1.1.1.1.1.1.1.2.1), (h14.cell _ (World.block_lt_of_cell? _ _ (T35.out.1.1.1.1.1.1.1.1.1.2.2.1)) (fun _ => (by decide : 1 < 3))).trans (T35.out.1.1.1.1.1.1.1.1.1.2.2.1), (h14.cell _ (World.block_lt_of_cell? _ _ (T35.out.1.1.1.1.1.1.1.1.1.2.2.2)) (fun _ => (by decide : 2 < 3))).trans (T35.out.1.1.1.1.1.1.1.1.1.2.2.2)⟩)
    clear T40
    have T42 := T41.add (fun wv => wv.cell? ⟨w5.heap.size, 0, none⟩ = some (.int .i64 w) ∧ wv.cell? ⟨w5.heap.size, 1, none⟩ = some (.int .i64 h) ∧ wv.cell? ⟨w5.heap.size, 2, none⟩ = some (.slice (some ⟨gb, 0, none⟩) K cb)) (⟨(h14.cell _ (World.block_lt_of_cell? _ _ (T35.out.1.1.1.1.1.1.1.2.1)) (fun _ => (by decide : 0 < 3))).trans (T35.out.1.1.1.1.1.1.1.2.1), (h14.cell _ (World.block_lt_of_cell? _ _ (T35.out.1.1.1.1.1.1.1.2.2.1)) (fun _ => (by decide : 1 < 3))).trans (T35.out.1.1.1.1.1.1.1.2.2.1), (h14.cell _ (World.block_lt_of_cell? _ _ (T35.out.1.1.1.1.1.1.1.2.2.2)) (fun _ => (by decide : 2 < 3))).trans (T35.out.1.1.1.1.1.1.1.2.2.2)⟩)
    clear T41
    have T43 := T42.add (fun wv => wv.cell? ⟨w7.heap.size, 0, none⟩ = some (.int .i64 w) ∧ wv.cell? ⟨w7.heap.size, 1, none⟩ = some (.int .i64 h) ∧ wv.cell? ⟨w7.heap.size, 2, none⟩ = some (.slice (some ⟨gc, 0, none⟩) K cc)) (⟨(h14.cell _ (World.block_lt_of_cell? _ _ (T35.out.1.1.1.1.1.2.1)) (fun _ => (by decide : 0 < 3))).trans (T35.out.1.1.1.1.1.2.1), (h14.cell _ (World.block_lt_of_cell? _ _ (T35.out.1.1.1.1.1.2.2.1)) (fun _ => (by decide : 1 < 3))).trans (T35.out.1.1.1.1.1.2.2.1), (h14.cell _ (World.block_lt_of_cell? _ _ (T35.out.1.1.1.1.1.2.2.2)) (fun _ => (by decide : 2 < 3))).trans (T35.out.1.1.1.1.1.2.2.2)⟩)
    clear T42
    have T44 := T43.add (fun wv => OwI wv wm.heap.size (some ⟨ga, 0, none⟩) K ca l) (⟨h14.keeps (T35.out.1.1.1.1.1.1.1.1.1.1.2).own (ap_neq (T35.out.1.1.1.1.2) (T35.out.1.1.1.1.1.1.1.1.1.1.2).own)⟩)
    clear T43
    have T45 := T44.add (fun wv => OwI wv wm.heap.size (some ⟨gb, 0, none⟩) K cb l) (⟨h14.keeps (T35.out.1.1.1.1.1.1.1.1.2).own (ap_neq (T35.out.1.1.1.1.2) (T35.out.1.1.1.1.1.1.1.1.2).own)⟩)
    clear T44
    have T46 := T45.add (fun wv => OwI wv wm.heap.size (some ⟨gc, 0, none⟩) K cc l) (⟨h14.keeps (T35.out.1.1.1.1.1.1.2).own (ap_neq (T35.out.1.1.1.1.2) (T35.out.1.1.1.1.1.1.2).own)⟩)
    clear T45
    have T47 := T46.add (fun wv => OwI wv wm.heap.size (some ⟨gd, 0, none⟩) w cd (colL w h l)) (⟨h14.keeps (T35.out.1.1.1.2).own (ap_neq (T35.out.1.1.1.1.2) (T35.out.1.1.1.2).own)⟩)
    clear T46
    have T48 := T47.add (fun wv => OwI wv wm.heap.size (some ⟨gx, 0, none⟩) K cx l) (⟨h14.keeps (T35.out.1.1.2).own (ap_neq (T35.out.1.1.1.1.2) (T35.out.1.1.2).own)⟩)
    clear T47
    have T49 := T48.add (fun wv => OwI wv wm.heap.size (some ⟨gy, 0, none⟩) w cy (colL w h l)) (⟨h14.keeps (T35.out.2).own (ap_neq (T35.out.1.1.1.1.2) (T35.out.2).own)⟩)
    clear T48
    have T50 := T49.add (fun wv => wv.ownsRow w8.heap.size 22 1 (.slice (some ⟨gl, 0, none⟩) 6 c14) 6 ([((some ⟨ga, 0, none⟩, K, ca) : ApI.It), (some ⟨gb, 0, none⟩, K, cb), (some ⟨gc, 0, none⟩, K, cc), (some ⟨gd, 0, none⟩, w, cd), (some ⟨gx, 0, none⟩, K, cx), (some ⟨gy, 0, none⟩, w, cy)].map ApI.IV)) (ho14)
    clear T49
    clear tm hbM hbW hb14 ho14 h14 T35
    go_wp2_with fail
    refine (patches_eq w h (some ⟨ga, 0, none⟩) a K n ca c l w14 (T50.out.1.1.1.1.1.1.2).rk T50.out.1.1.1.1.1.1.1.1.1.1.2 (by rw [← (T50.out.1.1.1.1.1.1.2).len]; unfold maxLen; omega)).mono ?_; rintro e x21 ⟨rfl, hbx21⟩
    clear v_a0 v_a1 v_a2 v_p0 v_p1 v_p2
    have T51 := T50.up hbx21
    clear T50
    have v_b0 : x21.cell? ⟨w5.heap.size, 0, none⟩ = some (.int .i64 w) := T51.out.1.1.1.1.1.1.1.1.2.1
    have v_b1 : x21.cell? ⟨w5.heap.size, 1, none⟩ = some (.int .i64 h) := T51.out.1.1.1.1.1.1.1.1.2.2.1
    have v_b2 : x21.cell? ⟨w5.heap.size, 2, none⟩ = some (.slice (some ⟨gb, 0, none⟩) K cb) := T51.out.1.1.1.1.1.1.1.1.2.2.2
    have v_p0 : x21.cell? ⟨W.heap.size, 0, none⟩ = some (.int .i64 w) := T51.out.1.1.1.1.1.1.1.1.1.1.1.2.1
    have v_p1 : x21.cell? ⟨W.heap.size, 1, none⟩ = some (.int .i64 h) := T51.out.1.1.1.1.1.1.1.1.1.1.1.2.2.1
    have v_p2 : x21.cell? ⟨W.heap.size, 2, none⟩ = some (.slice a n c) := T51.out.1.1.1.1.1.1.1.1.1.1.1.2.2.2
    go_wp2_with fail
    refine (patches_eq w h (some ⟨gb, 0, none⟩) a K n cb c l x21 (T51.out.1.1.1.1.1.2).rk T51.out.1.1.1.1.1.1.1.1.1.1.2 (by rw [← (T51.out.1.1.1.1.1.2).len]; unfold maxLen; omega)).mono ?_; rintro e x22 ⟨rfl, hbx22⟩
    clear v_b0 v_b1 v_b2 v_p0 v_p1 v_p2
    have T52 := T51.up hbx22
    clear T51
    have v_c0 : x22.cell? ⟨w7.heap.size, 0, none⟩ = some (.int .i64 w) := T52.out.1.1.1.1.1.1.1.2.1
    have v_c1 : x22.cell? ⟨w7.heap.size, 1, none⟩ = some (.int .i64 h) := T52.out.1.1.1.1.1.1.1.2.2.1
    have v_c2 : x22.cell? ⟨w7.heap.size, 2, none⟩ = some (.slice (some ⟨gc, 0, none⟩) K cc) := T52.out.1.1.1.1.1.1.1.2.2.2
    have v_p0 : x22.cell? ⟨W.heap.size, 0, none⟩ = some (.int .i64 w) := T52.out.1.1.1.1.1.1.1.1.1.1.1.2.1
    have v_p1 : x22.cell? ⟨W.heap.size, 1, none⟩ = some (.int .i64 h) := T52.out.1.1.1.1.1.1.1.1.1.1.1.2.2.1
    have v_p2 : x22.cell? ⟨W.heap.size, 2, none⟩ = some (.slice a n c) := T52.out.1.1.1.1.1.1.1.1.1.1.1.2.2.2
    go_wp2_with fail
    refine (patches_eq w h (some ⟨gc, 0, none⟩) a K n cc c l x22 (T52.out.1.1.1.1.2).rk T52.out.1.1.1.1.1.1.1.1.1.1.2 (by rw [← (T52.out.1.1.1.1.2).len]; unfold maxLen; omega)).mono ?_; rintro e x23 ⟨rfl, hbx23⟩
    clear v_c0 v_c1 v_c2 v_p0 v_p1 v_p2
    have T53 := T52.up hbx23
    clear T52
    go_wp2_with fail
    have hpair : List.Pairwise (fun x y => Ap (ApI.IV x) (ApI.IV y)) [((some ⟨ga, 0, none⟩, K, ca) : ApI.It), (some ⟨gb, 0, none⟩, K, cb), (some ⟨gc, 0, none⟩, K, cc), (some ⟨gd, 0, none⟩, w, cd), (some ⟨gx, 0, none⟩, K, cx), (some ⟨gy, 0, none⟩, w, cy)] := by
      simp only [List.pairwise_cons, List.mem_cons, List.not_mem_nil, or_false, forall_eq_or_imp, forall_eq, List.Pairwise.nil, false_imp_iff, implies_true, and_true]
      refine ⟨⟨?_, ?_, ?_, ?_, ?_⟩, ⟨?_, ?_, ?_, ?_⟩, ⟨?_, ?_, ?_⟩, ⟨?_, ?_⟩, ?_⟩ <;> exact ap_ne (by omega)
    have hown : ∀ x ∈ [((some ⟨ga, 0, none⟩, K, ca) : ApI.It), (some ⟨gb, 0, none⟩, K, cb), (some ⟨gc, 0, none⟩, K, cc), (some ⟨gd, 0, none⟩, w, cd), (some ⟨gx, 0, none⟩, K, cx), (some ⟨gy, 0, none⟩, w, cy)], ∃ xs, x23.ownsRow wm.heap.size 3 1 (ApI.IV x) x.2.1 xs := by
      simp only [List.mem_cons, List.not_mem_nil, or_false, forall_eq_or_imp, forall_eq]
      exact ⟨⟨_, (T53.out.1.1.1.1.1.1.2).own⟩, ⟨_, (T53.out.1.1.1.1.1.2).own⟩, ⟨_, (T53.out.1.1.1.1.2).own⟩, ⟨_, (T53.out.1.1.1.2).own⟩, ⟨_, (T53.out.1.1.2).own⟩, ⟨_, (T53.out.1.2).own⟩⟩
    have hsm : ∀ x ∈ [((some ⟨ga, 0, none⟩, K, ca) : ApI.It), (some ⟨gb, 0, none⟩, K, cb), (some ⟨gc, 0, none⟩, K, cc), (some ⟨gd, 0, none⟩, w, cd), (some ⟨gx, 0, none⟩, K, cx), (some ⟨gy, 0, none⟩, w, cy)], x.2.1 * 8 ≤ 140737488350000 := by
      simp only [List.mem_cons, List.not_mem_nil, or_false, forall_eq_or_imp, forall_eq]
      omega
    have HPAIR := Lib.hid hpair
    have HOWN := Lib.hid hown
    have HSM := Lib.hid hsm
    clear hpair hown hsm
    refine (apart_row gl wm.heap.size _ 6 c14 [((some ⟨ga, 0, none⟩, K, ca) : ApI.It), (some ⟨gb, 0, none⟩, K, cb), (some ⟨gc, 0, none⟩, K, cc), (some ⟨gd, 0, none⟩, w, cd), (some ⟨gx, 0, none⟩, K, cx), (some ⟨gy, 0, none⟩, w, cy)] x23 T53.out.2 (T53.out.1.1.1.1.1.1.1.1.1.1.1.1.2).size HPAIR.out HOWN.out HSM.out (by simp)).mono ?_; rintro e z1 ⟨rfl, hbz⟩
    have hbz1 : Below wm.heap.size wm z1 := (T53.out.1.1.1.1.1.1.1.1.1.1.1.1.2).trans hbz
    clear T53
    have T54 := TM.up hbz1
    clear hbz hbz1
    have v_m0 : z1.cell? ⟨w2.heap.size, 0, none⟩ = some (.int .i64 w) := T54.out.1.2.1
    have v_m1 : z1.cell? ⟨w2.heap.size, 1, none⟩ = some (.int .i64 h) := T54.out.1.2.2.1
    have v_m2 : z1.cell? ⟨w2.heap.size, 2, none⟩ = some (.slice (some ⟨gm, 0, none⟩) n (n + 2)) := T54.out.1.2.2.2
    have v_p0 : z1.cell? ⟨W.heap.size, 0, none⟩ = some (.int .i64 w) := T54.out.1.1.1.1.2.1
    have v_p1 : z1.cell? ⟨W.heap.size, 1, none⟩ = some (.int .i64 h) := T54.out.1.1.1.1.2.2.1
    have v_p2 : z1.cell? ⟨W.heap.size, 2, none⟩ = some (.slice a n c) := T54.out.1.1.1.1.2.2.2
    go_wp2_with fail
    refine (kept21_any w h gm a n c l z1 T54.out.1.1.1.2 T54.out.1.1.1.1.1.2 h8).mono ?_; rintro e z2 ⟨rfl, hbz2⟩
    clear v_m0 v_m1 v_m2 v_p0 v_p1 v_p2
    have T55 := T54.up hbz2
    clear T54
    go_wp2
    go_ret
    exact ⟨rfl, T55.out.1.1.1.1.1.1.1.1.2⟩
end Go.Proofs.YtnlpobkmjhajcaaDoor
