/- eve: what the search keeps in memory; (*search).try. -/
import Derived.Test.YtoaooblodgejdaaDoorEvM
import Derived.Test.YtoaooblodgejdaaDoorEvF
import Derived.Deep.RegionHeld3
namespace Go.Proofs.YtoaooblodgejdaaDoor
open Go.RowKit
set_option linter.unusedVariables false
set_option maxRecDepth 100000

theorem madeV_bit {t : List Int} (ht : IsTab t) (a b c : Nat) : ∀ k j, j < k → ((cb (madeV t a b c k) j : Nat) : Int) = symF t a b c j
  | 0, j, hj => by omega
  | k + 1, j, hj => by
    obtain ⟨s, hs, hs1⟩ := symF_bit2 ht a b c k
    have hlt := madeV_lt ht a b c k
    have e : madeV t a b c (k + 1) = madeV t a b c k + s * 2 ^ k := by
      show _ + (symF t a b c k).toNat * 2 ^ k = _
      rw [hs, Int.toNat_natCast]
    rw [e]
    unfold cb
    rcases Nat.lt_or_ge j k with h1 | h1
    · rw [← madeV_bit ht a b c k j h1]
      unfold cb
      have e2 : s * 2 ^ k = 2 ^ j * (2 * (s * 2 ^ (k - j - 1))) := by
        have e3 : 2 ^ k = 2 ^ j * (2 * 2 ^ (k - j - 1)) := by
          rw [← Nat.mul_assoc, ← Nat.pow_succ, ← Nat.pow_add]; congr 1; omega
        rw [e3, Nat.mul_left_comm, Nat.mul_left_comm s 2]
      rw [e2, Nat.add_mul_div_left _ _ (Nat.two_pow_pos j), Nat.add_mul_mod_self_left]
    · obtain rfl : j = k := by omega
      rw [Nat.add_mul_div_right _ _ (Nat.two_pow_pos j), Nat.div_eq_of_lt hlt, Nat.zero_add, hs]
      omega
theorem made_mk {t cols : List Int} {h col : Nat} (ht : IsTab t) {want : Nat} (hw : cols.getD col 0 = (want : Int)) (hlt : want < 2 ^ h) (a b c : Nat) : decide (((madeV t a b c h : Nat) : Int) = (want : Int)) = mkL t cols h col a b c := by
  rw [Bool.eq_iff_iff, decide_eq_true_iff]
  unfold mkL
  rw [hw, Int.toNat_natCast, looksF_all]
  constructor
  · intro e j hj
    have e2 : madeV t a b c h = want := by omega
    rw [Nat.zero_add, ← madeV_bit ht a b c h j hj, e2]
  · intro hall
    have := madeV_of (t := t) (a := a) (b := b) (c := c) (x := want) h (fun j hj => by have := hall j hj; rwa [Nat.zero_add] at this)
    rw [Nat.mod_eq_of_lt hlt] at this
    omega
theorem colL_want {w h : Nat} {l : List Int} (hp : IsPatch w h l) {x : Nat} (hx : x < w) : ∃ want : Nat, (colL w h l).getD x 0 = (want : Int) ∧ want < 2 ^ h := by
  refine ⟨colV w l x h, ?_, colV_lt hp hx h (Nat.le_refl h)⟩
  exact colL_getD hx
/-- what does not change in the search's block -/
structure SK where
  g : Nat
  ab : Nat
  ao : Nat
  cT : Nat
  aP : Option Addr
  nP : Nat
  cP : Nat
  gc : Nat
  oc : Nat
  cC : Nat
  w : Nat
  h : Nat
  m : Nat
  gd : Nat
  N : Nat
abbrev sObj (k : SK) (tr lf : Nat) (aO : Option Addr) (nO cO : Nat) (aW : Option Addr) (nW cW : Nat) : Obj :=
  .cells #[.slice (some ⟨k.ab, k.ao, none⟩) 512 k.cT, .int .i64 (k.w : Nat), .int .i64 (k.h : Nat), .slice k.aP k.nP k.cP, .slice (some ⟨k.gc, k.oc, none⟩) k.w k.cC, .int .i64 (k.m : Nat), .int .i64 (tr : Nat), .int .i64 (lf : Nat), .slice (some ⟨k.gd, 0, none⟩) k.N k.N, .slice aO nO cO, .slice aW nW cW] 100
structure SM (k : SK) (S : SS) (wv : World) (aO : Option Addr) (cO : Nat) (aW : Option Addr) (cW : Nat) : Prop where
  box : wv.heap[k.g]? = some (sObj k S.tries S.left aO S.order.length cO aW S.way.length cW)
  dead : wv.ownsRow (k.g + 1) 4 1 (.slice (some ⟨k.gd, 0, none⟩) k.N k.N) k.N (bools k.N (ahB k.m S.order))
  ord : wv.ownsRow (k.g + 1) 90 3 (.slice aO S.order.length cO) S.order.length (entsC S.order)
  way : OwI wv (k.g + 1) aW S.way.length cW S.way
theorem s_cells {k : SK} {tr lf nO cO nW cW : Nat} {aO aW : Option Addr} {w : World} (h : w.heap[k.g]? = some (sObj k tr lf aO nO cO aW nW cW)) :
    (w.cell? ⟨k.g, 0, none⟩ = some (.slice (some ⟨k.ab, k.ao, none⟩) 512 k.cT) ∧ w.cell? ⟨k.g, 1, none⟩ = some (.int .i64 (k.w : Nat)) ∧ w.cell? ⟨k.g, 2, none⟩ = some (.int .i64 (k.h : Nat)) ∧ w.cell? ⟨k.g, 4, none⟩ = some (.slice (some ⟨k.gc, k.oc, none⟩) k.w k.cC) ∧ w.cell? ⟨k.g, 5, none⟩ = some (.int .i64 (k.m : Nat)) ∧ w.cell? ⟨k.g, 6, none⟩ = some (.int .i64 (tr : Nat)) ∧ w.cell? ⟨k.g, 7, none⟩ = some (.int .i64 (lf : Nat)) ∧ w.cell? ⟨k.g, 8, none⟩ = some (.slice (some ⟨k.gd, 0, none⟩) k.N k.N) ∧ w.cell? ⟨k.g, 9, none⟩ = some (.slice aO nO cO) ∧ w.cell? ⟨k.g, 10, none⟩ = some (.slice aW nW cW)) ∧
    ∀ j, w.frozen? ⟨k.g, j, none⟩ = false := by
  refine ⟨by simp [World.cell?, h], fun j => ?_⟩
  simp [World.frozen?, h]
/-- rows of two types lie in two blocks -/
theorem ap_ty {w : World} {b1 b2 s1 s2 n1 n2 : Nat} {e1 e2 : TypeId} {v1 v2 : Value} {c1 c2 : List Value} (h1 : w.ownsRow b1 e1 s1 v1 n1 c1) (h2 : w.ownsRow b2 e2 s2 v2 n2 c2) (he : e1 ≠ e2) : Ap v1 v2 := by
  intro g hg hg2
  rcases h1.2 with ⟨rfl, _⟩ | ⟨k1, _, _, rfl, _, q1, _⟩
  · cases hg
  · rcases h2.2 with ⟨rfl, _⟩ | ⟨k2, _, _, rfl, _, q2, _⟩
    · cases hg2
    · simp only [Value.ownBlock, Option.some.injEq] at hg hg2
      subst hg hg2
      rw [q1] at q2
      simp only [Option.some.injEq, Obj.cells.injEq] at q2
      exact he q2.2.1
/-- a row stays where another is written -/
theorem own_grown {w w' : World} {b sz n : Nat} {e : TypeId} {v u : Value} {cs : List Value} (h : w.ownsRow b e sz v n cs) (hg : w.grownBy w' u.ownBlock) (hne : Ap u v) : w'.ownsRow b e sz v n cs := by
  refine ⟨h.1, ?_⟩
  rcases h.2 with hn | ⟨g, cap, cur, rfl, hbg, hb, rest⟩
  · exact .inl hn
  · refine .inr ⟨g, cap, cur, rfl, hbg, ?_, rest⟩
    rw [hg.block g (Array.getElem?_eq_some_iff.1 hb).1 (fun e => hne g e.symm rfl)]
    exact hb
theorem blk_grown {w w' : World} {g : Nat} {o : Obj} {u : Value} (h : w.heap[g]? = some o) (hg : w.grownBy w' u.ownBlock) (hne : u.ownBlock ≠ some g) : w'.heap[g]? = some o := by
  rw [hg.block g (heap_ltT h) (fun e => hne e.symm)]
  exact h
theorem own_neG {w : World} {g sz n : Nat} {e : TypeId} {v : Value} {cs : List Value} (h : w.ownsRow (g + 1) e sz v n cs) : v.ownBlock ≠ some g := fun e2 => by have := (h.lt g e2).1; omega
theorem Ap.of_ne {w : World} {g sz n : Nat} {e : TypeId} {v : Value} {cs : List Value} (h : w.ownsRow (g + 1) e sz v n cs) : v.ownBlock ≠ some g := own_neG h
theorem SM.below {k : SK} {S : SS} {wv wv' : World} {aO aW : Option Addr} {cO cW : Nat} (h : SM k S wv aO cO aW cW) (hb : Below wv.heap.size wv wv') : SM k S wv' aO cO aW cW :=
  ⟨(hb.block _ (heap_ltT h.box)).trans h.box, owns_up h.dead hb, owns_up h.ord hb, h.way.up hb⟩
/-- results of the type api.Found stay as they are -/
def KeepF (w w' : World) : Prop := ∀ (j : Nat) (cs : Array Value), w.heap[j]? = some (.cells cs 28) → w'.heap[j]? = some (.cells cs 28)
theorem KeepF.trans {a b c : World} (h : KeepF a b) (h2 : KeepF b c) : KeepF a c := fun j cs e => h2 j cs (h j cs e)
theorem keepF_below {a b : World} (h : Below a.heap.size a b) : KeepF a b := fun j cs e => (h.block j (heap_ltT e)).trans e
theorem keepF_set {w : World} {g j : Nat} {u : Value} {cs : Array Value} {ty : TypeId} {fr : Nat × Nat} (h : w.heap[g]? = some (.cells cs ty fr)) (hne : ty ≠ 28) : KeepF w (w.setCell ⟨g, j, none⟩ u) := fun j2 cs2 e => by
  rw [Below.heap_setCell _ _ _ _ (by
    intro e2
    have e3 : j2 = g := e2
    subst e3
    rw [h] at e
    simp only [Option.some.injEq, Obj.cells.injEq] at e
    exact hne e.2.1)]
  exact e
theorem keepF_grown {w w' : World} {b sz n : Nat} {e : TypeId} {v : Value} {cs : List Value} (h : w.ownsRow b e sz v n cs) (hne : e ≠ 28) (hg : w.grownBy w' v.ownBlock) : KeepF w w' := fun j cs2 e2 => by
  rw [hg.block j (heap_ltT e2) (fun e3 => by
    rcases h.2 with ⟨rfl, _⟩ | ⟨k1, _, _, rfl, _, q1, _⟩
    · cases e3
    · simp only [Value.ownBlock, Option.some.injEq] at e3
      subst e3
      rw [q1] at e2
      simp only [Option.some.injEq, Obj.cells.injEq] at e2
      exact hne e2.2.1)]
  exact e2
/-- a try is written down -/
theorem sObj_set {k : SK} {tr lf nO cO nW cW : Nat} {aO aW : Option Addr} {w : World} (h : w.heap[k.g]? = some (sObj k tr lf aO nO cO aW nW cW)) :
    (∀ u : Nat, (w.setCell ⟨k.g, 7, none⟩ (.int .i64 (u : Nat))).heap[k.g]? = some (sObj k tr u aO nO cO aW nW cW)) ∧ (∀ u : Nat, (w.setCell ⟨k.g, 6, none⟩ (.int .i64 (u : Nat))).heap[k.g]? = some (sObj k u lf aO nO cO aW nW cW)) ∧
    (∀ a2 n2 c2, (w.setCell ⟨k.g, 9, none⟩ (.slice a2 n2 c2)).heap[k.g]? = some (sObj k tr lf a2 n2 c2 aW nW cW)) ∧ (∀ a2 n2 c2, (w.setCell ⟨k.g, 10, none⟩ (.slice a2 n2 c2)).heap[k.g]? = some (sObj k tr lf aO nO cO a2 n2 c2)) ∧ (∀ n2 : Nat, True) := by
  refine ⟨fun u => ?_, fun u => ?_, fun a2 n2 c2 => ?_, fun a2 n2 c2 => ?_, fun _ => trivial⟩ <;> simp [World.setCell, Array.getElem?_modify, h]
theorem SM.trySet {k : SK} {S : SS} {wv : World} {aO aW : Option Addr} {cO cW : Nat} (h : SM k S wv aO cO aW cW) (u v : Nat) :
    SM k { S with left := u, tries := v } ((wv.setCell ⟨k.g, 7, none⟩ (.int .i64 (u : Nat))).setCell ⟨k.g, 6, none⟩ (.int .i64 (v : Nat))) aO cO aW cW := by
  refine ⟨(sObj_set ((sObj_set h.box).1 u)).2.1 v, ?_, ?_, ?_⟩
  · exact own_set_other (own_set_other h.dead (own_neG h.dead) _) (own_neG h.dead) _
  · exact own_set_other (own_set_other h.ord (own_neG h.ord) _) (own_neG h.ord) _
  · exact ⟨own_set_other (own_set_other h.way.own (own_neG h.way.own) _) (own_neG h.way.own) _⟩
/-- the search's surroundings: table, columns, the listed errors, as they lay ahead of its block -/
structure ST (k : SK) (t l : List Int) (R : Nat → Addr) (w0 : World) : Prop where
  sz : w0.heap.size = k.g
  sent : Sent w0 R
  tab : RK .i64 w0 (some ⟨k.ab, k.ao, none⟩) 512 t
  col : RK .i64 w0 (some ⟨k.gc, k.oc, none⟩) k.w (colL k.w k.h l)
  ist : IsTab t
  isp : IsPatch k.w k.h l
  w8 : k.w ≤ 8
  h4 : k.h ≤ 4
  me : k.m = 4 * 2 ^ k.h
  ne : k.N = k.w * k.m * k.m
abbrev nbV (R : Nat → Addr) : Value := .iface 190 (.pointer (some (R 4)))
theorem ST.up {k : SK} {t l : List Int} {R : Nat → Addr} {w0 wv : World} (h : ST k t l R w0) (hb : Below k.g w0 wv) : Sent wv R ∧ RK .i64 wv (some ⟨k.ab, k.ao, none⟩) 512 t ∧ RK .i64 wv (some ⟨k.gc, k.oc, none⟩) k.w (colL k.w k.h l) := by
  have hb2 : Below w0.heap.size w0 wv := by rw [h.sz]; exact hb
  exact ⟨h.sent.up hb2, h.tab.up hb2, h.col.up hb2⟩
set_option maxHeartbeats 8000000 in
theorem evtry_no (k : SK) (t l : List Int) (R : Nat → Addr) (w0 : World) (S : SS) (wv : World) (aO aW : Option Addr) (cO cW : Nat) (hst : ST k t l R w0) (hm : SM k S wv aO cO aW cW) (hb : Below k.g w0 wv) (hl : S.left = 0) (col a b c : Int) :
    Calls Tryd.prog 112 #[.pointer (some ⟨k.g, 0, none⟩), .int .i64 col, .int .i64 a, .int .i64 b, .int .i64 c] wv fun e w' => e = .returned (.tuple #[.bool false, nbV R]) ∧ Below wv.heap.size wv w' := by
  obtain ⟨⟨c0, c1, c2, c4, c5, c6, c7, c8, c9, c10⟩, hf⟩ := s_cells hm.box
  rw [hl] at c7
  have hgl := (hst.up hb).1.glob 4 (by omega)
  have hgl2 : wv.cell? ⟨0, 0, none⟩ = some (nbV R) := hgl
  go_enter Tryd.func112, Tryd.ntmps112
  go_wp2_with fail
  go_quiet (fail)
  go_wp2
  go_ret2
  exact ⟨rfl, bdrewN (bnil wv) _⟩
set_option maxHeartbeats 8000000 in
theorem evtry_ok (k : SK) (t l : List Int) (R : Nat → Addr) (w0 : World) (S : SS) (wv : World) (aO aW : Option Addr) (cO cW : Nat) (hst : ST k t l R w0) (hm : SM k S wv aO cO aW cW) (hb : Below k.g w0 wv) (hl : S.left ≠ 0) (hL : S.tries + S.left ≤ 1099511627776) (col a b c : Nat) (hc : col < k.w) (ha : a < k.m) (hbb : b < k.m) (hcc : c < k.m) :
    Calls Tryd.prog 112 #[.pointer (some ⟨k.g, 0, none⟩), .int .i64 (col : Nat), .int .i64 (a : Nat), .int .i64 (b : Nat), .int .i64 (c : Nat)] wv fun e w' => e = .returned (.tuple #[.bool (mkL t (colL k.w k.h l) k.h col a b c), .nilIface]) ∧ SM k { S with left := S.left - 1, tries := S.tries + 1 } w' aO cO aW cW ∧ Below k.g w0 w' ∧ KeepF wv w' := by
  have hm64 := (m_le hst.h4).1
  rw [← hst.me] at hm64
  obtain ⟨want, hwt, hwl⟩ := colL_want hst.isp hc
  have hmk := made_mk (t := t) hst.ist hwt hwl a b c
  rw [← hmk]
  obtain ⟨⟨c0, c1, c2, c4, c5, c6, c7, c8, c9, c10⟩, hf⟩ := s_cells hm.box
  have hsm := hm.trySet (S.left - 1) (S.tries + 1)
  obtain ⟨w1, hw1⟩ : ∃ w1, wv.setCell ⟨k.g, 7, none⟩ (.int .i64 ((S.left - 1 : Nat) : Int)) = w1 := ⟨_, rfl⟩
  rw [hw1] at hsm
  obtain ⟨w2, hw2⟩ : ∃ w2, w1.setCell ⟨k.g, 6, none⟩ (.int .i64 ((S.tries + 1 : Nat) : Int)) = w2 := ⟨_, rfl⟩
  rw [hw2] at hsm
  have hb2 : Below k.g w0 w2 := by
    rw [← hw2, ← hw1]
    exact (hb.setCell (p := ⟨k.g, 7, none⟩) (Nat.le_refl _) _).setCell (p := ⟨k.g, 6, none⟩) (Nat.le_refl _) _
  have HKF : Hid (KeepF wv w2) := by
    show KeepF _ _
    rw [← hw2, ← hw1]
    exact (keepF_set hm.box (by decide)).trans (keepF_set ((sObj_set hm.box).1 _) (by decide))
  have HSM := Lib.hid hsm
  have HB2 := Lib.hid hb2
  have hI1 : (S.left : Int) - 1 = ((S.left - 1 : Nat) : Int) := by omega
  have hI1w : IntKind.i64.wrap ((S.left - 1 : Nat) : Int) = ((S.left - 1 : Nat) : Int) := IntWalk.i64_in _ (by omega)
  have hI2 : (S.tries : Int) + 1 = ((S.tries + 1 : Nat) : Int) := by omega
  have hI2w : IntKind.i64.wrap ((S.tries + 1 : Nat) : Int) = ((S.tries + 1 : Nat) : Int) := IntWalk.i64_in _ (by omega)
  have hl0 : ((S.left : Int) == 0) = false := by rw [beq_eq_false_iff_ne]; omega
  have hl1 : ¬ (S.left : Int) = 0 := by omega
  have d6 : w1.cell? ⟨k.g, 6, none⟩ = some (.int .i64 (S.tries : Nat)) := by
    rw [← hw1]
    exact (s_cells ((sObj_set hm.box).1 (S.left - 1))).1.2.2.2.2.2.1
  have hf1 : w1.frozen? ⟨k.g, 6, none⟩ = false := by
    rw [← hw1]
    exact (s_cells ((sObj_set hm.box).1 (S.left - 1))).2 6
  have hf7 := hf 7
  obtain ⟨⟨e0, e1, e2, e4, e5, e6, e7, e8, e9, e10⟩, _⟩ := s_cells hsm.box
  obtain ⟨_, _, hgq, _, hcc2⟩ := (hst.up hb2).2.2.addr (by omega)
  cases hgq
  have hcw := hcc2 col hc
  rw [hwt] at hcw
  have hMD := fun q => evmade_any k.ab k.ao k.cT t k.h a b c (w2.drewN q) ((hst.up (below_drewN hb2 q)).2.1) hst.ist hst.h4 (by omega) (by omega) (by omega)
  have HMD := Lib.hid hMD
  have HW := Lib.hid (And.intro hw1 hw2)
  have q0 : (0 : Int) ≤ (col : Int) := by omega
  have q1 : (col : Int) < (k.w : Int) := by omega
  generalize S.left - 1 = lf at *
  generalize S.tries + 1 = tr at *
  clear hf hmk hcc2 hwt hMD hsm hb2 e6 e7 e9 e10 e8 c8 c9 c10
  go_enter Tryd.func112, Tryd.ntmps112
  go_wp2_with fail
  go_quiet ((go_at_call 62; exact Calls.quiet_of (HMD.out _)))
  go_wp2
  go_ret2
  exact ⟨rfl, HSM.out.below (bdrewN (bnil _) _), below_drewN HB2.out _, HKF.out.trans (keepF_below (bdrewN (bnil _) _))⟩
end Go.Proofs.YtoaooblodgejdaaDoor
