/- The contract of eden/edenraw.Apart: rows of the call's own, no two in one block, are told apart. -/
import Derived.Test.YtjgblanpaanglaaDoorBase
import Derived.WalkKit
import Derived.Laws.OwnMore
import Derived.IntWalk
import Derived.Lib.Hide
namespace Go.Proofs.YtjgblanpaanglaaDoor
open Go.RowKit
set_option linter.unusedVariables false
set_option maxRecDepth 100000
namespace ApI

abbrev It := Option Addr × Nat × Nat
def IV (p : It) : Value := .slice p.1 p.2.1 p.2.2
def m1 (i : Nat) : Value := .int .i64 (-2 * (i : Int) - 1)
def m2 (i : Nat) : Value := .int .i64 (-2 * (i : Int) - 2)

/-- what the call is handed: rows in blocks of their own -/
structure St (gl : Nat) (its : List It) : Prop where
  apart : ∀ p q (hp : p < its.length) (hq : q < its.length), p ≠ q → Ap (IV its[p]) (IV its[q])
  noGl : ∀ q (hq : q < its.length), (IV its[q]).ownBlock ≠ some gl
  small : ∀ q (hq : q < its.length), its[q].2.1 * 8 ≤ 140737488350000
  m : its.length ≤ 1000000

structure Inv1 (gl base : Nat) (its : List It) (i j : Nat) (W w : World) : Prop where
  own : ∀ q (hq : q < its.length), ∃ xs, w.ownsRow base 3 1 (IV its[q]) its[q].2.1 xs ∧ (q < i → xs = List.replicate its[q].2.1 (m1 q)) ∧ (q = i → xs.take j = List.replicate j (m1 q))
  bel : Below base W w
  row : ∀ q (hq : q < its.length), w.cell? ⟨gl, q, none⟩ = some (IV its[q])
  oth : ∀ b, b < W.heap.size → (∀ q (hq : q < its.length), (IV its[q]).ownBlock ≠ some b) → w.heap[b]? = W.heap[b]?

theorem set_take {xs : List Value} {j : Nat} {u : Value} (h : xs.take j = List.replicate j u) (hj : j < xs.length) : (xs.set j u).take (j + 1) = List.replicate (j + 1) u := by
  rw [List.take_succ_eq_append_getElem (by simpa using hj), List.take_set, List.set_eq_of_length_le (by simp; omega), h, List.replicate_succ']
  simp

theorem Inv1.next {gl base i : Nat} {its : List It} {W w : World} (hi : i < its.length) (h : Inv1 gl base its i its[i].2.1 W w) : Inv1 gl base its (i + 1) 0 W w := by
  refine ⟨fun q hq => ?_, h.bel, h.row, h.oth⟩
  obtain ⟨xs, h1, h2, h3⟩ := h.own q hq
  refine ⟨xs, h1, fun hlt => ?_, fun _ => by simp⟩
  by_cases e : q = i
  · subst e
    have hl : xs.length = its[q].2.1 := by simpa using h1.1
    have := h3 rfl
    rwa [List.take_of_length_le (by omega)] at this
  · exact h2 (by omega)

theorem Inv1.store {gl base g i j n c : Nat} {its : List It} {W w : World} (S : St gl its) (hi : i < its.length) (hit : its[i] = (some ⟨g, 0, none⟩, n, c)) (hj : j < n) (hbg : base ≤ g) (h : Inv1 gl base its i j W w) : Inv1 gl base its i (j + 1) W (w.setCell ⟨g, j, none⟩ (m1 i)) := by
  have hg : (IV its[i]).ownBlock = some g := by rw [hit]; rfl
  refine ⟨fun q hq => ?_, h.bel.setCell (p := ⟨g, j, none⟩) hbg _, fun q hq => ?_, fun b hb hno => ?_⟩
  · obtain ⟨xs, h1, h2, h3⟩ := h.own q hq
    by_cases e : q = i
    · subst e
      have hl : xs.length = its[q].2.1 := by simpa using h1.1
      have hn : its[q].2.1 = n := by rw [hit]
      refine ⟨xs.set j (m1 q), ?_, fun a => by omega, fun _ => set_take (h3 rfl) (by omega)⟩
      rw [hit] at h1 ⊢
      exact own_set h1 j _
    · refine ⟨xs, own_set_other h1 (fun e2 => S.apart i q hi hq (fun e3 => e e3.symm) g hg e2) _, h2, fun a => absurd a e⟩
  · have hne : gl ≠ g := fun e => S.noGl i hi (by rw [hg, e])
    rw [World.cell?_of_block (Below.heap_setCell w ⟨g, j, none⟩ (m1 i) gl hne)]
    exact h.row q hq
  · have hne : b ≠ g := fun e => hno i hi (by rw [hg, e])
    rw [Below.heap_setCell w ⟨g, j, none⟩ (m1 i) b hne]
    exact h.oth b hb hno

/-- the second half: each row grown, by marks of its own; v: the row i, grown by j -/
structure Inv2 (gl gg base : Nat) (its gv : List It) (i : Nat) (W w : World) : Prop where
  len : gv.length = its.length
  bel : Below base W w
  row : ∀ q (hq : q < its.length), w.cell? ⟨gl, q, none⟩ = some (IV its[q])
  grow : w.ownsRow base 22 1 (.slice (some ⟨gg, 0, none⟩) its.length its.length) its.length (gv.map IV)
  rd : ∀ q (hq : q < its.length), Rd w its[q].1 its[q].2.1 1 (List.replicate its[q].2.1 (m1 q))
  own : ∀ q (hq : q < its.length), i < q → w.ownsRow base 3 1 (IV its[q]) its[q].2.1 (List.replicate its[q].2.1 (m1 q))
  gown : ∀ q (hq : q < its.length) (hg : q < gv.length), q < i → gv[q].2.1 = its[q].2.1 + 40 ∧ w.ownsRow base 3 1 (IV gv[q]) (its[q].2.1 + 40) (List.replicate its[q].2.1 (m1 q) ++ List.replicate 40 (m2 q))
  lt : ∀ q (hq : q < its.length) b, (IV its[q]).ownBlock = some b → b < w.heap.size
  form : ∀ q (hq : q < its.length) b o, its[q].1 = some ⟨b, o, none⟩ → o = 0
  apI : ∀ p q (hp : p < its.length) (hq : q < gv.length), q < i → p ≠ q → Ap (IV gv[q]) (IV its[p])
  apG : ∀ p q (hp : p < gv.length) (hq : q < gv.length), p < i → q < i → p ≠ q → Ap (IV gv[p]) (IV gv[q])
  noG : ∀ q (hg : q < gv.length), q < i → (IV gv[q]).ownBlock ≠ some gl ∧ (IV gv[q]).ownBlock ≠ some gg
  ggI : ∀ q (hq : q < its.length), (IV its[q]).ownBlock ≠ some gg
  ggl : gl ≠ gg
  ggb : base ≤ gg
  gll : gl < w.heap.size
  ggW : W.heap.size ≤ gg
  oth : ∀ b, b < W.heap.size → (∀ q (hq : q < its.length), (IV its[q]).ownBlock ≠ some b) → w.heap[b]? = W.heap[b]?

structure Vin (gl gg base : Nat) (its gv : List It) (i n j : Nat) (v : Value) (W w : World) : Prop where
  own : w.ownsRow base 3 1 v (n + j) (List.replicate n (m1 i) ++ List.replicate j (m2 i))
  apI : ∀ p (hp : p < its.length), p ≠ i → Ap v (IV its[p])
  apG : ∀ q (hq : q < gv.length), q < i → Ap v (IV gv[q])
  no : v.ownBlock ≠ some gl ∧ v.ownBlock ≠ some gg
  src : (∃ hi : i < its.length, v.ownBlock = (IV its[i]).ownBlock) ∨ ∃ g, v.ownBlock = some g ∧ W.heap.size ≤ g

theorem Vin.start {gl gg base i : Nat} {its gv : List It} {W w : World} (S : St gl its) (hi : i < its.length) (h : Inv2 gl gg base its gv i W w) (ho : w.ownsRow base 3 1 (IV its[i]) its[i].2.1 (List.replicate its[i].2.1 (m1 i))) : Vin gl gg base its gv i its[i].2.1 0 (IV its[i]) W w :=
  ⟨by simpa using ho, fun p hp hne => S.apart i p hi hp (fun e => hne e.symm), fun q hq hlt => (h.apI i q hi hq hlt (by omega)).symm, ⟨S.noGl i hi, h.ggI i hi⟩, .inl ⟨hi, rfl⟩⟩

theorem ap_step {gl gg base i n j : Nat} {its gv : List It} {W w w' : World} {v v' : Value} (hi : i < its.length) (hn : n = its[i].2.1) (h : Inv2 gl gg base its gv i W w) (hv : Vin gl gg base its gv i n j v W w)
    (ha : Appended base 3 1 w w' v v' (n + j) 1 (List.replicate n (m1 i) ++ List.replicate j (m2 i)) [m2 i]) : Inv2 gl gg base its gv i W w' ∧ Vin gl gg base its gv i n (j + 1) v' W w' := by
  have hglen := h.len
  have hgg : gg < w.heap.size := own_lt h.grow gg rfl
  refine ⟨⟨h.len, h.bel.trans ha.below, fun q hq => ?_, ha.keeps h.grow (.inr fun e => hv.no.2 e.symm), fun q hq => ?_, fun q hq hlt => ha.keeps (h.own q hq hlt) (hv.apI q hq (by omega)).ne, fun q hq hg hlt => ?_, fun q hq b hb => Nat.lt_of_lt_of_le (h.lt q hq b hb) ha.grew, h.form, h.apI, h.apG, h.noG, h.ggI, h.ggl, h.ggb, Nat.lt_of_lt_of_le h.gll ha.grew, h.ggW, fun b hb hno => ?_⟩, ⟨?_, fun p hp hne => (hv.apI p hp hne).app ha (h.lt p hp), fun q hq hlt => (hv.apG q hq hlt).app ha (own_lt (h.gown q (by omega) hq hlt).2), ?_, ?_⟩⟩
  · rw [ha.cell ⟨gl, q, none⟩ h.gll (fun e => absurd e hv.no.1)]
    exact h.row q hq
  · refine ha.rd (h.rd q hq) fun b o hab hvb => ?_
    by_cases e : q = i
    · subst e
      have := h.form q hq b o hab
      omega
    · refine absurd ?_ (hv.apI q hq e b hvb)
      unfold IV
      rw [hab]; rfl
  · obtain ⟨h1, h2⟩ := h.gown q hq hg hlt
    exact ⟨h1, ha.keeps h2 (hv.apG q hg hlt).ne⟩
  · have hne : v.ownBlock ≠ some b := by
      rcases hv.src with ⟨_, e⟩ | ⟨g, e, hg⟩
      · rw [e]; exact hno i hi
      · rw [e]; intro e2; cases e2; omega
    rw [ha.row.block b (Nat.lt_of_lt_of_le hb h.bel.size) (fun e => hne e.symm)]
    exact h.oth b hb hno
  · have := ha.own
    rw [List.append_assoc, ← List.replicate_succ'] at this
    exact this
  · rcases ha.at_ with e | ⟨g, e, hge⟩
    · rw [e]; exact hv.no
    · rw [e]
      exact ⟨fun e2 => by have := h.gll; cases e2; omega, fun e2 => by cases e2; omega⟩
  · rcases ha.at_ with e | ⟨g, e, hge⟩
    · rw [e]; exact hv.src
    · exact .inr ⟨g, e, Nat.le_trans h.bel.size hge⟩

theorem gv_get (gv : List It) (i q : Nat) (x : It) (hq : q < (gv.set i x).length) (hi : i < gv.length) : (gv.set i x)[q] = if i = q then x else gv[q]'(by simpa using hq) := by
  rw [List.getElem_set]

theorem put_step {gl gg base i n : Nat} {its gv : List It} {W w : World} {a : Option Addr} {c : Nat} (hi : i < its.length) (hn : n = its[i].2.1) (h : Inv2 gl gg base its gv i W w) (hv : Vin gl gg base its gv i n 40 (.slice a (n + 40) c) W w) :
    Inv2 gl gg base its (gv.set i (a, n + 40, c)) (i + 1) W (w.setCell ⟨gg, i, none⟩ (.slice a (n + 40) c)) := by
  have hglen := h.len
  have hiv : IV (a, n + 40, c) = .slice a (n + 40) c := rfl
  have other : ∀ k, k ≠ gg → (w.setCell ⟨gg, i, none⟩ (.slice a (n + 40) c)).heap[k]? = w.heap[k]? := fun k hk => Below.heap_setCell w ⟨gg, i, none⟩ _ k hk
  refine ⟨by simpa using h.len, h.bel.setCell (p := ⟨gg, i, none⟩) h.ggb _, fun q hq => ?_, ?_, fun q hq => ?_, fun q hq hlt => own_set_other (h.own q hq (by omega)) (h.ggI q hq) _, fun q hq hg hlt => ?_, fun q hq b hb => ?_, h.form, fun p q hp hq hlt hne => ?_, fun p q hp hq hl1 hl2 hne => ?_, fun q hg hlt => ?_, h.ggI, h.ggl, h.ggb, ?_, h.ggW, fun b hb hno => (other b (by have := h.ggW; omega)).trans (h.oth b hb hno)⟩
  · rw [World.cell?_of_block (other gl h.ggl)]
    exact h.row q hq
  · have := own_set h.grow i (.slice a (n + 40) c)
    rw [← hiv, ← List.map_set] at this
    exact this
  · refine ⟨(h.rd q hq).1, ?_⟩
    rcases (h.rd q hq).2 with h0 | ⟨b, o, e, hlt, hc⟩
    · exact .inl h0
    · refine .inr ⟨b, o, e, by simp [World.setCell]; exact hlt, fun j u hu => ?_⟩
      have hbg : b ≠ gg := fun e2 => h.ggI q hq (by unfold IV; rw [e, e2]; rfl)
      rw [World.cell?_of_block (other b hbg)]
      exact hc j u hu
  · rw [gv_get gv i q _ hg (by omega)]
    by_cases e : i = q
    · subst e
      rw [if_pos rfl]
      refine ⟨by rw [hn], ?_⟩
      rw [← hn]
      exact own_set_other hv.own hv.no.2 _
    · rw [if_neg e]
      obtain ⟨h1, h2⟩ := h.gown q hq (by simpa using hg) (by omega)
      exact ⟨h1, own_set_other h2 (h.noG q (by simpa using hg) (by omega)).2 _⟩
  · have := h.lt q hq b hb
    simp [World.setCell]; exact this
  · rw [gv_get gv i q _ hq (by omega)]
    by_cases e : i = q
    · subst e; rw [if_pos rfl]; exact hv.apI p hp hne
    · rw [if_neg e]; exact h.apI p q hp (by simpa using hq) (by omega) hne
  · rw [gv_get gv i q _ hq (by omega), gv_get gv i p _ hp (by omega)]
    by_cases e : i = q
    · subst e
      rw [if_pos rfl, if_neg (fun e2 => hne e2.symm)]
      exact (hv.apG p (by simpa using hp) (by omega)).symm
    · rw [if_neg e]
      by_cases e2 : i = p
      · subst e2; rw [if_pos rfl]; exact hv.apG q (by simpa using hq) (by omega)
      · rw [if_neg e2]; exact h.apG p q (by simpa using hp) (by simpa using hq) (by omega) (by omega) hne
  · rw [gv_get gv i q _ hg (by omega)]
    by_cases e : i = q
    · subst e; rw [if_pos rfl]; exact hv.no
    · rw [if_neg e]; exact h.noG q (by simpa using hg) (by omega)
  · have := h.gll
    simp [World.setCell]; exact this

theorem its_own {gl base : Nat} {its : List It} {W w : World} (h : Inv1 gl base its its.length 0 W w) (q : Nat) (hq : q < its.length) : w.ownsRow base 3 1 (IV its[q]) its[q].2.1 (List.replicate its[q].2.1 (m1 q)) := by
  obtain ⟨xs, h1, h2, _⟩ := h.own q hq
  rw [h2 hq] at h1
  exact h1

/-- the start of the second half: the row of the grown has just been made -/
theorem Inv2.start {gl base : Nat} {its : List It} {W w w2 : World} (S : St gl its) (h : Inv1 gl base its its.length 0 W w) (hgl : gl < w.heap.size) (hbase : base ≤ w.heap.size)
    (hown : w2.ownsRow base 22 1 (.slice (some ⟨w.heap.size, 0, none⟩) its.length its.length) its.length ((List.replicate its.length ((none, 0, 0) : It)).map IV)) (hb : Below w.heap.size w w2) :
    Inv2 gl w.heap.size base its (List.replicate its.length (none, 0, 0)) 0 W w2 := by
  have hlt : ∀ q (hq : q < its.length) b, (IV its[q]).ownBlock = some b → b < w.heap.size := fun q hq b hb => own_lt (its_own h q hq) b hb
  refine ⟨by simp, h.bel.trans (hb.mono hbase), fun q hq => (hb.cell (p := ⟨gl, q, none⟩) hgl).trans (h.row q hq), hown, fun q hq => ?_, fun q hq _ => owns_up (its_own h q hq) hb, fun q _ _ hlt => by omega, fun q hq b hb2 => Nat.lt_of_lt_of_le (hlt q hq b hb2) hb.size, fun q hq b o e => ?_, fun p q _ _ hlt => by omega, fun p q _ _ hlt => by omega, fun q _ hlt => by omega, fun q hq e => by have := hlt q hq _ e; omega, by omega, hbase, Nat.lt_of_lt_of_le hgl hb.size, h.bel.size, fun b hb2 hno => (hb.block b (Nat.lt_of_lt_of_le hb2 h.bel.size)).trans (h.oth b hb2 hno)⟩
  · exact ((owns_rd (a := its[q].1) (c := its[q].2.2) (its_own h q hq)).2).up hb
  · exact (own_off (a := its[q].1) (c := its[q].2.2) (its_own h q hq) e).1

set_option maxHeartbeats 8000000 in
theorem apart_any (gl base : Nat) (its : List It) (W : World) (S : St gl its) (hgl : gl < W.heap.size) (hbase : base ≤ W.heap.size) (hrow : ∀ q (hq : q < its.length), W.cell? ⟨gl, q, none⟩ = some (IV its[q]))
    (hown : ∀ q (hq : q < its.length), ∃ xs, W.ownsRow base 3 1 (IV its[q]) its[q].2.1 xs) (m c : Nat) (hm : m = its.length) :
    Calls Tryd.prog 18 #[.slice (some ⟨gl, 0, none⟩) m c] W fun e w' => e = .returned (.bool true) ∧ Below base W w' ∧ ∀ b, b < W.heap.size → (∀ q (hq : q < its.length), (IV its[q]).ownBlock ≠ some b) → w'.heap[b]? = W.heap[b]? := by
  have hm6 : m ≤ 1000000 := by have := S.m; omega
  have HM := Lib.hid hm; clear hm
  have HSt := Lib.hid S; clear S
  have h0 : Inv1 gl base its 0 0 W W := ⟨fun q hq => by obtain ⟨xs, h⟩ := hown q hq; exact ⟨xs, h, fun a => by omega, fun _ => by simp⟩, Below.refl _ _, hrow, fun _ _ _ => rfl⟩
  have H0 := Lib.hid h0; clear h0 hown hrow
  go_enter Tryd.func18, Tryd.ntmps18
  go_wp2_with fail
  go_loopw [3] (fun ix wr => ∃ i : Nat, i ≤ m ∧ ix = .int .i64 i ∧ Inv1 gl base its i 0 W wr) (fun ix _ => m - (intOf ix).toNat)
  case atStart => exact ⟨0, by omega, rfl, H0.out⟩
  case round =>
    obtain ⟨i, hi, rfl, hinv⟩ := hrel
    by_cases hlt : i < m
    · have hil : i < its.length := by have := HM.out; omega
      obtain ⟨a, n, cc, hit⟩ : ∃ a n cc, its[i] = (a, n, cc) := ⟨_, _, _, rfl⟩
      have hn8 : n * 8 ≤ 140737488350000 := by have := HSt.out.small i hil; rw [hit] at this; exact this
      have HIT := Lib.hid hit; clear hit
      have HIL := Lib.hid hil
      have HI := Lib.hid hinv; clear hinv
      have i0 : (0 : Int) ≤ (i : Int) := by omega
      have i1 : (i : Int) < (m : Int) := by omega
      generalize wr = wo at *
      go_wp2_with fail
      go_loopw [4] (fun jx wr => ∃ j : Nat, j ≤ n ∧ jx = .int .i64 j ∧ Inv1 gl base its i j W wr) (fun jx _ => n - (intOf jx).toNat)
      case atStart => exact ⟨0, by omega, rfl, HI.out⟩
      case round =>
        obtain ⟨j, hj, rfl, hinv⟩ := hrel
        have r0 : wr.cell? ⟨gl, i, none⟩ = some (.slice a n cc) := by
          have := hinv.row i HIL.out
          rw [HIT.out] at this
          exact this
        by_cases hjn : j < n
        · obtain ⟨xs, ho, _, _⟩ := hinv.own i HIL.out
          rw [HIT.out] at ho
          obtain ⟨g, ha, hg1, hg2⟩ := own_form (a := a) (c := cc) (n := n) ho (by omega)
          subst ha
          have hxl : xs.length = n := by simpa using ho.1
          have c0 : wr.cell? ⟨g, j, none⟩ = some (xs[j]'(by omega)) := by
            have := World.ownsRow.cellAt (g := g) (cap := cc) (n := n) ho j (by omega)
            rw [this]
            exact List.getElem?_eq_getElem _
          have f0 := World.ownsRow.frozenAt (g := g) (cap := cc) (n := n) ho j
          have HN := Lib.hid (hinv.store HSt.out HIL.out HIT.out hjn hg1)
          simp only [m1] at HN
          clear hinv ho
          generalize xs[j] = u at *
          have j0 : (0 : Int) ≤ (j : Int) := by omega
          have j1 : (j : Int) < (n : Int) := by omega
          go_wp2
          go_roundw
          case rel => exact ⟨j + 1, by omega, by go_num, HN.out⟩
          case measure => simp [intOf]; omega
        · obtain rfl : j = n := by omega
          have HN : Hid (Inv1 gl base its (i + 1) 0 W wr) := by
            refine Inv1.next HIL.out ?_
            rw [HIT.out]; exact hinv
          clear hinv
          go_wp2
          go_roundw
          case rel => exact ⟨i + 1, by omega, by go_num, HN.out⟩
          case measure => simp [intOf]; omega
    · obtain rfl : i = m := by omega
      have hinv2 : Inv1 gl base its its.length 0 W wr := by rw [← HM.out]; exact hinv
      have hglw : gl < wr.heap.size := Nat.lt_of_lt_of_le hgl hinv.bel.size
      have hbw : base ≤ wr.heap.size := Nat.le_trans hbase hinv.bel.size
      have HI := Lib.hid hinv2
      clear hinv hinv2
      generalize wr = wo at *
      go_wp2_with (first
        | (at_make; refine mk_full rfl _ _ _ rfl base et_ints .i64 .i64 _ _ i rfl rfl rfl rfl (by omega) (by unfold maxLen; omega) hbw ?_; intro w1 hown1 hb1 hsz1))
      have hst : Inv2 gl wo.heap.size base its (List.replicate its.length (none, 0, 0)) 0 W w1 := by
        refine Inv2.start HSt.out HI.out hglw hbw ?_ hb1
        rw [show (Value.slice none 0 0).cells = #[.slice none 0 0] from by rfl, toList_madeCells_one] at hown1
        rw [HM.out, Nat.mul_one] at hown1
        rw [List.map_replicate]
        exact hown1
      have HST := Lib.hid hst; clear hst hown1
      have hmI : ∀ {w : World} {i : Nat} {gv : List It}, Inv2 gl wo.heap.size base its gv i W w → ∀ hil : i < its.length, w.ownsRow base 3 1 (IV its[i]) its[i].2.1 (List.replicate its[i].2.1 (m1 i)) → True := fun _ _ _ => trivial
      clear hmI
      obtain ⟨gg, hgg⟩ : ∃ gg, wo.heap.size = gg := ⟨_, rfl⟩
      rw [hgg] at HST
      rw [hgg]
      have OW : Hid (∀ q (hq : q < its.length), w1.ownsRow base 3 1 (IV its[q]) its[q].2.1 (List.replicate its[q].2.1 (m1 q))) := fun q hq => owns_up (its_own HI.out q hq) hb1
      clear hb1 hsz1 hgg HI
      go_loopw [6] (fun ix wr => ∃ (k : Nat) (gv : List It), k ≤ i ∧ ix = .int .i64 k ∧ Inv2 gl gg base its gv k W wr ∧ (∀ hk : k < its.length, wr.ownsRow base 3 1 (IV its[k]) its[k].2.1 (List.replicate its[k].2.1 (m1 k)))) (fun ix _ => i - (intOf ix).toNat)
      case atStart => exact ⟨0, _, by omega, rfl, HST.out, fun hk => OW.out 0 hk⟩
      case round =>
        clear HST OW
        obtain ⟨k, gv, hk, rfl, hinv, hok⟩ := hrel
        by_cases hlt : k < i
        · have hil : k < its.length := by have := HM.out; omega
          obtain ⟨a, n, cc, hit⟩ : ∃ a n cc, its[k] = (a, n, cc) := ⟨_, _, _, rfl⟩
          have hn8 : n * 8 ≤ 140737488350000 := by have := HSt.out.small k hil; rw [hit] at this; exact this
          have hvin := Vin.start HSt.out hil hinv (hok hil)
          have hnn : n = its[k].2.1 := by rw [hit]
          have hv0 : IV its[k] = .slice a n cc := by rw [hit]; rfl
          rw [hv0, ← hnn] at hvin
          have r0 : wr.cell? ⟨gl, k, none⟩ = some (.slice a n cc) := by
            have := hinv.row k hil
            rw [hv0] at this
            exact this
          have HNN := Lib.hid hnn
          have HIL := Lib.hid hil
          have HI := Lib.hid hinv
          have HV := Lib.hid hvin
          clear hinv hok hit hnn hv0 hvin
          have i0 : (0 : Int) ≤ (k : Int) := by omega
          have i1 : (k : Int) < (i : Int) := by omega
          generalize wr = wo2 at *
          go_wp2_with fail
          go_loopw [7, 8] (fun v jx wr => ∃ (j : Nat) (a : Option Addr) (cc : Nat), j ≤ 40 ∧ jx = .int .i64 j ∧ v = .slice a (n + j) cc ∧ Inv2 gl gg base its gv k W wr ∧ Vin gl gg base its gv k n j (.slice a (n + j) cc) W wr) (fun _ jx _ => 40 - (intOf jx).toNat)
          case atStart => exact ⟨0, a, cc, by omega, rfl, rfl, HI.out, HV.out⟩
          case round =>
            clear HI HV r0
            obtain ⟨j, a, cc, hj, rfl, rfl, hinv, hv⟩ := hrel
            by_cases hj40 : j < 40
            · have hz := hinv.bel.size
              have hzb : base ≤ wr.heap.size := Nat.le_trans hbase hz
              have HI := Lib.hid hinv
              have HV := Lib.hid hv
              clear hinv hv
              go_wp2_with (first
                | (at_builtin; refine apl rfl _ _ _ rfl base et_int _ _ _ HV.out.own rfl 1 _ _ rfl rfl rfl rfl (by unfold maxLen; omega) (by omega) hzb ?_; intro a5 c5 w5 h5; have HS5 := Lib.hid (ap_step HIL.out HNN.out HI.out HV.out h5); clear h5))
              go_roundw
              case rel => exact ⟨j + 1, a5, c5, by omega, by go_num, rfl, HS5.out.1, HS5.out.2⟩
              case measure => simp [intOf]; omega
            · obtain rfl : j = 40 := by omega
              have hgl2 := hinv.len
              have c0 := hinv.grow.cellAt k (by have := HIL.out; omega)
              rw [List.getElem?_eq_getElem (by have := HIL.out; simp; omega)] at c0
              obtain ⟨u, hu⟩ : ∃ u, wr.cell? ⟨gg, k, none⟩ = some u := ⟨_, c0⟩
              clear c0
              have f0 := hinv.grow.frozenAt k
              have HN := Lib.hid (put_step HIL.out HNN.out hinv hv)
              have HOW : Hid (∀ hk : k + 1 < its.length, (wr.setCell ⟨gg, k, none⟩ (.slice a (n + 40) cc)).ownsRow base 3 1 (IV its[k + 1]) its[k + 1].2.1 (List.replicate its[k + 1].2.1 (m1 (k + 1)))) := fun hk => own_set_other (hinv.own (k + 1) hk (by omega)) (hinv.ggI (k + 1) hk) _
              clear hinv hv
              go_wp2
              go_roundw
              case rel => exact ⟨k + 1, _, by omega, by go_num, HN.out, HOW.out⟩
              case measure => simp [intOf]; omega
        · obtain rfl : k = i := by omega
          have HI := Lib.hid hinv
          clear hok
          have hbel := hinv.bel
          clear hinv
          generalize wr = wo2 at *
          go_wp2_with fail
          go_loop [9] (fun ix => ∃ q : Nat, q ≤ k ∧ ix = .int .i64 q) (fun ix => k - (intOf ix).toNat)
          case atStart => exact ⟨0, by omega, rfl⟩
          case round =>
            obtain ⟨q, hq, rfl⟩ := hrel
            by_cases hlt : q < k
            · have hil : q < its.length := by have := HM.out; omega
              have hgl2 : q < gv.length := by rw [HI.out.len]; exact hil
              obtain ⟨a, n, cc, hit⟩ : ∃ a n cc, its[q] = (a, n, cc) := ⟨_, _, _, rfl⟩
              obtain ⟨a2, n2, c2, hit2⟩ : ∃ a n cc, gv[q] = (a, n, cc) := ⟨_, _, _, rfl⟩
              have hn8 : n * 8 ≤ 140737488350000 := by have := HSt.out.small q hil; rw [hit] at this; exact this
              have r0 : wo2.cell? ⟨gl, q, none⟩ = some (.slice a n cc) := by
                have := HI.out.row q hil
                rw [hit] at this
                exact this
              obtain ⟨hg1, hg2⟩ := HI.out.gown q hil hgl2 (by have := HM.out; omega)
              rw [hit2, hit] at hg1
              rw [hit2, hit] at hg2
              simp only at hg1
              subst hg1
              have hrd := HI.out.rd q hil
              rw [hit] at hrd
              simp only at hrd hg2
              have r1 : wo2.cell? ⟨gg, q, none⟩ = some (.slice a2 (n + 40) c2) := by
                rw [HI.out.grow.cellAt q (by omega), List.getElem?_eq_getElem (by simp; exact hgl2)]
                simp only [List.getElem_map]
                rw [hit2]; rfl
              obtain ⟨g2, rfl, _, _⟩ := own_form (a := a2) (c := c2) (n := n + 40) hg2 (by omega)
              have HG2 := Lib.hid hg2
              have HRD := Lib.hid hrd
              clear hg2 hrd hit hit2
              have i0 : (0 : Int) ≤ (q : Int) := by omega
              have i1 : (q : Int) < (k : Int) := by omega
              go_wp2_with fail
              go_loop [11] (fun jx => ∃ j : Nat, j ≤ n + 40 ∧ jx = .int .i64 j) (fun jx => n + 40 - (intOf jx).toNat)
              case atStart => exact ⟨0, by omega, rfl⟩
              case round =>
                obtain ⟨j, hj, rfl⟩ := hrel
                by_cases hjn : j < n + 40
                · have j0 : (0 : Int) ≤ (j : Int) := by omega
                  have j1 : (j : Int) < (n : Int) + 40 := by omega
                  by_cases hjn2 : j < n
                  · have c1 : wo2.cell? ⟨g2, j, none⟩ = some (m1 q) := by
                      rw [World.ownsRow.cellAt (g := g2) (cap := c2) (n := n + 40) HG2.out j (by omega), List.getElem?_append_left (by simpa using hjn2), List.getElem?_replicate, if_pos hjn2]
                    obtain ⟨b, o, rfl, _, hc⟩ := HRD.out.2.resolve_left (by omega)
                    have c3 := hc j (m1 q) (by rw [List.getElem?_replicate, if_pos hjn2])
                    simp only [m1] at c1 c3
                    clear hc
                    have j2 : (j : Int) < (n : Int) := by omega
                    go_wp2
                    go_round
                    case rel => exact ⟨j + 1, by omega, by go_num⟩
                    case measure => simp [intOf]; omega
                  · have c1 : wo2.cell? ⟨g2, j, none⟩ = some (m2 q) := by
                      rw [World.ownsRow.cellAt (g := g2) (cap := c2) (n := n + 40) HG2.out j (by omega), List.getElem?_append_right (by simp; omega), List.getElem?_replicate, if_pos (by simp; omega)]
                    simp only [m2] at c1
                    have j2 : n ≤ j := by omega
                    go_wp2
                    go_round
                    case rel => exact ⟨j + 1, by omega, by go_num⟩
                    case measure => simp [intOf]; omega
                · go_wp2
                  go_round
                  case rel => exact ⟨q + 1, by omega, by go_num⟩
                  case measure => simp [intOf]; omega
            · go_wp2
              go_ret
              exact ⟨rfl, hbel, HI.out.oth⟩

/-- the rows are handed over in a block that has just been laid -/
theorem apart_lit (gl base m c : Nat) (its : List It) (W : World) (cs : Array Value) (e : TypeId) (hgl : gl = W.heap.size) (hcs : cs = (its.map IV).toArray) (hm : m = its.length) (hbase : base ≤ W.heap.size)
    (hpair : its.Pairwise fun x y => Ap (IV x) (IV y)) (hown : ∀ x ∈ its, ∃ xs, W.ownsRow base 3 1 (IV x) x.2.1 xs) (hsmall : ∀ x ∈ its, x.2.1 * 8 ≤ 140737488350000) (hlen : its.length ≤ 1000000) :
    Calls Tryd.prog 18 #[.slice (some ⟨gl, 0, none⟩) m c] (W.alloc (.cells cs e)) fun e w' => e = .returned (.bool true) ∧ Below base W w' ∧ ∀ b, b < W.heap.size → (∀ x ∈ its, (IV x).ownBlock ≠ some b) → w'.heap[b]? = W.heap[b]? := by
  subst hgl hcs
  have hlt : ∀ x ∈ its, ∀ b, (IV x).ownBlock = some b → b < W.heap.size := fun x hx b hb => by
    obtain ⟨xs, h⟩ := hown x hx
    exact own_lt h b hb
  have hap : ∀ p q (hp : p < its.length) (hq : q < its.length), p < q → Ap (IV its[p]) (IV its[q]) := fun p q hp hq h => List.pairwise_iff_getElem.1 hpair p q hp hq h
  have S : St W.heap.size its := by
    refine ⟨fun p q hp hq hne => ?_, fun q hq e => ?_, fun q hq => hsmall _ (List.getElem_mem hq), hlen⟩
    · rcases Nat.lt_or_ge p q with h | h
      · exact hap p q hp hq h
      · exact (hap q p hq hp (by omega)).symm
    · have := hlt _ (List.getElem_mem hq) _ e
      omega
  refine (apart_any W.heap.size base its (W.alloc (.cells (its.map IV).toArray e)) S (by simp) (by simp; omega) (fun q hq => ?_) (fun q hq => ?_) m c hm).mono fun e2 w' h => ?_
  · simp [hq]
  · obtain ⟨xs, h⟩ := hown _ (List.getElem_mem hq)
    exact ⟨xs, h.alloc _⟩
  · obtain ⟨h1, h2, h3⟩ := h
    refine ⟨h1, (((Below.refl W.heap.size W).alloc (Nat.le_refl _) _).mono hbase).trans h2, fun b hb hno => ?_⟩
    rw [h3 b (by simp; omega) fun q hq => hno _ (List.getElem_mem hq)]
    exact ((Below.refl W.heap.size W).alloc (Nat.le_refl _) (.cells (its.map IV).toArray e)).block b hb
end ApI
end Go.Proofs.YtjgblanpaanglaaDoor
