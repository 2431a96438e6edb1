/- The contract of eden/edenraw.Apart: rows of the call's own, no two in one block, are told apart. edenlaw22.PlaneKeeps returns true. PlaneKeeps: the row's statement and its tied card: for every input the law's call returns true, and the arguments read as before. No condition beside the row's own (the listed package-level variables read as the program's text lays them). -/
import Derived.Test.YtocfkmdoalhjmaaDoorOwn
import Derived.Test.YtocfkmdoalhjmaaDoorTypes
import Derived.WalkKit
import Derived.Laws.OwnMore
import Derived.IntWalk
import Derived.Lib.Hide
import Derived.Test.YtocfkmdoalhjmaaDoorLifM
import Derived.Test.YtocfkmdoalhjmaaDoorHexM
import Derived.Test.YtocfkmdoalhjmaaDoorTrkP
import Derived.Test.YtocfkmdoalhjmaaDoorEnvLaid
import Derived.Test.YtocfkmdoalhjmaaDoorOpenPat
import Derived.Test.YtocfkmdoalhjmaaDoorCards
import Derived.Test.YtocfkmdoalhjmaaDoorTie
import Derived.ProofKit
import Derived.OpenShut
import Derived.ChangeOld
import Derived.ChangeVars
import Derived.LaidMore
import Derived.LaidHandle
import Derived.MakeChecks
import Derived.Stop.Joined
import Derived.SevenTiedAt
namespace Go.Proofs.YtocfkmdoalhjmaaDoor
open Go.RowKit
set_option linter.unusedVariables false
set_option maxRecDepth 100000
namespace ApI

abbrev It := Option Addr × Nat × Nat
def IV (p : It) : Value := .slice p.1 p.2.1 p.2.2
def m1 (i : Nat) : Value := .int .i64 (-2 * (i : Int) - 1)
def m2 (i : Nat) : Value := .int .i64 (-2 * (i : Int) - 2)

/-- what the call is handed: rows in blocks of their own -/
structure St (gl : Nat) (its : List It) : Prop where
  apart : ∀ p q (hp : p < its.length) (hq : q < its.length), p ≠ q → Ap (IV its[p]) (IV its[q])
  noGl : ∀ q (hq : q < its.length), (IV its[q]).ownBlock ≠ some gl
  small : ∀ q (hq : q < its.length), its[q].2.1 * 8 ≤ 140737488350000
  m : its.length ≤ 1000000

structure Inv1 (gl base : Nat) (its : List It) (i j : Nat) (W w : World) : Prop where
  own : ∀ q (hq : q < its.length), ∃ xs, w.ownsRow base 3 1 (IV its[q]) its[q].2.1 xs ∧ (q < i → xs = List.replicate its[q].2.1 (m1 q)) ∧ (q = i → xs.take j = List.replicate j (m1 q))
  bel : Below base W w
  row : ∀ q (hq : q < its.length), w.cell? ⟨gl, q, none⟩ = some (IV its[q])
  oth : ∀ b, b < W.heap.size → (∀ q (hq : q < its.length), (IV its[q]).ownBlock ≠ some b) → w.heap[b]? = W.heap[b]?

theorem set_take {xs : List Value} {j : Nat} {u : Value} (h : xs.take j = List.replicate j u) (hj : j < xs.length) : (xs.set j u).take (j + 1) = List.replicate (j + 1) u := by
  rw [List.take_succ_eq_append_getElem (by simpa using hj), List.take_set, List.set_eq_of_length_le (by simp; omega), h, List.replicate_succ']
  simp

theorem Inv1.next {gl base i : Nat} {its : List It} {W w : World} (hi : i < its.length) (h : Inv1 gl base its i its[i].2.1 W w) : Inv1 gl base its (i + 1) 0 W w := by
  refine ⟨fun q hq => ?_, h.bel, h.row, h.oth⟩
  obtain ⟨xs, h1, h2, h3⟩ := h.own q hq
  refine ⟨xs, h1, fun hlt => ?_, fun _ => by simp⟩
  by_cases e : q = i
  · subst e
    have hl : xs.length = its[q].2.1 := by simpa using h1.1
    have := h3 rfl
    rwa [List.take_of_length_le (by omega)] at this
  · exact h2 (by omega)

theorem Inv1.store {gl base g i j n c : Nat} {its : List It} {W w : World} (S : St gl its) (hi : i < its.length) (hit : its[i] = (some ⟨g, 0, none⟩, n, c)) (hj : j < n) (hbg : base ≤ g) (h : Inv1 gl base its i j W w) : Inv1 gl base its i (j + 1) W (w.setCell ⟨g, j, none⟩ (m1 i)) := by
  have hg : (IV its[i]).ownBlock = some g := by rw [hit]; rfl
  refine ⟨fun q hq => ?_, h.bel.setCell (p := ⟨g, j, none⟩) hbg _, fun q hq => ?_, fun b hb hno => ?_⟩
  · obtain ⟨xs, h1, h2, h3⟩ := h.own q hq
    by_cases e : q = i
    · subst e
      have hl : xs.length = its[q].2.1 := by simpa using h1.1
      have hn : its[q].2.1 = n := by rw [hit]
      refine ⟨xs.set j (m1 q), ?_, fun a => by omega, fun _ => set_take (h3 rfl) (by omega)⟩
      rw [hit] at h1 ⊢
      exact own_set h1 j _
    · refine ⟨xs, own_set_other h1 (fun e2 => S.apart i q hi hq (fun e3 => e e3.symm) g hg e2) _, h2, fun a => absurd a e⟩
  · have hne : gl ≠ g := fun e => S.noGl i hi (by rw [hg, e])
    rw [World.cell?_of_block (Below.heap_setCell w ⟨g, j, none⟩ (m1 i) gl hne)]
    exact h.row q hq
  · have hne : b ≠ g := fun e => hno i hi (by rw [hg, e])
    rw [Below.heap_setCell w ⟨g, j, none⟩ (m1 i) b hne]
    exact h.oth b hb hno

/-- the second half: each row grown, by marks of its own; v: the row i, grown by j -/
structure Inv2 (gl gg base : Nat) (its gv : List It) (i : Nat) (W w : World) : Prop where
  len : gv.length = its.length
  bel : Below base W w
  row : ∀ q (hq : q < its.length), w.cell? ⟨gl, q, none⟩ = some (IV its[q])
  grow : w.ownsRow base 22 1 (.slice (some ⟨gg, 0, none⟩) its.length its.length) its.length (gv.map IV)
  rd : ∀ q (hq : q < its.length), Rd w its[q].1 its[q].2.1 1 (List.replicate its[q].2.1 (m1 q))
  own : ∀ q (hq : q < its.length), i < q → w.ownsRow base 3 1 (IV its[q]) its[q].2.1 (List.replicate its[q].2.1 (m1 q))
  gown : ∀ q (hq : q < its.length) (hg : q < gv.length), q < i → gv[q].2.1 = its[q].2.1 + 40 ∧ w.ownsRow base 3 1 (IV gv[q]) (its[q].2.1 + 40) (List.replicate its[q].2.1 (m1 q) ++ List.replicate 40 (m2 q))
  lt : ∀ q (hq : q < its.length) b, (IV its[q]).ownBlock = some b → b < w.heap.size
  form : ∀ q (hq : q < its.length) b o, its[q].1 = some ⟨b, o, none⟩ → o = 0
  apI : ∀ p q (hp : p < its.length) (hq : q < gv.length), q < i → p ≠ q → Ap (IV gv[q]) (IV its[p])
  apG : ∀ p q (hp : p < gv.length) (hq : q < gv.length), p < i → q < i → p ≠ q → Ap (IV gv[p]) (IV gv[q])
  noG : ∀ q (hg : q < gv.length), q < i → (IV gv[q]).ownBlock ≠ some gl ∧ (IV gv[q]).ownBlock ≠ some gg
  ggI : ∀ q (hq : q < its.length), (IV its[q]).ownBlock ≠ some gg
  ggl : gl ≠ gg
  ggb : base ≤ gg
  gll : gl < w.heap.size
  ggW : W.heap.size ≤ gg
  oth : ∀ b, b < W.heap.size → (∀ q (hq : q < its.length), (IV its[q]).ownBlock ≠ some b) → w.heap[b]? = W.heap[b]?

structure Vin (gl gg base : Nat) (its gv : List It) (i n j : Nat) (v : Value) (W w : World) : Prop where
  own : w.ownsRow base 3 1 v (n + j) (List.replicate n (m1 i) ++ List.replicate j (m2 i))
  apI : ∀ p (hp : p < its.length), p ≠ i → Ap v (IV its[p])
  apG : ∀ q (hq : q < gv.length), q < i → Ap v (IV gv[q])
  no : v.ownBlock ≠ some gl ∧ v.ownBlock ≠ some gg
  src : (∃ hi : i < its.length, v.ownBlock = (IV its[i]).ownBlock) ∨ ∃ g, v.ownBlock = some g ∧ W.heap.size ≤ g

theorem Vin.start {gl gg base i : Nat} {its gv : List It} {W w : World} (S : St gl its) (hi : i < its.length) (h : Inv2 gl gg base its gv i W w) (ho : w.ownsRow base 3 1 (IV its[i]) its[i].2.1 (List.replicate its[i].2.1 (m1 i))) : Vin gl gg base its gv i its[i].2.1 0 (IV its[i]) W w :=
  ⟨by simpa using ho, fun p hp hne => S.apart i p hi hp (fun e => hne e.symm), fun q hq hlt => (h.apI i q hi hq hlt (by omega)).symm, ⟨S.noGl i hi, h.ggI i hi⟩, .inl ⟨hi, rfl⟩⟩

theorem ap_step {gl gg base i n j : Nat} {its gv : List It} {W w w' : World} {v v' : Value} (hi : i < its.length) (hn : n = its[i].2.1) (h : Inv2 gl gg base its gv i W w) (hv : Vin gl gg base its gv i n j v W w)
    (ha : Appended base 3 1 w w' v v' (n + j) 1 (List.replicate n (m1 i) ++ List.replicate j (m2 i)) [m2 i]) : Inv2 gl gg base its gv i W w' ∧ Vin gl gg base its gv i n (j + 1) v' W w' := by
  have hglen := h.len
  have hgg : gg < w.heap.size := own_lt h.grow gg rfl
  refine ⟨⟨h.len, h.bel.trans ha.below, fun q hq => ?_, ha.keeps h.grow (.inr fun e => hv.no.2 e.symm), fun q hq => ?_, fun q hq hlt => ha.keeps (h.own q hq hlt) (hv.apI q hq (by omega)).ne, fun q hq hg hlt => ?_, fun q hq b hb => Nat.lt_of_lt_of_le (h.lt q hq b hb) ha.grew, h.form, h.apI, h.apG, h.noG, h.ggI, h.ggl, h.ggb, Nat.lt_of_lt_of_le h.gll ha.grew, h.ggW, fun b hb hno => ?_⟩, ⟨?_, fun p hp hne => (hv.apI p hp hne).app ha (h.lt p hp), fun q hq hlt => (hv.apG q hq hlt).app ha (own_lt (h.gown q (by omega) hq hlt).2), ?_, ?_⟩⟩
  · rw [ha.cell ⟨gl, q, none⟩ h.gll (fun e => absurd e hv.no.1)]
    exact h.row q hq
  · refine ha.rd (h.rd q hq) fun b o hab hvb => ?_
    by_cases e : q = i
    · subst e
      have := h.form q hq b o hab
      omega
    · refine absurd ?_ (hv.apI q hq e b hvb)
      unfold IV
      rw [hab]; rfl
  · obtain ⟨h1, h2⟩ := h.gown q hq hg hlt
    exact ⟨h1, ha.keeps h2 (hv.apG q hg hlt).ne⟩
  · have hne : v.ownBlock ≠ some b := by
      rcases hv.src with ⟨_, e⟩ | ⟨g, e, hg⟩
      · rw [e]; exact hno i hi
      · rw [e]; intro e2; cases e2; omega
    rw [ha.row.block b (Nat.lt_of_lt_of_le hb h.bel.size) (fun e => hne e.symm)]
    exact h.oth b hb hno
  · have := ha.own
    rw [List.append_assoc, ← List.replicate_succ'] at this
    exact this
  · rcases ha.at_ with e | ⟨g, e, hge⟩
    · rw [e]; exact hv.no
    · rw [e]
      exact ⟨fun e2 => by have := h.gll; cases e2; omega, fun e2 => by cases e2; omega⟩
  · rcases ha.at_ with e | ⟨g, e, hge⟩
    · rw [e]; exact hv.src
    · exact .inr ⟨g, e, Nat.le_trans h.bel.size hge⟩

theorem gv_get (gv : List It) (i q : Nat) (x : It) (hq : q < (gv.set i x).length) (hi : i < gv.length) : (gv.set i x)[q] = if i = q then x else gv[q]'(by simpa using hq) := by
  rw [List.getElem_set]

theorem put_step {gl gg base i n : Nat} {its gv : List It} {W w : World} {a : Option Addr} {c : Nat} (hi : i < its.length) (hn : n = its[i].2.1) (h : Inv2 gl gg base its gv i W w) (hv : Vin gl gg base its gv i n 40 (.slice a (n + 40) c) W w) :
    Inv2 gl gg base its (gv.set i (a, n + 40, c)) (i + 1) W (w.setCell ⟨gg, i, none⟩ (.slice a (n + 40) c)) := by
  have hglen := h.len
  have hiv : IV (a, n + 40, c) = .slice a (n + 40) c := rfl
  have other : ∀ k, k ≠ gg → (w.setCell ⟨gg, i, none⟩ (.slice a (n + 40) c)).heap[k]? = w.heap[k]? := fun k hk => Below.heap_setCell w ⟨gg, i, none⟩ _ k hk
  refine ⟨by simpa using h.len, h.bel.setCell (p := ⟨gg, i, none⟩) h.ggb _, fun q hq => ?_, ?_, fun q hq => ?_, fun q hq hlt => own_set_other (h.own q hq (by omega)) (h.ggI q hq) _, fun q hq hg hlt => ?_, fun q hq b hb => ?_, h.form, fun p q hp hq hlt hne => ?_, fun p q hp hq hl1 hl2 hne => ?_, fun q hg hlt => ?_, h.ggI, h.ggl, h.ggb, ?_, h.ggW, fun b hb hno => (other b (by have := h.ggW; omega)).trans (h.oth b hb hno)⟩
  · rw [World.cell?_of_block (other gl h.ggl)]
    exact h.row q hq
  · have := own_set h.grow i (.slice a (n + 40) c)
    rw [← hiv, ← List.map_set] at this
    exact this
  · refine ⟨(h.rd q hq).1, ?_⟩
    rcases (h.rd q hq).2 with h0 | ⟨b, o, e, hlt, hc⟩
    · exact .inl h0
    · refine .inr ⟨b, o, e, by simp [World.setCell]; exact hlt, fun j u hu => ?_⟩
      have hbg : b ≠ gg := fun e2 => h.ggI q hq (by unfold IV; rw [e, e2]; rfl)
      rw [World.cell?_of_block (other b hbg)]
      exact hc j u hu
  · rw [gv_get gv i q _ hg (by omega)]
    by_cases e : i = q
    · subst e
      rw [if_pos rfl]
      refine ⟨by rw [hn], ?_⟩
      rw [← hn]
      exact own_set_other hv.own hv.no.2 _
    · rw [if_neg e]
      obtain ⟨h1, h2⟩ := h.gown q hq (by simpa using hg) (by omega)
      exact ⟨h1, own_set_other h2 (h.noG q (by simpa using hg) (by omega)).2 _⟩
  · have := h.lt q hq b hb
    simp [World.setCell]; exact this
  · rw [gv_get gv i q _ hq (by omega)]
    by_cases e : i = q
    · subst e; rw [if_pos rfl]; exact hv.apI p hp hne
    · rw [if_neg e]; exact h.apI p q hp (by simpa using hq) (by omega) hne
  · rw [gv_get gv i q _ hq (by omega), gv_get gv i p _ hp (by omega)]
    by_cases e : i = q
    · subst e
      rw [if_pos rfl, if_neg (fun e2 => hne e2.symm)]
      exact (hv.apG p (by simpa using hp) (by omega)).symm
    · rw [if_neg e]
      by_cases e2 : i = p
      · subst e2; rw [if_pos rfl]; exact hv.apG q (by simpa using hq) (by omega)
      · rw [if_neg e2]; exact h.apG p q (by simpa using hp) (by simpa using hq) (by omega) (by omega) hne
  · rw [gv_get gv i q _ hg (by omega)]
    by_cases e : i = q
    · subst e; rw [if_pos rfl]; exact hv.no
    · rw [if_neg e]; exact h.noG q (by simpa using hg) (by omega)
  · have := h.gll
    simp [World.setCell]; exact this

theorem its_own {gl base : Nat} {its : List It} {W w : World} (h : Inv1 gl base its its.length 0 W w) (q : Nat) (hq : q < its.length) : w.ownsRow base 3 1 (IV its[q]) its[q].2.1 (List.replicate its[q].2.1 (m1 q)) := by
  obtain ⟨xs, h1, h2, _⟩ := h.own q hq
  rw [h2 hq] at h1
  exact h1

/-- the start of the second half: the row of the grown has just been made -/
theorem Inv2.start {gl base : Nat} {its : List It} {W w w2 : World} (S : St gl its) (h : Inv1 gl base its its.length 0 W w) (hgl : gl < w.heap.size) (hbase : base ≤ w.heap.size)
    (hown : w2.ownsRow base 22 1 (.slice (some ⟨w.heap.size, 0, none⟩) its.length its.length) its.length ((List.replicate its.length ((none, 0, 0) : It)).map IV)) (hb : Below w.heap.size w w2) :
    Inv2 gl w.heap.size base its (List.replicate its.length (none, 0, 0)) 0 W w2 := by
  have hlt : ∀ q (hq : q < its.length) b, (IV its[q]).ownBlock = some b → b < w.heap.size := fun q hq b hb => own_lt (its_own h q hq) b hb
  refine ⟨by simp, h.bel.trans (hb.mono hbase), fun q hq => (hb.cell (p := ⟨gl, q, none⟩) hgl).trans (h.row q hq), hown, fun q hq => ?_, fun q hq _ => owns_up (its_own h q hq) hb, fun q _ _ hlt => by omega, fun q hq b hb2 => Nat.lt_of_lt_of_le (hlt q hq b hb2) hb.size, fun q hq b o e => ?_, fun p q _ _ hlt => by omega, fun p q _ _ hlt => by omega, fun q _ hlt => by omega, fun q hq e => by have := hlt q hq _ e; omega, by omega, hbase, Nat.lt_of_lt_of_le hgl hb.size, h.bel.size, fun b hb2 hno => (hb.block b (Nat.lt_of_lt_of_le hb2 h.bel.size)).trans (h.oth b hb2 hno)⟩
  · exact ((owns_rd (a := its[q].1) (c := its[q].2.2) (its_own h q hq)).2).up hb
  · exact (own_off (a := its[q].1) (c := its[q].2.2) (its_own h q hq) e).1

set_option maxHeartbeats 8000000 in
theorem apart_any (gl base : Nat) (its : List It) (W : World) (S : St gl its) (hgl : gl < W.heap.size) (hbase : base ≤ W.heap.size) (hrow : ∀ q (hq : q < its.length), W.cell? ⟨gl, q, none⟩ = some (IV its[q]))
    (hown : ∀ q (hq : q < its.length), ∃ xs, W.ownsRow base 3 1 (IV its[q]) its[q].2.1 xs) (m c : Nat) (hm : m = its.length) :
    Calls Tryd.prog 21 #[.slice (some ⟨gl, 0, none⟩) m c] W fun e w' => e = .returned (.bool true) ∧ Below base W w' ∧ ∀ b, b < W.heap.size → (∀ q (hq : q < its.length), (IV its[q]).ownBlock ≠ some b) → w'.heap[b]? = W.heap[b]? := by
  have hm6 : m ≤ 1000000 := by have := S.m; omega
  have HM := Lib.hid hm; clear hm
  have HSt := Lib.hid S; clear S
  have h0 : Inv1 gl base its 0 0 W W := ⟨fun q hq => by obtain ⟨xs, h⟩ := hown q hq; exact ⟨xs, h, fun a => by omega, fun _ => by simp⟩, Below.refl _ _, hrow, fun _ _ _ => rfl⟩
  have H0 := Lib.hid h0; clear h0 hown hrow
  go_enter Tryd.func21, Tryd.ntmps21
  go_wp2_with fail
  go_loopw [3] (fun ix wr => ∃ i : Nat, i ≤ m ∧ ix = .int .i64 i ∧ Inv1 gl base its i 0 W wr) (fun ix _ => m - (intOf ix).toNat)
  case atStart => exact ⟨0, by omega, rfl, H0.out⟩
  case round =>
    obtain ⟨i, hi, rfl, hinv⟩ := hrel
    by_cases hlt : i < m
    · have hil : i < its.length := by have := HM.out; omega
      obtain ⟨a, n, cc, hit⟩ : ∃ a n cc, its[i] = (a, n, cc) := ⟨_, _, _, rfl⟩
      have hn8 : n * 8 ≤ 140737488350000 := by have := HSt.out.small i hil; rw [hit] at this; exact this
      have HIT := Lib.hid hit; clear hit
      have HIL := Lib.hid hil
      have HI := Lib.hid hinv; clear hinv
      have i0 : (0 : Int) ≤ (i : Int) := by omega
      have i1 : (i : Int) < (m : Int) := by omega
      generalize wr = wo at *
      go_wp2_with fail
      go_loopw [4] (fun jx wr => ∃ j : Nat, j ≤ n ∧ jx = .int .i64 j ∧ Inv1 gl base its i j W wr) (fun jx _ => n - (intOf jx).toNat)
      case atStart => exact ⟨0, by omega, rfl, HI.out⟩
      case round =>
        obtain ⟨j, hj, rfl, hinv⟩ := hrel
        have r0 : wr.cell? ⟨gl, i, none⟩ = some (.slice a n cc) := by
          have := hinv.row i HIL.out
          rw [HIT.out] at this
          exact this
        by_cases hjn : j < n
        · obtain ⟨xs, ho, _, _⟩ := hinv.own i HIL.out
          rw [HIT.out] at ho
          obtain ⟨g, ha, hg1, hg2⟩ := own_form (a := a) (c := cc) (n := n) ho (by omega)
          subst ha
          have hxl : xs.length = n := by simpa using ho.1
          have c0 : wr.cell? ⟨g, j, none⟩ = some (xs[j]'(by omega)) := by
            have := World.ownsRow.cellAt (g := g) (cap := cc) (n := n) ho j (by omega)
            rw [this]
            exact List.getElem?_eq_getElem _
          have f0 := World.ownsRow.frozenAt (g := g) (cap := cc) (n := n) ho j
          have HN := Lib.hid (hinv.store HSt.out HIL.out HIT.out hjn hg1)
          simp only [m1] at HN
          clear hinv ho
          generalize xs[j] = u at *
          have j0 : (0 : Int) ≤ (j : Int) := by omega
          have j1 : (j : Int) < (n : Int) := by omega
          go_wp2
          go_roundw
          case rel => exact ⟨j + 1, by omega, by go_num, HN.out⟩
          case measure => simp [intOf]; omega
        · obtain rfl : j = n := by omega
          have HN : Hid (Inv1 gl base its (i + 1) 0 W wr) := by
            refine Inv1.next HIL.out ?_
            rw [HIT.out]; exact hinv
          clear hinv
          go_wp2
          go_roundw
          case rel => exact ⟨i + 1, by omega, by go_num, HN.out⟩
          case measure => simp [intOf]; omega
    · obtain rfl : i = m := by omega
      have hinv2 : Inv1 gl base its its.length 0 W wr := by rw [← HM.out]; exact hinv
      have hglw : gl < wr.heap.size := Nat.lt_of_lt_of_le hgl hinv.bel.size
      have hbw : base ≤ wr.heap.size := Nat.le_trans hbase hinv.bel.size
      have HI := Lib.hid hinv2
      clear hinv hinv2
      generalize wr = wo at *
      go_wp2_with (first
        | (at_make; refine mk_full rfl _ _ _ rfl base et_ints .i64 .i64 _ _ i rfl rfl rfl rfl (by omega) (by unfold maxLen; omega) hbw ?_; intro w1 hown1 hb1 hsz1))
      have hst : Inv2 gl wo.heap.size base its (List.replicate its.length (none, 0, 0)) 0 W w1 := by
        refine Inv2.start HSt.out HI.out hglw hbw ?_ hb1
        rw [show (Value.slice none 0 0).cells = #[.slice none 0 0] from by rfl, toList_madeCells_one] at hown1
        rw [HM.out, Nat.mul_one] at hown1
        rw [List.map_replicate]
        exact hown1
      have HST := Lib.hid hst; clear hst hown1
      have hmI : ∀ {w : World} {i : Nat} {gv : List It}, Inv2 gl wo.heap.size base its gv i W w → ∀ hil : i < its.length, w.ownsRow base 3 1 (IV its[i]) its[i].2.1 (List.replicate its[i].2.1 (m1 i)) → True := fun _ _ _ => trivial
      clear hmI
      obtain ⟨gg, hgg⟩ : ∃ gg, wo.heap.size = gg := ⟨_, rfl⟩
      rw [hgg] at HST
      rw [hgg]
      have OW : Hid (∀ q (hq : q < its.length), w1.ownsRow base 3 1 (IV its[q]) its[q].2.1 (List.replicate its[q].2.1 (m1 q))) := fun q hq => owns_up (its_own HI.out q hq) hb1
      clear hb1 hsz1 hgg HI
      go_loopw [6] (fun ix wr => ∃ (k : Nat) (gv : List It), k ≤ i ∧ ix = .int .i64 k ∧ Inv2 gl gg base its gv k W wr ∧ (∀ hk : k < its.length, wr.ownsRow base 3 1 (IV its[k]) its[k].2.1 (List.replicate its[k].2.1 (m1 k)))) (fun ix _ => i - (intOf ix).toNat)
      case atStart => exact ⟨0, _, by omega, rfl, HST.out, fun hk => OW.out 0 hk⟩
      case round =>
        clear HST OW
        obtain ⟨k, gv, hk, rfl, hinv, hok⟩ := hrel
        by_cases hlt : k < i
        · have hil : k < its.length := by have := HM.out; omega
          obtain ⟨a, n, cc, hit⟩ : ∃ a n cc, its[k] = (a, n, cc) := ⟨_, _, _, rfl⟩
          have hn8 : n * 8 ≤ 140737488350000 := by have := HSt.out.small k hil; rw [hit] at this; exact this
          have hvin := Vin.start HSt.out hil hinv (hok hil)
          have hnn : n = its[k].2.1 := by rw [hit]
          have hv0 : IV its[k] = .slice a n cc := by rw [hit]; rfl
          rw [hv0, ← hnn] at hvin
          have r0 : wr.cell? ⟨gl, k, none⟩ = some (.slice a n cc) := by
            have := hinv.row k hil
            rw [hv0] at this
            exact this
          have HNN := Lib.hid hnn
          have HIL := Lib.hid hil
          have HI := Lib.hid hinv
          have HV := Lib.hid hvin
          clear hinv hok hit hnn hv0 hvin
          have i0 : (0 : Int) ≤ (k : Int) := by omega
          have i1 : (k : Int) < (i : Int) := by omega
          generalize wr = wo2 at *
          go_wp2_with fail
          go_loopw [7, 8] (fun v jx wr => ∃ (j : Nat) (a : Option Addr) (cc : Nat), j ≤ 40 ∧ jx = .int .i64 j ∧ v = .slice a (n + j) cc ∧ Inv2 gl gg base its gv k W wr ∧ Vin gl gg base its gv k n j (.slice a (n + j) cc) W wr) (fun _ jx _ => 40 - (intOf jx).toNat)
          case atStart => exact ⟨0, a, cc, by omega, rfl, rfl, HI.out, HV.out⟩
          case round =>
            clear HI HV r0
            obtain ⟨j, a, cc, hj, rfl, rfl, hinv, hv⟩ := hrel
            by_cases hj40 : j < 40
            · have hz := hinv.bel.size
              have hzb : base ≤ wr.heap.size := Nat.le_trans hbase hz
              have HI := Lib.hid hinv
              have HV := Lib.hid hv
              clear hinv hv
              go_wp2_with (first
                | (at_builtin; refine apl rfl _ _ _ rfl base et_int _ _ _ HV.out.own rfl 1 _ _ rfl rfl rfl rfl (by unfold maxLen; omega) (by omega) hzb ?_; intro a5 c5 w5 h5; have HS5 := Lib.hid (ap_step HIL.out HNN.out HI.out HV.out h5); clear h5))
              go_roundw
              case rel => exact ⟨j + 1, a5, c5, by omega, by go_num, rfl, HS5.out.1, HS5.out.2⟩
              case measure => simp [intOf]; omega
            · obtain rfl : j = 40 := by omega
              have hgl2 := hinv.len
              have c0 := hinv.grow.cellAt k (by have := HIL.out; omega)
              rw [List.getElem?_eq_getElem (by have := HIL.out; simp; omega)] at c0
              obtain ⟨u, hu⟩ : ∃ u, wr.cell? ⟨gg, k, none⟩ = some u := ⟨_, c0⟩
              clear c0
              have f0 := hinv.grow.frozenAt k
              have HN := Lib.hid (put_step HIL.out HNN.out hinv hv)
              have HOW : Hid (∀ hk : k + 1 < its.length, (wr.setCell ⟨gg, k, none⟩ (.slice a (n + 40) cc)).ownsRow base 3 1 (IV its[k + 1]) its[k + 1].2.1 (List.replicate its[k + 1].2.1 (m1 (k + 1)))) := fun hk => own_set_other (hinv.own (k + 1) hk (by omega)) (hinv.ggI (k + 1) hk) _
              clear hinv hv
              go_wp2
              go_roundw
              case rel => exact ⟨k + 1, _, by omega, by go_num, HN.out, HOW.out⟩
              case measure => simp [intOf]; omega
        · obtain rfl : k = i := by omega
          have HI := Lib.hid hinv
          clear hok
          have hbel := hinv.bel
          clear hinv
          generalize wr = wo2 at *
          go_wp2_with fail
          go_loop [9] (fun ix => ∃ q : Nat, q ≤ k ∧ ix = .int .i64 q) (fun ix => k - (intOf ix).toNat)
          case atStart => exact ⟨0, by omega, rfl⟩
          case round =>
            obtain ⟨q, hq, rfl⟩ := hrel
            by_cases hlt : q < k
            · have hil : q < its.length := by have := HM.out; omega
              have hgl2 : q < gv.length := by rw [HI.out.len]; exact hil
              obtain ⟨a, n, cc, hit⟩ : ∃ a n cc, its[q] = (a, n, cc) := ⟨_, _, _, rfl⟩
              obtain ⟨a2, n2, c2, hit2⟩ : ∃ a n cc, gv[q] = (a, n, cc) := ⟨_, _, _, rfl⟩
              have hn8 : n * 8 ≤ 140737488350000 := by have := HSt.out.small q hil; rw [hit] at this; exact this
              have r0 : wo2.cell? ⟨gl, q, none⟩ = some (.slice a n cc) := by
                have := HI.out.row q hil
                rw [hit] at this
                exact this
              obtain ⟨hg1, hg2⟩ := HI.out.gown q hil hgl2 (by have := HM.out; omega)
              rw [hit2, hit] at hg1
              rw [hit2, hit] at hg2
              simp only at hg1
              subst hg1
              have hrd := HI.out.rd q hil
              rw [hit] at hrd
              simp only at hrd hg2
              have r1 : wo2.cell? ⟨gg, q, none⟩ = some (.slice a2 (n + 40) c2) := by
                rw [HI.out.grow.cellAt q (by omega), List.getElem?_eq_getElem (by simp; exact hgl2)]
                simp only [List.getElem_map]
                rw [hit2]; rfl
              obtain ⟨g2, rfl, _, _⟩ := own_form (a := a2) (c := c2) (n := n + 40) hg2 (by omega)
              have HG2 := Lib.hid hg2
              have HRD := Lib.hid hrd
              clear hg2 hrd hit hit2
              have i0 : (0 : Int) ≤ (q : Int) := by omega
              have i1 : (q : Int) < (k : Int) := by omega
              go_wp2_with fail
              go_loop [11] (fun jx => ∃ j : Nat, j ≤ n + 40 ∧ jx = .int .i64 j) (fun jx => n + 40 - (intOf jx).toNat)
              case atStart => exact ⟨0, by omega, rfl⟩
              case round =>
                obtain ⟨j, hj, rfl⟩ := hrel
                by_cases hjn : j < n + 40
                · have j0 : (0 : Int) ≤ (j : Int) := by omega
                  have j1 : (j : Int) < (n : Int) + 40 := by omega
                  by_cases hjn2 : j < n
                  · have c1 : wo2.cell? ⟨g2, j, none⟩ = some (m1 q) := by
                      rw [World.ownsRow.cellAt (g := g2) (cap := c2) (n := n + 40) HG2.out j (by omega), List.getElem?_append_left (by simpa using hjn2), List.getElem?_replicate, if_pos hjn2]
                    obtain ⟨b, o, rfl, _, hc⟩ := HRD.out.2.resolve_left (by omega)
                    have c3 := hc j (m1 q) (by rw [List.getElem?_replicate, if_pos hjn2])
                    simp only [m1] at c1 c3
                    clear hc
                    have j2 : (j : Int) < (n : Int) := by omega
                    go_wp2
                    go_round
                    case rel => exact ⟨j + 1, by omega, by go_num⟩
                    case measure => simp [intOf]; omega
                  · have c1 : wo2.cell? ⟨g2, j, none⟩ = some (m2 q) := by
                      rw [World.ownsRow.cellAt (g := g2) (cap := c2) (n := n + 40) HG2.out j (by omega), List.getElem?_append_right (by simp; omega), List.getElem?_replicate, if_pos (by simp; omega)]
                    simp only [m2] at c1
                    have j2 : n ≤ j := by omega
                    go_wp2
                    go_round
                    case rel => exact ⟨j + 1, by omega, by go_num⟩
                    case measure => simp [intOf]; omega
                · go_wp2
                  go_round
                  case rel => exact ⟨q + 1, by omega, by go_num⟩
                  case measure => simp [intOf]; omega
            · go_wp2
              go_ret
              exact ⟨rfl, hbel, HI.out.oth⟩

/-- the rows are handed over in a block that has just been laid -/
theorem apart_lit (gl base m c : Nat) (its : List It) (W : World) (cs : Array Value) (e : TypeId) (hgl : gl = W.heap.size) (hcs : cs = (its.map IV).toArray) (hm : m = its.length) (hbase : base ≤ W.heap.size)
    (hpair : its.Pairwise fun x y => Ap (IV x) (IV y)) (hown : ∀ x ∈ its, ∃ xs, W.ownsRow base 3 1 (IV x) x.2.1 xs) (hsmall : ∀ x ∈ its, x.2.1 * 8 ≤ 140737488350000) (hlen : its.length ≤ 1000000) :
    Calls Tryd.prog 21 #[.slice (some ⟨gl, 0, none⟩) m c] (W.alloc (.cells cs e)) fun e w' => e = .returned (.bool true) ∧ Below base W w' ∧ ∀ b, b < W.heap.size → (∀ x ∈ its, (IV x).ownBlock ≠ some b) → w'.heap[b]? = W.heap[b]? := by
  subst hgl hcs
  have hlt : ∀ x ∈ its, ∀ b, (IV x).ownBlock = some b → b < W.heap.size := fun x hx b hb => by
    obtain ⟨xs, h⟩ := hown x hx
    exact own_lt h b hb
  have hap : ∀ p q (hp : p < its.length) (hq : q < its.length), p < q → Ap (IV its[p]) (IV its[q]) := fun p q hp hq h => List.pairwise_iff_getElem.1 hpair p q hp hq h
  have S : St W.heap.size its := by
    refine ⟨fun p q hp hq hne => ?_, fun q hq e => ?_, fun q hq => hsmall _ (List.getElem_mem hq), hlen⟩
    · rcases Nat.lt_or_ge p q with h | h
      · exact hap p q hp hq h
      · exact (hap q p hq hp (by omega)).symm
    · have := hlt _ (List.getElem_mem hq) _ e
      omega
  refine (apart_any W.heap.size base its (W.alloc (.cells (its.map IV).toArray e)) S (by simp) (by simp; omega) (fun q hq => ?_) (fun q hq => ?_) m c hm).mono fun e2 w' h => ?_
  · simp [hq]
  · obtain ⟨xs, h⟩ := hown _ (List.getElem_mem hq)
    exact ⟨xs, h.alloc _⟩
  · obtain ⟨h1, h2, h3⟩ := h
    refine ⟨h1, (((Below.refl W.heap.size W).alloc (Nat.le_refl _) _).mono hbase).trans h2, fun b hb hno => ?_⟩
    rw [h3 b (by simp; omega) fun q hq => hno _ (List.getElem_mem hq)]
    exact ((Below.refl W.heap.size W).alloc (Nat.le_refl _) (.cells (its.map IV).toArray e)).block b hb
end ApI
end Go.Proofs.YtocfkmdoalhjmaaDoor
namespace Go.Proofs.YtocfkmdoalhjmaaDoor
open Go.RowKit
set_option linter.unusedVariables false
set_option maxRecDepth 100000

theorem OwI.form {w : World} {B : Nat} {a : Option Addr} {n c : Nat} {l : List Int} (h : OwI w B a n c l) (hn : 0 < n) : ∃ g, a = some ⟨g, 0, none⟩ ∧ B ≤ g ∧ g < w.heap.size := own_form h.own hn
theorem OwI.lt {w : World} {B g : Nat} {n c : Nat} {l : List Int} (h : OwI w B (some ⟨g, 0, none⟩) n c l) : B ≤ g ∧ g < w.heap.size := h.own.lt g rfl
theorem OwI.len {w : World} {B : Nat} {a : Option Addr} {n c : Nat} {l : List Int} (h : OwI w B a n c l) : n = l.length := h.rk.len
/-- rows of two element types lie in two blocks -/
theorem ap_ty {w : World} {b1 b2 sz1 sz2 n1 n2 : Nat} {e1 e2 : TypeId} {v1 v2 : Value} {c1 c2 : List Value} (h1 : w.ownsRow b1 e1 sz1 v1 n1 c1) (h2 : w.ownsRow b2 e2 sz2 v2 n2 c2) (hne : e1 ≠ e2) : ∀ g, v1.ownBlock = some g → v2.ownBlock ≠ some g := by
  intro g hg1 hg2
  rcases h1.2 with ⟨rfl, _⟩ | ⟨g1, _, _, rfl, _, k1, _⟩
  · cases hg1
  rcases h2.2 with ⟨rfl, _⟩ | ⟨g2, _, _, rfl, _, k2, _⟩
  · cases hg2
  cases hg1; cases hg2
  rw [k1] at k2
  cases k2
  exact hne rfl
theorem ap_ne {g1 g2 n1 c1 n2 c2 : Nat} (h : g1 ≠ g2) : Ap (ApI.IV (some ⟨g1, 0, none⟩, n1, c1)) (ApI.IV (some ⟨g2, 0, none⟩, n2, c2)) := by
  intro g h1 h2
  cases h1; cases h2
  exact h rfl
theorem ap_neq {w : World} {b1 b2 sz1 sz2 n1 n2 : Nat} {v1 v2 : Value} {c1 c2 : List Value} (h1 : w.ownsRow b1 22 sz1 v1 n1 c1) (h2 : w.ownsRow b2 3 sz2 v2 n2 c2) : v2.ownBlock = none ∨ v2.ownBlock ≠ v1.ownBlock := by
  cases e : v2.ownBlock with
  | none => exact .inl rfl
  | some g => exact .inr fun e2 => ap_ty h2 h1 (by decide) g e e2.symm
/-- the rows stand in a row of the call's own -/
theorem apart_row (gl base B m c : Nat) (its : List ApI.It) (W : World) (hr : W.ownsRow B 22 1 (.slice (some ⟨gl, 0, none⟩) m c) m (its.map ApI.IV)) (hbase : base ≤ W.heap.size)
    (hpair : its.Pairwise fun x y => Ap (ApI.IV x) (ApI.IV y)) (hown : ∀ x ∈ its, ∃ xs, W.ownsRow base 3 1 (ApI.IV x) x.2.1 xs) (hsmall : ∀ x ∈ its, x.2.1 * 8 ≤ 140737488350000) (hlen : its.length ≤ 1000000) :
    Calls Tryd.prog 21 #[.slice (some ⟨gl, 0, none⟩) m c] W fun e w' => e = .returned (.bool true) ∧ Below base W w' := by
  have hm : m = its.length := by simpa using hr.1.symm
  have hap : ∀ p q (hp : p < its.length) (hq : q < its.length), p < q → Ap (ApI.IV its[p]) (ApI.IV its[q]) := fun p q hp hq h => List.pairwise_iff_getElem.1 hpair p q hp hq h
  have S : ApI.St gl its := by
    refine ⟨fun p q hp hq hne => ?_, fun q hq e => ?_, fun q hq => hsmall _ (List.getElem_mem hq), hlen⟩
    · rcases Nat.lt_or_ge p q with h | h
      · exact hap p q hp hq h
      · exact (hap q p hq hp (by omega)).symm
    · obtain ⟨xs, h⟩ := hown _ (List.getElem_mem hq)
      exact ap_ty h hr (by decide) gl e rfl
  refine (ApI.apart_any gl base its W S (hr.lt gl rfl).2 hbase (fun q hq => ?_) (fun q hq => hown _ (List.getElem_mem hq)) m c hm).mono fun e2 w' h => ⟨h.1, h.2.1⟩
  rw [hr.cellAt q (by omega)]
  simp [hq]

theorem OwI.lmK {w : World} {B : Nat} {a : Option Addr} {n c : Nat} {l : List Int} (h : OwI w B a n c l) : n ≤ maxLen := by
  have h2 := h.nnc
  omega
theorem life_erK (s : ByteArray) (W : World) (R : Nat → Addr) (hS : Sent W R) (hd : lifeD s ≠ none) : Calls Tryd.prog 16 #[.string s] W fun e w' => ∃ a n c t p, e = .returned (.tuple #[.slice a n c, .iface t p]) ∧ Below W.heap.size W w' := by
  refine (life_any s W R hS).mono ?_
  rintro e w' ⟨a, n, c, ev, rfl, ho, he, hb⟩
  cases hq : lifeD s with
  | none => exact absurd hq hd
  | some x =>
    rw [hq] at he
    obtain ⟨t, p, rfl⟩ := Chain.iface he
    exact ⟨a, n, c, t, _, rfl, hb⟩
theorem ints_okK (t : List Int) (o : List Int) (d : ErrD) (ht : t.length = 512) (ho : o = t) (hd : d = none) (W : World) (R : Nat → Addr) (e : Ending) (w' : World) (h : IntsErr R W o d e w') : ∃ g c, e = .returned (.tuple #[.slice (some ⟨g, 0, none⟩) 512 c, .nilIface]) ∧ OwI w' W.heap.size (some ⟨g, 0, none⟩) 512 c t ∧ Below W.heap.size W w' := by
  obtain ⟨a, n, c, ev, rfl, hw, he, hb⟩ := h
  subst ho hd
  obtain rfl : n = 512 := hw.rk.len.trans ht
  obtain ⟨g, rfl, _, _⟩ := hw.form (by omega)
  obtain rfl : ev = .nilIface := he
  exact ⟨g, c, rfl, hw, hb⟩
theorem life_okK (s : ByteArray) (t : List Int) (W : World) (R : Nat → Addr) (hS : Sent W R) (hd : lifeD s = none) (ho : lifeO s = t) (ht : t.length = 512) : Calls Tryd.prog 16 #[.string s] W fun e w' => ∃ g c, e = .returned (.tuple #[.slice (some ⟨g, 0, none⟩) 512 c, .nilIface]) ∧ OwI w' W.heap.size (some ⟨g, 0, none⟩) 512 c t ∧ Below W.heap.size W w' :=
  (life_any s W R hS).mono fun e w' h => ints_okK t _ _ ht ho hd W R e w' h
theorem from_okK (s : ByteArray) (t : List Int) (W : World) (R : Nat → Addr) (hS : Sent W R) (hz : s.size ≤ maxLen) (hd : fromD s = none) (ho : fromO s = t) (ht : t.length = 512) : Calls Tryd.prog 19 #[.string s] W fun e w' => ∃ g c, e = .returned (.tuple #[.slice (some ⟨g, 0, none⟩) 512 c, .nilIface]) ∧ OwI w' W.heap.size (some ⟨g, 0, none⟩) 512 c t ∧ Below W.heap.size W w' :=
  (from_any s W R hS hz).mono fun e w' h => ints_okK t _ _ ht ho hd W R e w' h
theorem hex_okK (g c : Nat) (B : Nat) (t : List Int) (d : ByteArray) (W : World) (R : Nat → Addr) (hS : Sent W R) (hT : OwI W B (some ⟨g, 0, none⟩) 512 c t) (ht : IsTab t) (hd : (⟨(hexT t).toArray⟩ : ByteArray) = d) : Calls Tryd.prog 18 #[.slice (some ⟨g, 0, none⟩) 512 c] W fun e w' => e = .returned (.tuple #[.string d, .nilIface]) ∧ Below W.heap.size W w' := by
  subst hd
  exact hex_ok _ c t W R hS (hT.sl (by omega)) ht
theorem plstep_okK (w h WN HN K : Nat) (a aT : Option Addr) (n c cT : Nat) (l t LL : List Int) (W : World) (R : Nat → Addr) (hS : Sent W R) (hR : SlI W a n c l) (hT : RK .i64 W aT 512 t) (ht : IsTab t) (hp : IsPatch w h l) (hw3 : 3 ≤ w) (hh3 : 3 ≤ h) (e1 : w - 2 = WN) (e2 : h - 2 = HN) (e3 : WN * HN = K) (e4 : stepL t w h l = LL) :
    Calls Tryd.prog 17 #[.slice aT 512 cT, patV w h a n c] W fun e w' => ∃ g c', e = .returned (.tuple #[patV WN HN (some ⟨g, 0, none⟩) K c', .nilIface]) ∧ OwI w' W.heap.size (some ⟨g, 0, none⟩) K c' LL ∧ Below W.heap.size W w' := by
  refine (plstep_ok w h a aT n c 512 cT l t W R hS hR hT (by unfold maxLen; omega) ht hp hw3 hh3).mono ?_
  rintro e w' ⟨a', n', c', rfl, ho, hb⟩
  have hn := ho.rk.len
  rw [show (stepL t w h l).length = (w - 2) * (h - 2) from madeL_len _ _ _] at hn
  obtain ⟨g, rfl, _, _⟩ := ho.form (by rw [hn]; exact Nat.mul_pos (by omega) (by omega))
  subst e1 e2 e3 e4 hn
  exact ⟨g, c', rfl, ho, hb⟩
theorem plstep_erK (w h : Int) (a aT : Option Addr) (n c nT cT : Nat) (l t : List Int) (W : World) (R : Nat → Addr) (hS : Sent W R) (hR : SlI W a n c l) (hx : I64 l) (hT : RK .i64 W aT nT t) (hmT : nT ≤ maxLen) (hd : stepD t w h l ≠ none) :
    Calls Tryd.prog 17 #[.slice aT nT cT, patV w h a n c] W fun e w' => ∃ o1 o2 a' n' c' t p, e = .returned (.tuple #[patV o1 o2 a' n' c', .iface t p]) ∧ Below W.heap.size W w' := by
  refine (plstep_any w h a aT n c nT cT l t W R hS hR hx hT hmT).mono ?_
  rintro e w' ⟨a', n', c', ev, rfl, ho, he, hb⟩
  cases hq : stepD t w h l with
  | none => exact absurd hq hd
  | some x =>
    rw [hq] at he
    obtain ⟨t, p, rfl⟩ := Chain.iface he
    exact ⟨_, _, a', n', c', t, _, rfl, hb⟩
set_option maxHeartbeats 16000000 in
theorem plane_keeps (s : ByteArray) (w h : Int) (a : Option Addr) (n c : Nat) (l : List Int) (W : World) (R : Nat → Addr) (hS : Sent W R) (hsz : s.size ≤ maxLen) (hR : SlI W a n c l) (hx : I64 l) :
    Calls Tryd.prog 4 #[.string s, patV w h a n c] W (TrueBelow W) := by
  have hnm := hR.nm
  have HI6 := Lib.hid hx
  have T0 := Tk.nil W
  have T1 := T0.add (fun wv => Below W.heap.size W wv) (bnil W)
  clear T0
  have T2 := T1.add (fun wv => Sent wv R) (hS)
  clear T1
  have T3 := T2.add (fun wv => SlI wv a n c l) (hR)
  clear T2
  clear hS hR hx
  obtain ⟨Wb, hWb⟩ : ∃ Wb, W.alloc (.cells #[.int .i64 w, .int .i64 h, .slice a n c] 24) = Wb := ⟨_, rfl⟩
  have hbWb : Below W.heap.size W Wb := by rw [← hWb]; exact balloc (bnil W) _
  have T4 := T3.up hbWb
  clear T3
  have T5 := T4.add (fun wv => wv.cell? ⟨W.heap.size, 0, none⟩ = some (.int .i64 w) ∧ wv.cell? ⟨W.heap.size, 1, none⟩ = some (.int .i64 h) ∧ wv.cell? ⟨W.heap.size, 2, none⟩ = some (.slice a n c)) (by rw [← hWb]; exact ⟨cnw (by simp) rfl, cnw (by simp) rfl, cnw (by simp) rfl⟩)
  clear T4
  have HWb := Lib.hid hWb
  clear hWb hbWb
  go_enter Tryd.func4, Tryd.ntmps4
  go_wp2_with fail
  rw [HWb.out]
  refine (awake22 Wb R T5.out.1.1.2).mono ?_; rintro e w1 ⟨rfl, hbw1⟩
  have T6 := T5.up hbw1
  clear T5
  by_cases hd : lifeD s ≠ none
  · skip
    go_wp2_with fail
    refine (life_erK s w1 R T6.out.1.1.2 hd).mono ?_; rintro e w2 ⟨a2, n2, c2, t2, p2, rfl, hbw2⟩
    have T7 := T6.up hbw2
    clear T6
    go_wp2_with fail
    refine (life_erK s w2 R T7.out.1.1.2 hd).mono ?_; rintro e w3 ⟨a3, n3, c3, t3, p3, rfl, hbw3⟩
    have T8 := T7.up hbw3
    clear T7
    go_wp2
    go_ret
    exact ⟨rfl, T8.out.1.1.1.2⟩
  have hd0 : lifeD s = none := Decidable.byContradiction hd
  obtain ⟨b, st, hlr, hlo⟩ := lifeO_ok hd0
  obtain ⟨t, ht⟩ : ∃ t, tabOf b st = t := ⟨_, rfl⟩
  have hit : IsTab t := by rw [← ht]; exact isTab_tab b st
  obtain ⟨d, hdd⟩ : ∃ d, (⟨(hexT t).toArray⟩ : ByteArray) = d := ⟨_, rfl⟩
  have hfr := from_of_hex hit
  have hdz : d.size ≤ maxLen := by
    rw [← hdd]
    show (hexT t).toArray.size ≤ maxLen
    rw [List.size_toArray, hexT_len]
    unfold maxLen; omega
  rw [hdd] at hfr
  rw [ht] at hlo
  have HLF := Lib.hid (And.intro hd0 hlo)
  have HTT := Lib.hid hit
  have HDD := Lib.hid hdd
  have HFR := Lib.hid hfr
  have HDZ := Lib.hid hdz
  clear hd hd0 hlr hlo ht hit hdd hfr hdz
  have T7 := T6.add (fun wv => Below w1.heap.size w1 wv) (bnil w1)
  clear T6
  have hW1 : W.heap.size ≤ w1.heap.size := (T7.out.1.1.1.1.2).size
  go_wp2_with fail
  refine (life_okK s t w1 R T7.out.1.1.1.2 HLF.out.1 HLF.out.2 HTT.out.len).mono ?_; rintro e w2 ⟨ga, ca, rfl, ho, hbw2⟩
  have T8 := T7.up hbw2
  clear T7
  obtain ⟨loga, higa⟩ := ho.lt
  have T9 := T8.add (fun wv => OwI wv w1.heap.size (some ⟨ga, 0, none⟩) 512 ca t) (ho.base (Nat.le_refl _))
  clear T8
  clear ho
  have sz2 : w1.heap.size ≤ w2.heap.size := (T9.out.1.2).size
  go_wp2_with fail
  refine (life_okK s t w2 R T9.out.1.1.1.1.2 HLF.out.1 HLF.out.2 HTT.out.len).mono ?_; rintro e w3 ⟨gb, cb, rfl, ho, hbw3⟩
  have T10 := T9.up hbw3
  clear T9
  obtain ⟨logb, higb⟩ := ho.lt
  have T11 := T10.add (fun wv => OwI wv w1.heap.size (some ⟨gb, 0, none⟩) 512 cb t) (ho.base sz2)
  clear T10
  clear ho
  go_wp2_with fail
  refine (hex_okK ga ca w1.heap.size t d w3 R T11.out.1.1.1.1.1.2 T11.out.1.2 HTT.out HDD.out).mono ?_; rintro e w4 ⟨rfl, hbw4⟩
  have T12 := T11.up hbw4
  clear T11
  have sz4 : w1.heap.size ≤ w4.heap.size := (T12.out.1.1.2).size
  have sgb : gb < w4.heap.size := (T12.out.2).lt.2
  go_wp2_with fail
  refine (from_okK d t w4 R T12.out.1.1.1.1.1.2 HDZ.out HFR.out.1 HFR.out.2 HTT.out.len).mono ?_; rintro e w5 ⟨gc, cc, rfl, ho, hbw5⟩
  have T13 := T12.up hbw5
  clear T12
  obtain ⟨logc, higc⟩ := ho.lt
  have T14 := T13.add (fun wv => OwI wv w1.heap.size (some ⟨gc, 0, none⟩) 512 cc t) (ho.base sz4)
  clear T13
  clear ho
  have sz5 : w1.heap.size ≤ w5.heap.size := (T14.out.1.1.1.2).size
  go_wp2_with fail
  refine (from_okK d t w5 R T14.out.1.1.1.1.1.1.2 HDZ.out HFR.out.1 HFR.out.2 HTT.out.len).mono ?_; rintro e w6 ⟨gd, cd, rfl, ho, hbw6⟩
  have T15 := T14.up hbw6
  clear T14
  obtain ⟨logd, higd⟩ := ho.lt
  have T16 := T15.add (fun wv => OwI wv w1.heap.size (some ⟨gd, 0, none⟩) 512 cd t) (ho.base sz5)
  clear T15
  clear ho
  go_wp2_with fail
  refine (ints_eqB (some ⟨ga, 0, none⟩) (some ⟨gb, 0, none⟩) 512 512 ca cb t w6 (T16.out.1.1.1.2).rk (T16.out.1.1.2).rk (by rw [HTT.out.len]; unfold maxLen; omega)).mono ?_; rintro e x1 ⟨rfl, hbx1⟩
  have T17 := T16.up hbx1
  clear T16
  go_wp2_with fail
  refine (ints_eqB (some ⟨gc, 0, none⟩) (some ⟨ga, 0, none⟩) 512 512 cc ca t x1 (T17.out.1.2).rk (T17.out.1.1.1.2).rk (by rw [HTT.out.len]; unfold maxLen; omega)).mono ?_; rintro e x2 ⟨rfl, hbx2⟩
  have T18 := T17.up hbx2
  clear T17
  go_wp2_with fail
  refine (ints_eqB (some ⟨gd, 0, none⟩) (some ⟨ga, 0, none⟩) 512 512 cd ca t x2 (T18.out.2).rk (T18.out.1.1.1.2).rk (by rw [HTT.out.len]; unfold maxLen; omega)).mono ?_; rintro e x3 ⟨rfl, hbx3⟩
  have T19 := T18.up hbx3
  clear T18
  have sgd : gd < x3.heap.size := (T19.out.2).lt.2
  have sgc : gc < x3.heap.size := (T19.out.1.2).lt.2
  have sz8 : w1.heap.size ≤ x3.heap.size := (T19.out.1.1.1.1.2).size
  obtain ⟨w9, hw9⟩ : ∃ w9, x3.alloc (.cells #[.slice (some ⟨ga, 0, none⟩) 512 ca, .slice (some ⟨gb, 0, none⟩) 512 cb, .slice (some ⟨gc, 0, none⟩) 512 cc, .slice (some ⟨gd, 0, none⟩) 512 cd] 22) = w9 := ⟨_, rfl⟩
  have hb9 : Below x3.heap.size x3 w9 := by rw [← hw9]; exact balloc (bnil x3) _
  obtain ⟨g8, hg8⟩ : ∃ g8, x3.heap.size = g8 := ⟨_, rfl⟩
  have hol : w9.ownsRow g8 22 1 (.slice (some ⟨g8, 0, none⟩) 4 4) 4 ([((some ⟨ga, 0, none⟩, 512, ca) : ApI.It), (some ⟨gb, 0, none⟩, 512, cb), (some ⟨gc, 0, none⟩, 512, cc), (some ⟨gd, 0, none⟩, 512, cd)].map ApI.IV) := by rw [← hw9]; exact own_lit hg8.symm (Nat.le_of_eq hg8.symm) (by unfold maxLen; omega) rfl
  have hs89 : g8 < w9.heap.size := by rw [← hw9, ← hg8]; simp
  have T20 := T19.up hb9
  clear T19
  have T21 := T20.add (fun wv => wv.ownsRow g8 22 1 (.slice (some ⟨g8, 0, none⟩) 4 4) 4 ([((some ⟨ga, 0, none⟩, 512, ca) : ApI.It), (some ⟨gb, 0, none⟩, 512, cb), (some ⟨gc, 0, none⟩, 512, cc), (some ⟨gd, 0, none⟩, 512, cd)].map ApI.IV)) (hol)
  clear T20
  have HW9 := Lib.hid (And.intro hw9 hg8)
  rw [hg8] at sgd sgc sz8
  clear hol hb9 hw9 hg8
  by_cases hsd : stepD t w h l ≠ none
  · skip
    have HSD := Lib.hid hsd
    clear hsd
    have u_p0 : (x3.alloc (.cells #[.slice (some ⟨ga, 0, none⟩) 512 ca, .slice (some ⟨gb, 0, none⟩) 512 cb, .slice (some ⟨gc, 0, none⟩) 512 cc, .slice (some ⟨gd, 0, none⟩) 512 cd] 22)).cell? ⟨W.heap.size, 0, none⟩ = some (.int .i64 w) := by rw [HW9.out.1]; exact T21.out.1.1.1.1.1.1.2.1
    have u_p1 : (x3.alloc (.cells #[.slice (some ⟨ga, 0, none⟩) 512 ca, .slice (some ⟨gb, 0, none⟩) 512 cb, .slice (some ⟨gc, 0, none⟩) 512 cc, .slice (some ⟨gd, 0, none⟩) 512 cd] 22)).cell? ⟨W.heap.size, 1, none⟩ = some (.int .i64 h) := by rw [HW9.out.1]; exact T21.out.1.1.1.1.1.1.2.2.1
    have u_p2 : (x3.alloc (.cells #[.slice (some ⟨ga, 0, none⟩) 512 ca, .slice (some ⟨gb, 0, none⟩) 512 cb, .slice (some ⟨gc, 0, none⟩) 512 cc, .slice (some ⟨gd, 0, none⟩) 512 cd] 22)).cell? ⟨W.heap.size, 2, none⟩ = some (.slice a n c) := by rw [HW9.out.1]; exact T21.out.1.1.1.1.1.1.2.2.2
    go_wp2_with fail
    rw [HW9.out.1, HW9.out.2]
    clear u_p0 u_p1 u_p2
    refine (plstep_erK w h a (some ⟨ga, 0, none⟩) n c 512 ca l t w9 R T21.out.1.1.1.1.1.1.1.1.2 T21.out.1.1.1.1.1.1.1.2 HI6.out (T21.out.1.1.1.1.2).rk (by unfold maxLen; omega) HSD.out).mono ?_; rintro e y1 ⟨o1, o2, a5, n5, c5, t5, p5, rfl, hby1⟩
    have T22 := T21.up hby1
    clear T21
    obtain ⟨y2, hy2⟩ : ∃ y2, y1.alloc (.cells #[.int .i64 o1, .int .i64 o2, .slice a5 n5 c5] 24) = y2 := ⟨_, rfl⟩
    have hby2 : Below y1.heap.size y1 y2 := by rw [← hy2]; exact balloc (bnil y1) _
    have T23 := T22.up hby2
    clear T22
    have T24 := T23.add (fun wv => wv.cell? ⟨y1.heap.size, 0, none⟩ = some (.int .i64 o1) ∧ wv.cell? ⟨y1.heap.size, 1, none⟩ = some (.int .i64 o2) ∧ wv.cell? ⟨y1.heap.size, 2, none⟩ = some (.slice a5 n5 c5)) (by rw [← hy2]; exact ⟨cnw (by simp) rfl, cnw (by simp) rfl, cnw (by simp) rfl⟩)
    clear T23
    have Hy2 := Lib.hid hy2
    clear hy2 hby2
    have v_p0 : (y1.alloc (.cells #[.int .i64 o1, .int .i64 o2, .slice a5 n5 c5] 24)).cell? ⟨W.heap.size, 0, none⟩ = some (.int .i64 w) := by rw [Hy2.out]; exact T24.out.1.1.1.1.1.1.1.2.1
    have v_p1 : (y1.alloc (.cells #[.int .i64 o1, .int .i64 o2, .slice a5 n5 c5] 24)).cell? ⟨W.heap.size, 1, none⟩ = some (.int .i64 h) := by rw [Hy2.out]; exact T24.out.1.1.1.1.1.1.1.2.2.1
    have v_p2 : (y1.alloc (.cells #[.int .i64 o1, .int .i64 o2, .slice a5 n5 c5] 24)).cell? ⟨W.heap.size, 2, none⟩ = some (.slice a n c) := by rw [Hy2.out]; exact T24.out.1.1.1.1.1.1.1.2.2.2
    go_wp2_with fail
    rw [Hy2.out]
    refine (plstep_erK w h a (some ⟨ga, 0, none⟩) n c 512 ca l t y2 R T24.out.1.1.1.1.1.1.1.1.1.2 T24.out.1.1.1.1.1.1.1.1.2 HI6.out (T24.out.1.1.1.1.1.2).rk (by unfold maxLen; omega) HSD.out).mono ?_; rintro e y3 ⟨o3, o4, a6, n6, c6, t6, p6, rfl, hby3⟩
    clear v_p0 v_p1 v_p2
    have T25 := T24.up hby3
    clear T24
    obtain ⟨y4, hy4⟩ : ∃ y4, y3.alloc (.cells #[.int .i64 o3, .int .i64 o4, .slice a6 n6 c6] 24) = y4 := ⟨_, rfl⟩
    have hby4 : Below y3.heap.size y3 y4 := by rw [← hy4]; exact balloc (bnil y3) _
    have T26 := T25.up hby4
    clear T25
    have T27 := T26.add (fun wv => wv.cell? ⟨y3.heap.size, 0, none⟩ = some (.int .i64 o3) ∧ wv.cell? ⟨y3.heap.size, 1, none⟩ = some (.int .i64 o4) ∧ wv.cell? ⟨y3.heap.size, 2, none⟩ = some (.slice a6 n6 c6)) (by rw [← hy4]; exact ⟨cnw (by simp) rfl, cnw (by simp) rfl, cnw (by simp) rfl⟩)
    clear T26
    have Hy4 := Lib.hid hy4
    clear hy4 hby4
    have hpair : List.Pairwise (fun x y => Ap (ApI.IV x) (ApI.IV y)) [((some ⟨ga, 0, none⟩, 512, ca) : ApI.It), (some ⟨gb, 0, none⟩, 512, cb), (some ⟨gc, 0, none⟩, 512, cc), (some ⟨gd, 0, none⟩, 512, cd)] := by
      simp only [List.pairwise_cons, List.mem_cons, List.not_mem_nil, or_false, forall_eq_or_imp, forall_eq, List.Pairwise.nil, false_imp_iff, implies_true, and_true]
      refine ⟨⟨?_, ?_, ?_⟩, ⟨?_, ?_⟩, ?_⟩ <;> exact ap_ne (by omega)
    have hown : ∀ x ∈ [((some ⟨ga, 0, none⟩, 512, ca) : ApI.It), (some ⟨gb, 0, none⟩, 512, cb), (some ⟨gc, 0, none⟩, 512, cc), (some ⟨gd, 0, none⟩, 512, cd)], ∃ xs, y4.ownsRow w1.heap.size 3 1 (ApI.IV x) x.2.1 xs := by
      simp only [List.mem_cons, List.not_mem_nil, or_false, forall_eq_or_imp, forall_eq]
      exact ⟨⟨_, (T27.out.1.1.1.1.1.1.2).own⟩, ⟨_, (T27.out.1.1.1.1.1.2).own⟩, ⟨_, (T27.out.1.1.1.1.2).own⟩, ⟨_, (T27.out.1.1.1.2).own⟩⟩
    have hsm : ∀ x ∈ [((some ⟨ga, 0, none⟩, 512, ca) : ApI.It), (some ⟨gb, 0, none⟩, 512, cb), (some ⟨gc, 0, none⟩, 512, cc), (some ⟨gd, 0, none⟩, 512, cd)], x.2.1 * 8 ≤ 140737488350000 := by
      simp only [List.mem_cons, List.not_mem_nil, or_false, forall_eq_or_imp, forall_eq]
      omega
    have HPAIR := Lib.hid hpair
    have HOWN := Lib.hid hown
    have HSM := Lib.hid hsm
    clear hpair hown hsm
    go_wp2_with fail
    rw [Hy4.out]
    refine (apart_row g8 w1.heap.size _ 4 4 [((some ⟨ga, 0, none⟩, 512, ca) : ApI.It), (some ⟨gb, 0, none⟩, 512, cb), (some ⟨gc, 0, none⟩, 512, cc), (some ⟨gd, 0, none⟩, 512, cd)] y4 T27.out.1.1.2 (T27.out.1.1.1.1.1.1.1.2).size HPAIR.out HOWN.out HSM.out (by simp)).mono ?_; rintro e z1 ⟨rfl, hbz⟩
    go_wp2
    go_ret
    exact ⟨rfl, (T27.out.1.1.1.1.1.1.1.1.1.1.1.2).trans (hbz.mono hW1)⟩
  obtain ⟨w, h, rfl, rfl, hp, _, hw3, hh3⟩ := stepD_none (Decidable.byContradiction hsd)
  obtain ⟨WN, hWN⟩ : ∃ WN, w - 2 = WN := ⟨_, rfl⟩
  obtain ⟨HN, hHN⟩ : ∃ HN, h - 2 = HN := ⟨_, rfl⟩
  obtain ⟨K, hK⟩ : ∃ K, WN * HN = K := ⟨_, rfl⟩
  obtain ⟨LL, hLL⟩ : ∃ LL, stepL t w h l = LL := ⟨_, rfl⟩
  have hw2 := hp.w2
  have hh2 := hp.h2
  have hK4 : K ≤ 4096 := by rw [← hK]; exact Nat.mul_le_mul (show WN ≤ 64 by omega) (show HN ≤ 64 by omega)
  have HPP := Lib.hid hp
  have HEQ := Lib.hid (And.intro hWN (And.intro hHN (And.intro hK hLL)))
  clear hsd hp hWN hHN hK hLL hw2 hh2
  have u_p0 : (x3.alloc (.cells #[.slice (some ⟨ga, 0, none⟩) 512 ca, .slice (some ⟨gb, 0, none⟩) 512 cb, .slice (some ⟨gc, 0, none⟩) 512 cc, .slice (some ⟨gd, 0, none⟩) 512 cd] 22)).cell? ⟨W.heap.size, 0, none⟩ = some (.int .i64 w) := by rw [HW9.out.1]; exact T21.out.1.1.1.1.1.1.2.1
  have u_p1 : (x3.alloc (.cells #[.slice (some ⟨ga, 0, none⟩) 512 ca, .slice (some ⟨gb, 0, none⟩) 512 cb, .slice (some ⟨gc, 0, none⟩) 512 cc, .slice (some ⟨gd, 0, none⟩) 512 cd] 22)).cell? ⟨W.heap.size, 1, none⟩ = some (.int .i64 h) := by rw [HW9.out.1]; exact T21.out.1.1.1.1.1.1.2.2.1
  have u_p2 : (x3.alloc (.cells #[.slice (some ⟨ga, 0, none⟩) 512 ca, .slice (some ⟨gb, 0, none⟩) 512 cb, .slice (some ⟨gc, 0, none⟩) 512 cc, .slice (some ⟨gd, 0, none⟩) 512 cd] 22)).cell? ⟨W.heap.size, 2, none⟩ = some (.slice a n c) := by rw [HW9.out.1]; exact T21.out.1.1.1.1.1.1.2.2.2
  go_wp2_with fail
  rw [HW9.out.1, HW9.out.2]
  clear u_p0 u_p1 u_p2
  have sw9 : w1.heap.size ≤ w9.heap.size := (T21.out.1.1.1.1.1.2).size
  refine (plstep_okK w h WN HN K a (some ⟨ga, 0, none⟩) n c ca l t LL w9 R T21.out.1.1.1.1.1.1.1.1.2 T21.out.1.1.1.1.1.1.1.2 (T21.out.1.1.1.1.2).rk HTT.out HPP.out hw3 hh3 HEQ.out.1 HEQ.out.2.1 HEQ.out.2.2.1 HEQ.out.2.2.2).mono ?_; rintro e y1 ⟨gx, cx, rfl, ho, hby1⟩
  have T22 := T21.up hby1
  clear T21
  obtain ⟨logx, higx⟩ := ho.lt
  have T23 := T22.add (fun wv => OwI wv w1.heap.size (some ⟨gx, 0, none⟩) K cx LL) (ho.base sw9)
  clear T22
  clear ho
  obtain ⟨y2, hy2⟩ : ∃ y2, y1.alloc (.cells #[.int .i64 WN, .int .i64 HN, .slice (some ⟨gx, 0, none⟩) K cx] 24) = y2 := ⟨_, rfl⟩
  have hby2 : Below y1.heap.size y1 y2 := by rw [← hy2]; exact balloc (bnil y1) _
  have T24 := T23.up hby2
  clear T23
  have T25 := T24.add (fun wv => wv.cell? ⟨y1.heap.size, 0, none⟩ = some (.int .i64 WN) ∧ wv.cell? ⟨y1.heap.size, 1, none⟩ = some (.int .i64 HN) ∧ wv.cell? ⟨y1.heap.size, 2, none⟩ = some (.slice (some ⟨gx, 0, none⟩) K cx)) (by rw [← hy2]; exact ⟨cnw (by simp) rfl, cnw (by simp) rfl, cnw (by simp) rfl⟩)
  clear T24
  have Hy2 := Lib.hid hy2
  clear hy2 hby2
  have sgx : gx < y2.heap.size := (T25.out.1.2).lt.2
  have sy2 : w1.heap.size ≤ y2.heap.size := (T25.out.1.1.1.1.1.1.1.2).size
  have v_p0 : (y1.alloc (.cells #[.int .i64 WN, .int .i64 HN, .slice (some ⟨gx, 0, none⟩) K cx] 24)).cell? ⟨W.heap.size, 0, none⟩ = some (.int .i64 w) := by rw [Hy2.out]; exact T25.out.1.1.1.1.1.1.1.1.2.1
  have v_p1 : (y1.alloc (.cells #[.int .i64 WN, .int .i64 HN, .slice (some ⟨gx, 0, none⟩) K cx] 24)).cell? ⟨W.heap.size, 1, none⟩ = some (.int .i64 h) := by rw [Hy2.out]; exact T25.out.1.1.1.1.1.1.1.1.2.2.1
  have v_p2 : (y1.alloc (.cells #[.int .i64 WN, .int .i64 HN, .slice (some ⟨gx, 0, none⟩) K cx] 24)).cell? ⟨W.heap.size, 2, none⟩ = some (.slice a n c) := by rw [Hy2.out]; exact T25.out.1.1.1.1.1.1.1.1.2.2.2
  go_wp2_with fail
  rw [Hy2.out]
  refine (plstep_okK w h WN HN K a (some ⟨ga, 0, none⟩) n c ca l t LL y2 R T25.out.1.1.1.1.1.1.1.1.1.1.2 T25.out.1.1.1.1.1.1.1.1.1.2 (T25.out.1.1.1.1.1.1.2).rk HTT.out HPP.out hw3 hh3 HEQ.out.1 HEQ.out.2.1 HEQ.out.2.2.1 HEQ.out.2.2.2).mono ?_; rintro e y3 ⟨gy, cy, rfl, ho, hby3⟩
  clear v_p0 v_p1 v_p2
  have T26 := T25.up hby3
  clear T25
  obtain ⟨logy, higy⟩ := ho.lt
  have T27 := T26.add (fun wv => OwI wv w1.heap.size (some ⟨gy, 0, none⟩) K cy LL) (ho.base sy2)
  clear T26
  clear ho
  obtain ⟨y4, hy4⟩ : ∃ y4, y3.alloc (.cells #[.int .i64 WN, .int .i64 HN, .slice (some ⟨gy, 0, none⟩) K cy] 24) = y4 := ⟨_, rfl⟩
  have hby4 : Below y3.heap.size y3 y4 := by rw [← hy4]; exact balloc (bnil y3) _
  have T28 := T27.up hby4
  clear T27
  have T29 := T28.add (fun wv => wv.cell? ⟨y3.heap.size, 0, none⟩ = some (.int .i64 WN) ∧ wv.cell? ⟨y3.heap.size, 1, none⟩ = some (.int .i64 HN) ∧ wv.cell? ⟨y3.heap.size, 2, none⟩ = some (.slice (some ⟨gy, 0, none⟩) K cy)) (by rw [← hy4]; exact ⟨cnw (by simp) rfl, cnw (by simp) rfl, cnw (by simp) rfl⟩)
  clear T28
  have Hy4 := Lib.hid hy4
  clear hy4 hby4
  have v_x2 : (y3.alloc (.cells #[.int .i64 WN, .int .i64 HN, .slice (some ⟨gy, 0, none⟩) K cy] 24)).cell? ⟨y1.heap.size, 2, none⟩ = some (.slice (some ⟨gx, 0, none⟩) K cx) := by rw [Hy4.out]; exact T29.out.1.1.2.2.2
  have v_y2 : (y3.alloc (.cells #[.int .i64 WN, .int .i64 HN, .slice (some ⟨gy, 0, none⟩) K cy] 24)).cell? ⟨y3.heap.size, 2, none⟩ = some (.slice (some ⟨gy, 0, none⟩) K cy) := by rw [Hy4.out]; exact T29.out.2.2.2
  have HOL := Lib.hid (T29.out.1.1.1.1.2)
  have HS8 : Hid (g8 ≤ y4.heap.size) := by show _ ≤ _; have := (T29.out.1.1.1.1.2).lt _ rfl; omega
  have HOLy : Hid ((y3.alloc (.cells #[.int .i64 WN, .int .i64 HN, .slice (some ⟨gy, 0, none⟩) K cy] 24)).ownsRow g8 22 1 (.slice (some ⟨g8, 0, none⟩) 4 4) 4 ([((some ⟨ga, 0, none⟩, 512, ca) : ApI.It), (some ⟨gb, 0, none⟩, 512, cb), (some ⟨gc, 0, none⟩, 512, cc), (some ⟨gd, 0, none⟩, 512, cd)].map ApI.IV)) := by show World.ownsRow _ _ _ _ _ _ _; rw [Hy4.out]; exact HOL.out
  have HS8y : Hid (g8 ≤ (y3.alloc (.cells #[.int .i64 WN, .int .i64 HN, .slice (some ⟨gy, 0, none⟩) K cy] 24)).heap.size) := by show _ ≤ _; rw [Hy4.out]; exact HS8.out
  go_wp2_with (first
    | (at_builtin; refine apl rfl _ _ _ rfl g8 et_ints _ 4 _ HOLy.out rfl 2 _ _ rfl (by simp) rfl rfl (by unfold maxLen; omega) (by omega) HS8y.out ?_; intro a14 c14 w14 h14; rw [Hy4.out] at h14))
  clear v_x2 v_y2
  have hb14 := h14.below
  have ho14 := h14.own
  obtain ⟨gl, rfl, _, _⟩ := own_form ho14 (by omega)
  have hbM : Below w1.heap.size w1 w14 := (T29.out.1.1.1.1.1.1.1.1.1.2).trans (hb14.mono sz8)
  have hbW : Below W.heap.size W w14 := (T29.out.1.1.1.1.1.1.1.1.1.1.1.1.1.2).trans (hb14.mono (by omega))
  have T30 := Tk.nil w14
  have T31 := T30.add (fun wv => Below W.heap.size W wv) (hbW)
  clear T30
  have T32 := T31.add (fun wv => Below w1.heap.size w1 wv) (hbM)
  clear T31
  have T33 := T32.add (fun wv => OwI wv w1.heap.size (some ⟨ga, 0, none⟩) 512 ca t) (⟨h14.keeps (T29.out.1.1.1.1.1.1.1.1.2).own (ap_neq (T29.out.1.1.1.1.2) (T29.out.1.1.1.1.1.1.1.1.2).own)⟩)
  clear T32
  have T34 := T33.add (fun wv => OwI wv w1.heap.size (some ⟨gb, 0, none⟩) 512 cb t) (⟨h14.keeps (T29.out.1.1.1.1.1.1.1.2).own (ap_neq (T29.out.1.1.1.1.2) (T29.out.1.1.1.1.1.1.1.2).own)⟩)
  clear T33
  have T35 := T34.add (fun wv => OwI wv w1.heap.size (some ⟨gc, 0, none⟩) 512 cc t) (⟨h14.keeps (T29.out.1.1.1.1.1.1.2).own (ap_neq (T29.out.1.1.1.1.2) (T29.out.1.1.1.1.1.1.2).own)⟩)
  clear T34
  have T36 := T35.add (fun wv => OwI wv w1.heap.size (some ⟨gd, 0, none⟩) 512 cd t) (⟨h14.keeps (T29.out.1.1.1.1.1.2).own (ap_neq (T29.out.1.1.1.1.2) (T29.out.1.1.1.1.1.2).own)⟩)
  clear T35
  have T37 := T36.add (fun wv => OwI wv w1.heap.size (some ⟨gx, 0, none⟩) K cx LL) (⟨h14.keeps (T29.out.1.1.1.2).own (ap_neq (T29.out.1.1.1.1.2) (T29.out.1.1.1.2).own)⟩)
  clear T36
  have T38 := T37.add (fun wv => OwI wv w1.heap.size (some ⟨gy, 0, none⟩) K cy LL) (⟨h14.keeps (T29.out.1.2).own (ap_neq (T29.out.1.1.1.1.2) (T29.out.1.2).own)⟩)
  clear T37
  have T39 := T38.add (fun wv => wv.ownsRow g8 22 1 (.slice (some ⟨gl, 0, none⟩) 6 c14) 6 ([((some ⟨ga, 0, none⟩, 512, ca) : ApI.It), (some ⟨gb, 0, none⟩, 512, cb), (some ⟨gc, 0, none⟩, 512, cc), (some ⟨gd, 0, none⟩, 512, cd), (some ⟨gx, 0, none⟩, K, cx), (some ⟨gy, 0, none⟩, K, cy)].map ApI.IV)) (ho14)
  clear T38
  clear hbM hbW hb14 ho14 h14 T29
  have hpair : List.Pairwise (fun x y => Ap (ApI.IV x) (ApI.IV y)) [((some ⟨ga, 0, none⟩, 512, ca) : ApI.It), (some ⟨gb, 0, none⟩, 512, cb), (some ⟨gc, 0, none⟩, 512, cc), (some ⟨gd, 0, none⟩, 512, cd), (some ⟨gx, 0, none⟩, K, cx), (some ⟨gy, 0, none⟩, K, cy)] := by
    simp only [List.pairwise_cons, List.mem_cons, List.not_mem_nil, or_false, forall_eq_or_imp, forall_eq, List.Pairwise.nil, false_imp_iff, implies_true, and_true]
    refine ⟨⟨?_, ?_, ?_, ?_, ?_⟩, ⟨?_, ?_, ?_, ?_⟩, ⟨?_, ?_, ?_⟩, ⟨?_, ?_⟩, ?_⟩ <;> exact ap_ne (by omega)
  have hown : ∀ x ∈ [((some ⟨ga, 0, none⟩, 512, ca) : ApI.It), (some ⟨gb, 0, none⟩, 512, cb), (some ⟨gc, 0, none⟩, 512, cc), (some ⟨gd, 0, none⟩, 512, cd), (some ⟨gx, 0, none⟩, K, cx), (some ⟨gy, 0, none⟩, K, cy)], ∃ xs, w14.ownsRow w1.heap.size 3 1 (ApI.IV x) x.2.1 xs := by
    simp only [List.mem_cons, List.not_mem_nil, or_false, forall_eq_or_imp, forall_eq]
    exact ⟨⟨_, (T39.out.1.1.1.1.1.1.2).own⟩, ⟨_, (T39.out.1.1.1.1.1.2).own⟩, ⟨_, (T39.out.1.1.1.1.2).own⟩, ⟨_, (T39.out.1.1.1.2).own⟩, ⟨_, (T39.out.1.1.2).own⟩, ⟨_, (T39.out.1.2).own⟩⟩
  have hsm : ∀ x ∈ [((some ⟨ga, 0, none⟩, 512, ca) : ApI.It), (some ⟨gb, 0, none⟩, 512, cb), (some ⟨gc, 0, none⟩, 512, cc), (some ⟨gd, 0, none⟩, 512, cd), (some ⟨gx, 0, none⟩, K, cx), (some ⟨gy, 0, none⟩, K, cy)], x.2.1 * 8 ≤ 140737488350000 := by
    simp only [List.mem_cons, List.not_mem_nil, or_false, forall_eq_or_imp, forall_eq]
    omega
  have HPAIR := Lib.hid hpair
  have HOWN := Lib.hid hown
  have HSM := Lib.hid hsm
  clear hpair hown hsm
  go_wp2_with fail
  refine (apart_row gl w1.heap.size _ 6 c14 [((some ⟨ga, 0, none⟩, 512, ca) : ApI.It), (some ⟨gb, 0, none⟩, 512, cb), (some ⟨gc, 0, none⟩, 512, cc), (some ⟨gd, 0, none⟩, 512, cd), (some ⟨gx, 0, none⟩, K, cx), (some ⟨gy, 0, none⟩, K, cy)] w14 T39.out.2 (T39.out.1.1.1.1.1.1.1.2).size HPAIR.out HOWN.out HSM.out (by simp)).mono ?_; rintro e z1 ⟨rfl, hbz⟩
  go_wp2
  go_ret
  exact ⟨rfl, (T39.out.1.1.1.1.1.1.1.1.2).trans (hbz.mono hW1)⟩
end Go.Proofs.YtocfkmdoalhjmaaDoor
namespace Go.Proofs.YtocfkmdoalhjmaaDoor
open Go.ChangeShapes Go.WideShapes Go.ChangeAt Go.RowKit
set_option linter.unusedVariables false

theorem door_met (os : Os) (args : Array Value) : laidMetH Tryd.prog Rows.planeKeepsRow.laid ((World.doorLaid Tryd.prog 4000 os).forCall (fun _ _ => 0) ⟨#[], args, []⟩).memory :=
  by rw [MakeChecks.laidMetH_plain _ _ _ (by kernel_rfl)]; exact laidMet_of_run' 8 (by kernel_rfl) (by kernel_rfl)

set_option maxRecDepth 100000 in
theorem lifted (os : Os) (started : os.Started) (H : Type) (enc : TypeId × Value → H) :
    ReturnsInHanded {} Tryd.checked os 4 .any (fun w args => (Rows.planeKeepsSpec.pre enc Tryd.prog Tryd.f4 Rows.planeKeepsRow.domain false w args ∧ laidMetH Tryd.prog Rows.planeKeepsRow.laid w) ∧ sizedMet enc Tryd.prog Tryd.f4 (OpenSpec.ofChange Rows.planeKeepsSpec) false w args)
      (Rows.planeKeepsSpec.post enc Tryd.prog Tryd.f4 false true false false) := by
  refine returnsInHanded_of_change_and (C := Tryd.checked) (X := fun w _ => laidMetH Tryd.prog Rows.planeKeepsRow.laid w) (fun _ _ _ hh h => h.of_heap hh) own started (by kernel_rfl) Tryd.func4
    (ChangeSpec.witness_shaped (enc := enc) (C := Tryd.checked) (os := os) (X := fun w _ => laidMetH Tryd.prog Rows.planeKeepsRow.laid w) false (World.doorLaid Tryd.prog 4000 os) #[.string ByteArray.empty, .agg #[.int .i64 0, .int .i64 0, .slice none 0 0]] 8 rfl (World.shaped_of_RefB (by kernel_rfl) (by kernel_rfl)) (by kernel_rfl) (by kernel_rfl) (by kernel_rfl) (door_met os _)) ?_
  intro W base args ds gs before hval0 hW hcnd hzz hL hSH
  have hval : ∀ (j : Nat) t v, Tryd.f4.params[j]? = some t → args[j]? = some v → Value.okWide Tryd.prog W .any base t v := hval0
  have hW' := hW
  obtain ⟨p, q, hA0, hV, rfl, hfz, hnd⟩ := hW
  have hA : DataW.TrodAll enc Tryd.prog W 0 (fun _ => true) true Tryd.f4.params.toList args.toList ds p := hA0
  rw [Tryd.params4] at hA hval hzz
  obtain ⟨v0, vs0, d0, ds0, p0, q0, hargs, rfl, rfl, h0, r0⟩ := trodAll_cons hA
  obtain ⟨v1, vs1, d1, ds1, p1, q1, rfl, rfl, rfl, h1, r1⟩ := trodAll_cons r0
  obtain ⟨rfl, rfl, rfl⟩ := trodAll_nil r1
  obtain rfl : args = #[v0, v1] := by cases args; simp_all
  obtain ⟨rfl, rfl⟩ := trodVars_none hV
  obtain ⟨s0, rfl, rfl, rfl, w0⟩ := Go.ChangeMaps.open_string Tryd.underlying9 (hval 0 9 v0 rfl rfl) h0
  have k1 := h1
  have lt1 : ∀ x ∈ p1, x.block < W.heap.size := by obtain ⟨m, hm⟩ := k1; exact DataW.trod_lt m _ _ _ hm
  obtain ⟨pw1, ph1, s1, len1, cap1, l1, rfl, hM1, hx1⟩ := open_patchS (j := 1) (hval 1 24 v1 rfl rfl) h1 hzz rfl rfl
  obtain ⟨R, hS⟩ := sent_of_laid (show laidMet Tryd.prog _ W by rw [MakeChecks.laidMetH_plain _ _ _ (by kernel_rfl)] at hL; exact hL)
  clear hA0 hval0
  refine (plane_keeps s0 pw1 ph1 s1 len1 cap1 l1 W R hS w0 hM1 hx1).mono fun e W' ⟨he, bel⟩ => ?_
  subst he
  exact ⟨_, rfl, _, _, _, [], _, [], hW', trodAll_mk1 (shut_bool Tryd.underlying4 _), (trodAll_cons_mk (Go.ChangeMaps.shut_string Tryd.underlying9 w0) (trodAll_cons_mk (Below.trod laidOut (by kernel_rfl) (of_decide_eq_true (by kernel_rfl)) k1 bel lt1) trodAll_mk0)), rfl, bel.frame _, fun h => by cases h⟩

theorem row_holds : Rows.PlaneKeepsSaid :=
  OpenClaim.holds_of_wide 4 Tryd.f4 rfl rfl rfl rfl rfl rfl rfl ⟨rfl, rfl, rfl, rfl, rfl⟩ rfl rfl rfl rfl rfl (by kernel_rfl) Tryd.func4 (by kernel_rfl)
    (of_decide_eq_true (by kernel_rfl)) (by unfold Func.isWrapper; first | (rw [if_pos (by decide +kernel)]; kernel_rfl) | (rw [if_neg (by decide +kernel)]; exact ⟨rfl, rfl⟩))
    (fun os started H enc _ => lifted os started H enc)

theorem card_holds : Rows.PlaneKeepsCardSaid :=
  Claim7.holds_tied_plain_at .later [] Rows.planeKeepsCard.laidKinds true Rows.planeKeepsCard.stood.harness true
    row_holds (fun _ h => by cases h) (by kernel_rfl) (fun _ h => by cases h) planeKeeps_row_tie rfl ⟨rfl, rfl⟩ (by kernel_rfl) rfl
    (fun f fn hf hfn => by
      obtain rfl : f = 4 := Option.some.inj ((show Tryd.prog.funcNamed "eden/edenlaw22.PlaneKeeps" = some 4 by kernel_rfl).symm.trans hf) |>.symm
      obtain rfl : fn = Tryd.f4 := (Option.some.inj (Tryd.func4.symm.trans hfn)).symm
      exact ⟨by kernel_rfl, fun j t ht => by
        rw [Tryd.params4] at ht
        have hm : t ∈ [9, 24] := by simpa using Array.mem_of_getElem? ht
        have hall : ([9, 24].all fun u => !Tryd.prog.wantsStandIn u) = true := by kernel_rfl
        exact (show Tryd.prog.wantsStandIn t = false by simpa using List.all_eq_true.1 hall t hm)⟩)
    (by kernel_rfl)
#print axioms card_holds
end Go.Proofs.YtocfkmdoalhjmaaDoor
