/- Package bag: the sets it keeps, in memory; put. -/
import Derived.Test.YtiglilecmieelaaGreatDoorBagD
import Derived.Maps.OwnSet
import Derived.Maps.OwnOps
import Derived.StringKeys
namespace Go.Proofs.YtiglilecmieelaaGreatDoor
open Go.RowKit
set_option linter.unusedVariables false
set_option maxRecDepth 100000

/-- a set's text as a key -/
def kB (Wd m : Nat) : Lit := .string (strOfNums (keyP m (8 * Wd))).data.toList
theorem kB_lit (Wd m : Nat) : WideAt.IsKeyLit (kB Wd m) := trivial
theorem keyP_byte {m t : Nat} : ∀ x ∈ keyP m t, 0 ≤ x ∧ x ≤ 255 := by
  intro x hx
  obtain ⟨i, _, rfl⟩ := List.mem_map.1 hx
  have : byteB m i < 256 := Nat.mod_lt _ (by decide)
  omega
theorem kB_inj {Wd m m' : Nat} (h1 : m < 2 ^ (64 * Wd)) (h2 : m' < 2 ^ (64 * Wd)) (e : kB Wd m = kB Wd m') : m = m' := by
  have e2 := Lit.string.inj e
  have e3 : strOfNums (keyP m (8 * Wd)) = strOfNums (keyP m' (8 * Wd)) := by
    have e4 : (strOfNums (keyP m (8 * Wd))).data = (strOfNums (keyP m' (8 * Wd))).data := Array.toList_inj.1 e2
    exact ByteArray.ext e4
  have h := strOfNums_eq (keyP_byte (m := m) (t := 8 * Wd)) (keyP_byte (m := m') (t := 8 * Wd))
  rw [e3, beq_self_eq_true] at h
  have e5 : keyP m (8 * Wd) = keyP m' (8 * Wd) := of_decide_eq_true h.symm
  refine keyB_inj h1 h2 ?_
  unfold keyB
  apply List.map_congr_left
  intro i hi
  have hi' : i < 8 * Wd := List.mem_range.1 hi
  have := congrArg (fun l : List Int => l.getD i 0) e5
  simp [keyP, hi'] at this
  omega
def mpB (Wd : Nat) (S : List Nat) : Nat → DataW Unit
  | 0 => .map []
  | t + 1 => (mpB Wd S t).put (kB Wd (S.getD t 0)) (.lit (.int .i64 (t : Nat)))
theorem mpB_map (Wd : Nat) (S : List Nat) : ∀ t, Maps.IsMap (mpB Wd S t)
  | 0 => ⟨[], rfl⟩
  | t + 1 => by
    obtain ⟨es, he⟩ := mpB_map Wd S t
    show ∃ es, (mpB Wd S t).put (kB Wd (S.getD t 0)) _ = .map es
    rw [he]
    exact ⟨_, rfl⟩
theorem mpB_congr (Wd : Nat) {S S' : List Nat} : ∀ t, (∀ i, i < t → S.getD i 0 = S'.getD i 0) → mpB Wd S t = mpB Wd S' t
  | 0, _ => rfl
  | t + 1, h => by
    show (mpB Wd S t).put _ _ = (mpB Wd S' t).put _ _
    rw [mpB_congr Wd t fun i hi => h i (by omega), h t (by omega)]
theorem has_mpB (Wd : Nat) (S : List Nat) (v : Nat) : ∀ t, Maps.has (mpB Wd S t) (kB Wd v) = true ↔ ∃ i, i < t ∧ kB Wd (S.getD i 0) = kB Wd v
  | 0 => by
    constructor
    · intro h; cases h
    · rintro ⟨i, h, _⟩; omega
  | t + 1 => by
    show Maps.has ((mpB Wd S t).put (kB Wd (S.getD t 0)) _) (kB Wd v) = true ↔ _
    by_cases e : kB Wd v = kB Wd (S.getD t 0)
    · rw [e, Maps.has_put_same (mpB_map Wd S t) (kB_lit _ _)]
      exact ⟨fun _ => ⟨t, by omega, rfl⟩, fun _ => rfl⟩
    · rw [Maps.has_put_other e, has_mpB Wd S v t]
      constructor
      · rintro ⟨i, hi, he⟩; exact ⟨i, by omega, he⟩
      · rintro ⟨i, hi, he⟩
        by_cases e2 : i = t
        · subst e2; exact absurd he.symm e
        · exact ⟨i, by omega, he⟩
theorem at_mpB (Wd : Nat) (S : List Nat) (v : Nat) (z : DataW Unit) : ∀ t, (∀ i j, i < j → j < t → kB Wd (S.getD i 0) ≠ kB Wd (S.getD j 0)) → ∀ i, i < t → kB Wd (S.getD i 0) = kB Wd v → (mpB Wd S t).atKey (kB Wd v) z = .lit (.int .i64 (i : Nat))
  | 0, _, i, h, _ => by omega
  | t + 1, hd, i, h, he => by
    show ((mpB Wd S t).put (kB Wd (S.getD t 0)) _).atKey (kB Wd v) z = _
    by_cases e : kB Wd v = kB Wd (S.getD t 0)
    · have e3 : i = t := by
        rcases Nat.lt_or_ge i t with h1 | h1
        · exact absurd (he.trans e) (hd i t h1 (by omega))
        · omega
      subst e3
      rw [e, Maps.atKey_put_same (mpB_map Wd S i) (kB_lit _ _)]
    · rw [Maps.atKey_put_other e]
      have e3 : i ≠ t := fun e2 => e (by rw [← he, e2])
      exact at_mpB Wd S v z t (fun a b h1 h2 => hd a b h1 (by omega)) i (by omega) he
theorem lawSB : Maps.Keyed Tryz.prog 9 := Maps.string_keyed Tryz.underlying9
theorem zeroIB (w : World) : (zeroValue 3).run Tryz.prog w = .ok (.int .i64 0) w := by kernel_rfl
abbrev MapB (w : World) (b n : Nat) (D : DataW Unit) : Prop := w.ownsMap Tryz.prog 9 (plainElem (H := Unit) Tryz.prog 3) b n D
theorem mapB_of {w w' : World} {b n : Nat} {D : DataW Unit} (h : MapB w b n D) (hb : w'.heap[b]? = w.heap[b]?) : MapB w' b n D := by
  obtain ⟨es, clock, h1, h2⟩ := h
  exact ⟨es, clock, hb.trans h1, h2⟩
theorem mapB_obj {w : World} {b n : Nat} {D : DataW Unit} (h : MapB w b n D) : ∃ es clock, w.heap[b]? = some (.map es clock) := by
  obtain ⟨es, clock, h1, _⟩ := h
  exact ⟨es, clock, h1⟩
theorem wf_natB {t : Nat} (h : t ≤ 100000) : (Lit.int .i64 (t : Int)).wf = true := by
  simp only [Lit.wf, IntKind.min, IntKind.max, IntKind.signed, IntKind.bits, Bool.and_eq_true, decide_eq_true_eq, if_true]
  omega
theorem own_neM {w : World} {B sz n g : Nat} {e : TypeId} {v : Value} {cs : List Value} {es : Array MapEntry} {ck : Nat} (h : w.ownsRow B e sz v n cs) (hg : w.heap[g]? = some (.map es ck)) : v.ownBlock ≠ some g := by
  intro hb
  rcases h.2 with ⟨rfl, _⟩ | ⟨k, _, cur, rfl, _, q1, _⟩
  · cases hb
  · simp only [Value.ownBlock, Option.some.injEq] at hb
    subst hb
    rw [hg] at q1
    cases q1
/-- the parts of a bag -/
def BagObj : Obj → Prop
  | .cells _ t _ => t = 106 ∨ t = 107 ∨ t = 134
  | .map _ _ => True
  | _ => False
/-- only a bag's parts are turned -/
def KeepN (w w' : World) : Prop := w.heap.size ≤ w'.heap.size ∧ ∀ (b : Nat) (o : Obj), w.heap[b]? = some o → ¬ BagObj o → w'.heap[b]? = some o
/-- no part of a bag is turned -/
def KeepY (w w' : World) : Prop := w.heap.size ≤ w'.heap.size ∧ ∀ (b : Nat) (o : Obj), w.heap[b]? = some o → BagObj o → w'.heap[b]? = some o
theorem KeepN.of {w w' : World} (h : Below w.heap.size w w') : KeepN w w' := ⟨h.size, fun b o hb _ => (h.block b (heap_ltR hb)).trans hb⟩
theorem KeepY.of {w w' : World} (h : Below w.heap.size w w') : KeepY w w' := ⟨h.size, fun b o hb _ => (h.block b (heap_ltR hb)).trans hb⟩
theorem KeepN.trans {a b c : World} (h : KeepN a b) (k : KeepN b c) : KeepN a c := ⟨Nat.le_trans h.1 k.1, fun p o hp ho => k.2 p o (h.2 p o hp ho) ho⟩
theorem KeepY.trans {a b c : World} (h : KeepY a b) (k : KeepY b c) : KeepY a c := ⟨Nat.le_trans h.1 k.1, fun p o hp ho => k.2 p o (h.2 p o hp ho) ho⟩
/-- a bag in memory -/
structure BagSt (w : World) (B gB gM n Wd : Nat) (S : List Nat) (rw_ : Nat → Nat) (al : Option Addr) (cl : Nat) : Prop where
  box : w.heap[gB]? = some (.cells #[.int .i64 n, .slice al S.length cl, .map (some gM)] 106)
  sets : w.ownsRow B 107 1 (.slice al S.length cl) S.length ((List.range S.length).map fun j => .slice (some ⟨rw_ j, 0, none⟩) Wd Wd)
  row : ∀ j, j < S.length → w.heap[rw_ j]? = some (.cells (wordsV Wd (S.getD j 0)).toArray 134)
  map : MapB w gM S.length (mpB Wd S S.length)
  lay : B ≤ gB ∧ B ≤ gM
  nd : S.Nodup
  bd : ∀ x ∈ S, x < 2 ^ (64 * Wd)
section
variable {w w' : World} {B gB gM n Wd : Nat} {S : List Nat} {rw_ : Nat → Nat} {al : Option Addr} {cl : Nat}
theorem BagSt.keep (h : BagSt w B gB gM n Wd S rw_ al cl) (hk : KeepY w w') : BagSt w' B gB gM n Wd S rw_ al cl := by
  refine ⟨hk.2 _ _ h.box (.inl rfl), ?_, fun j hj => hk.2 _ _ (h.row j hj) (.inr (.inr rfl)), ?_, h.lay, h.nd, h.bd⟩
  · have hs := h.sets
    refine ⟨hs.1, ?_⟩
    rcases hs.2 with hn | ⟨g, cap, cur, e, hbg, hg, rest⟩
    · exact .inl hn
    · exact .inr ⟨g, cap, cur, e, hbg, hk.2 _ _ hg (.inr (.inl rfl)), rest⟩
  · obtain ⟨es, ck, h1, h2⟩ := h.map
    exact ⟨es, ck, hk.2 _ _ h1 trivial, h2⟩
theorem BagSt.up (h : BagSt w B gB gM n Wd S rw_ al cl) (hb : Below w.heap.size w w') : BagSt w' B gB gM n Wd S rw_ al cl := h.keep (KeepY.of hb)
theorem BagSt.cells (h : BagSt w B gB gM n Wd S rw_ al cl) : w.cell? ⟨gB, 0, none⟩ = some (.int .i64 n) ∧ w.cell? ⟨gB, 1, none⟩ = some (.slice al S.length cl) ∧ w.cell? ⟨gB, 2, none⟩ = some (.map (some gM)) ∧ w.frozen? ⟨gB, 1, none⟩ = false := by
  have := h.box
  simp [World.cell?, World.frozen?, this]
theorem nodup_at {l : List Nat} (h : l.Nodup) {i j : Nat} (hi : i < j) (hj : j < l.length) : l.getD i 0 ≠ l.getD j 0 := by
  have := List.pairwise_iff_getElem.1 h i j (by omega) hj hi
  simpa [List.getD_eq_getElem?_getD, List.getElem?_eq_getElem hj, List.getElem?_eq_getElem (show i < l.length by omega)] using this
theorem getD_memB {a : List Nat} {i : Nat} (hi : i < a.length) : a.getD i 0 ∈ a := by
  rw [List.getD_eq_getElem?_getD, List.getElem?_eq_getElem hi]
  exact List.getElem_mem hi
theorem BagSt.has (h : BagSt w B gB gM n Wd S rw_ al cl) {m : Nat} (hm : m < 2 ^ (64 * Wd)) : Maps.has (mpB Wd S S.length) (kB Wd m) = true ↔ m ∈ S := by
  rw [has_mpB]
  constructor
  · rintro ⟨i, hi, he⟩
    rw [← kB_inj (h.bd _ (getD_memB hi)) hm he]
    exact getD_memB hi
  · intro hmem
    obtain ⟨i, hi, e⟩ := List.getElem_of_mem hmem
    exact ⟨i, hi, by rw [List.getD_eq_getElem?_getD, List.getElem?_eq_getElem hi]; simp [e]⟩
theorem BagSt.at (h : BagSt w B gB gM n Wd S rw_ al cl) {i : Nat} (hi : i < S.length) : (mpB Wd S S.length).atKey (kB Wd (S.getD i 0)) (.lit (.int .i64 0)) = .lit (.int .i64 (i : Nat)) :=
  at_mpB Wd S _ _ S.length (fun a b h1 h2 e => nodup_at h.nd h1 h2 (kB_inj (h.bd _ (getD_memB (by omega))) (h.bd _ (getD_memB h2)) e)) i hi rfl
end
theorem et_u64s : ET Tryz.prog 104 107 (.slice none 0 0) 1 24 := ⟨Tryz.underlying104, info_parts (by kernel_rfl), rfl, by decide⟩
end Go.Proofs.YtiglilecmieelaaGreatDoor
