/- edenref03.Text, Parse, Times and package word's for all arguments. -/
import Derived.Test.YtnmegpplfbkpcaaDoorR03D
import Derived.Test.YtnmegpplfbkpcaaDoorWordC
import Derived.Test.YtnmegpplfbkpcaaDoorWordR
namespace Go.Proofs.YtnmegpplfbkpcaaDoor
open Go.RowKit
set_option linter.unusedVariables false
set_option maxRecDepth 100000

/-- the places ahead of i are written -/
def PutTo (F : Nat → Int) (n : Nat) (cur : List Int) (i : Nat) : Prop := cur.length = n ∧ ∀ q, q < i → cur.getD q 0 = F q
theorem putTo_set {F : Nat → Int} {n i : Nat} {cur : List Int} (h : PutTo F n cur i) (hi : i < n) : PutTo F n (cur.set i (F i)) (i + 1) := by
  refine ⟨by simpa using h.1, fun q hq => ?_⟩
  by_cases e : q = i
  · subst e
    rw [List.getD_eq_getElem?_getD, List.getElem?_set_self (by rw [h.1]; exact hi)]; rfl
  · have := h.2 q (by omega)
    rw [List.getD_eq_getElem?_getD, List.getElem?_set_ne (fun e2 => e e2.symm), ← List.getD_eq_getElem?_getD]
    exact this
theorem putTo_end {F : Nat → Int} {n : Nat} {cur l : List Int} (h : PutTo F n cur n) (hl : l.length = n) (hF : ∀ q, q < n → l.getD q 0 = F q) : cur = l := by
  apply List.ext_getElem
  · rw [h.1, hl]
  · intro i h1 h2
    have e1 := h.2 i (by rw [← h.1]; exact h1)
    have e2 := hF i (by rw [← hl]; exact h2)
    simp [h1] at e1
    simp [h2] at e2
    rw [e1, e2]
theorem made_u8z (n : Nat) : (madeCells (Value.int .u8 0).cells (n * 1)).toList = (List.replicate n (0 : Int)).map (Value.int .u8) := by
  rw [show (Value.int .u8 0).cells = #[.int .u8 0] from by rfl, toList_madeCells_one]
  simp
theorem textL_at (l : List Int) (q : Nat) (h : q < l.length) : (textL l).getD q 0 = 48 + l.getD q 0 := by simp [textL, h]
theorem parL_at (s : ByteArray) (q : Nat) (h : q < s.size) : (parL s).getD q 0 = (sB s).getD q 0 - 48 := by simp [parL, sB_len, h]
theorem repL_add (l : List Int) (n i : Nat) (hn : n = l.length) : repL l (n * (i + 1)) = repL l (n * i) ++ l := by
  apply List.ext_getElem
  · rw [repL_len, List.length_append, repL_len, Nat.mul_succ, hn]
  · intro j h1 h2
    have e1 := repL_at l (n * (i + 1)) j (by rw [repL_len] at h1; exact h1)
    simp [h1] at e1
    rw [e1]
    by_cases hj : j < n * i
    · rw [List.getElem_append_left (by rw [repL_len]; exact hj)]
      have e2 := repL_at l (n * i) j hj
      simp [show j < (repL l (n * i)).length by rw [repL_len]; exact hj] at e2
      rw [e2]
    · have hjl : j - n * i < l.length := by rw [repL_len, Nat.mul_succ] at h1; omega
      rw [List.getElem_append_right (by rw [repL_len]; omega)]
      have e3 : j % l.length = j - n * i := by
        rw [← hn]
        have : j = (j - n * i) + n * i := by omega
        rw [this, Nat.add_mul_mod_self_left, Nat.add_sub_cancel]
        exact Nat.mod_eq_of_lt (by rw [hn] at *; omega)
      simp only [e3, repL_len]
      simp [hjl]

/-- a text and an error: the program's, the document's -/
def ProT (R : Nat → Addr) (W : World) (s : ByteArray) (f : ErrD) (e : Ending) (w' : World) : Prop :=
  ∃ ev, e = .returned (.tuple #[.string s, ev]) ∧ EC R w' ev f ∧ Below W.heap.size W w'
def RefT (W : World) (s : ByteArray) (f : ErrD) (e : Ending) (w' : World) : Prop :=
  ∃ N a1 n1 c1 a2 n2 c2, e = .returned (.tuple #[.string s, .agg #[.int .i64 N, .slice a1 n1 c1, .slice a2 n2 c2]]) ∧ WC w' (.agg #[.int .i64 N, .slice a1 n1 c1, .slice a2 n2 c2]) f ∧ Below W.heap.size W w'
def TextE (k : Int) (l : List Int) (s : ByteArray) (f : ErrD) : Prop :=
  (∃ y, chkErr k l = some y ∧ s = ByteArray.empty ∧ f = some ([(opWord, y.1)], y.2)) ∨ (chkErr k l = none ∧ s = strOfNums (textL l) ∧ f = none)
theorem textE_or (k : Int) (l : List Int) : ∃ s f, TextE k l s f := by
  cases h : chkErr k l with
  | some x => exact ⟨_, _, .inl ⟨x, h, rfl, rfl⟩⟩
  | none => exact ⟨_, _, .inr ⟨h, rfl, rfl⟩⟩
theorem ptext (k : Int) (a : Option Addr) (n c : Nat) (l : List Int) (W : World) (R : Nat → Addr) (hS : Sent W R) (hG : Glob W R) (hR : RK .i64 W a n l) (hm : n ≤ maxLen) (s : ByteArray) (f : ErrD) (hf : TextE k l s f) :
    Calls Tryd.prog 52 #[.int .i64 k, .slice a n c] W (ProT R W s f) := by
  rcases hf with ⟨x, hx, rfl, rfl⟩ | ⟨hc, rfl, rfl⟩
  · refine (text_err k a n c l W R hG hR hm x hx).mono ?_; rintro e w' ⟨g, rfl, he, hb⟩
    exact ⟨_, rfl, ec_err (hS.up hb) he, hb⟩
  · refine (text_ok k a n c l W R hG hR hm hc).mono ?_; rintro e w' ⟨rfl, hb⟩
    exact ⟨_, rfl, rfl, hb⟩
def ParseE (k : Int) (s : ByteArray) (l : List Int) (f : ErrD) : Prop :=
  (∃ y, parErr k s = some y ∧ l = [] ∧ f = some ([(opWord, y.1)], y.2)) ∨ (parErr k s = none ∧ l = parL s ∧ f = none)
theorem parseE_or (k : Int) (s : ByteArray) : ∃ l f, ParseE k s l f := by
  cases h : parErr k s with
  | some x => exact ⟨_, _, .inl ⟨x, h, rfl, rfl⟩⟩
  | none => exact ⟨_, _, .inr ⟨h, rfl, rfl⟩⟩
theorem parseE_some {k : Int} {s : ByteArray} {l : List Int} {f : ErrD} (h : ParseE k s l f) {y : Int × Int} (hy : parErr k s = some y) : l = [] ∧ f = some ([(opWord, y.1)], y.2) := by
  rcases h with ⟨x, hx, h1, h2⟩ | ⟨hx, _⟩
  · rw [hy] at hx; cases hx; exact ⟨h1, h2⟩
  · rw [hy] at hx; cases hx
theorem parseE_none {k : Int} {s : ByteArray} {l : List Int} {f : ErrD} (h : ParseE k s l f) (hy : parErr k s = none) : l = parL s ∧ f = none := by
  rcases h with ⟨x, hx, h1, h2⟩ | ⟨_, h2⟩
  · rw [hy] at hx; cases hx
  · exact h2
theorem parseE_len {k : Int} {s : ByteArray} {l : List Int} {f : ErrD} (h : ParseE k s l f) : l.length ≤ 4096 := by
  rcases h with ⟨x, hx, rfl, h2⟩ | ⟨hx, rfl, h2⟩
  · exact Nat.zero_le _
  · rw [parL_len]; exact (par_none hx).2.2.1
theorem pparse (k : Int) (s : ByteArray) (W : World) (R : Nat → Addr) (hS : Sent W R) (hG : Glob W R) (hm : s.size ≤ maxLen) (l : List Int) (f : ErrD) (hf : ParseE k s l f) :
    Calls Tryd.prog 40 #[.int .i64 k, .string s] W (ProL R W l f) := by
  rcases hf with ⟨x, hx, rfl, rfl⟩ | ⟨hc, rfl, rfl⟩
  · refine (parse_err k s W R hG hm x hx).mono ?_; rintro e w' ⟨g, rfl, he, hb⟩
    exact ⟨_, _, _, _, rfl, RK.nil, ec_err (hS.up hb) he, hb⟩
  · refine (parse_ok k s W R hc).mono ?_; rintro e w' ⟨a, c, rfl, ho, hb⟩
    exact ⟨_, _, _, _, rfl, RK.of_own ho, rfl, hb⟩
def TimesE (l : List Int) (t : Int) (lr : List Int) (f : ErrD) : Prop :=
  (t < 0 ∧ lr = [] ∧ f = some ([(opWord, 0)], 3)) ∨ (0 ≤ t ∧ l.length = 0 ∧ lr = [] ∧ f = none) ∨
  (0 ≤ t ∧ 0 < l.length ∧ 4096 < t.toNat * l.length ∧ lr = [] ∧ f = some ([(opWord, 0)], 4)) ∨ (0 ≤ t ∧ 0 < l.length ∧ t.toNat * l.length ≤ 4096 ∧ lr = repL l (l.length * t.toNat) ∧ f = none)
theorem timesE_or (l : List Int) (t : Int) : ∃ lr f, TimesE l t lr f := by
  by_cases h0 : t < 0
  · exact ⟨_, _, .inl ⟨h0, rfl, rfl⟩⟩
  · by_cases h1 : l.length = 0
    · exact ⟨_, _, .inr (.inl ⟨by omega, h1, rfl, rfl⟩)⟩
    · by_cases h2 : t.toNat * l.length ≤ 4096
      · exact ⟨_, _, .inr (.inr (.inr ⟨by omega, by omega, h2, rfl, rfl⟩))⟩
      · exact ⟨_, _, .inr (.inr (.inl ⟨by omega, by omega, by omega, rfl, rfl⟩))⟩
theorem timesE_len {l : List Int} {t : Int} {lr : List Int} {f : ErrD} (h : TimesE l t lr f) : lr.length ≤ 4096 := by
  rcases h with ⟨_, rfl, _⟩ | ⟨_, _, rfl, _⟩ | ⟨_, _, _, rfl, _⟩ | ⟨_, _, h, rfl, _⟩
  · exact Nat.zero_le _
  · exact Nat.zero_le _
  · exact Nat.zero_le _
  · rw [repL_len, Nat.mul_comm]; exact h
theorem ptimes (a : Option Addr) (n c : Nat) (l : List Int) (t : Int) (W : World) (R : Nat → Addr) (hS : Sent W R) (hG : Glob W R) (hR : RK .i64 W a n l) (hn8 : n * 8 ≤ 140737488351232) (lr : List Int) (f : ErrD) (hf : TimesE l t lr f) :
    Calls Tryd.prog 55 #[.slice a n c, .int .i64 t] W (ProL R W lr f) := by
  have hl := hR.len
  rcases hf with ⟨h, rfl, rfl⟩ | ⟨h0, h1, rfl, rfl⟩ | ⟨h0, h1, h2, rfl, rfl⟩ | ⟨h0, h1, h2, rfl, rfl⟩
  · refine (times_err a n c l t W R hG hR hn8 0 3 (.inl ⟨h, rfl, rfl⟩)).mono ?_; rintro e w' ⟨g, rfl, he, hb⟩
    exact ⟨_, _, _, _, rfl, RK.nil, ec_err (hS.up hb) he, hb⟩
  · obtain rfl : n = 0 := by omega
    refine (times_nil a c t W h0).mono ?_; rintro e w' ⟨rfl, rfl⟩
    exact ⟨_, _, _, _, rfl, RK.nil, rfl, bnil _⟩
  · have h3 : 4096 < t * (n : Int) := by
      rw [hl]
      have e1 : t * (l.length : Int) = ((t.toNat * l.length : Nat) : Int) := by rw [Int.natCast_mul, Int.toNat_of_nonneg h0]
      rw [e1]; omega
    refine (times_err a n c l t W R hG hR hn8 0 4 (.inr ⟨h0, by omega, h3, rfl, rfl⟩)).mono ?_; rintro e w' ⟨g, rfl, he, hb⟩
    exact ⟨_, _, _, _, rfl, RK.nil, ec_err (hS.up hb) he, hb⟩
  · obtain ⟨tn, rfl⟩ : ∃ tn : Nat, t = (tn : Int) := ⟨t.toNat, by omega⟩
    simp only [Int.toNat_natCast] at h2 ⊢
    rw [← hl] at h1 h2 ⊢
    refine (times_ok a n c tn l W hR h1 hn8 (by rw [Nat.mul_comm]; exact h2)).mono ?_; rintro e w' ⟨a', c', rfl, ho, hb⟩
    exact ⟨_, _, _, _, rfl, RK.of_own ho, rfl, hb⟩

set_option maxHeartbeats 8000000 in
theorem ref03text (k : Int) (a : Option Addr) (n c : Nat) (l : List Int) (W : World) (hR : RK .i64 W a n l) (hml : n ≤ maxLen) (s : ByteArray) (f : ErrD) (hf : TextE k l s f) :
    Calls Tryd.prog 53 #[.int .i64 k, .slice a n c] W (RefT W s f) := by
  have HL := Lib.hid hR.len
  obtain ⟨w0, hw0⟩ : ∃ w0, W.alloc (.cells #[.int .i64 0, .slice none 0 0, .slice none 0 0] 78) = w0 := ⟨_, rfl⟩
  have HSZ : Hid (w0.heap.size = W.heap.size + 1) := by show _ = _; rw [← hw0]; simp
  have HY0 : Hid (w0.heap[W.heap.size]? = some (.cells #[.int .i64 0, .slice none 0 0, .slice none 0 0] 78)) := by show _ = _; rw [← hw0]; have h := heap_alloc_new (W) (.cells #[.int .i64 0, .slice none 0 0, .slice none 0 0] 78); simpa using h
  have HBX : Hid (Below W.heap.size W w0) := by show Below _ _ _; rw [← hw0]; exact balloc (bnil W) _
  have HB0 := Lib.hid (bnil w0)
  have HWB := Lib.hid hw0
  have HR := Lib.hid (hR.up HBX.out)
  clear hw0 hR
  have hck := ref03check k a n c l w0 HR.out hml
  rcases hf with ⟨y, hc, rfl, rfl⟩ | ⟨hc, rfl, rfl⟩
  · rw [wordD_some hc] at hck
    have HCK := Lib.hid hck
    clear hck hc
    go_enter Tryd.func53, Tryd.ntmps53
    go_wp2_with fail
    rw [HWB.out]
    refine (HCK.out).mono ?_; rintro e w1 ⟨vN, va1, vn1, vc1, va2, vn2, vc2, rfl, hw, hf1, hf2, hN, h0, hb⟩
    have HWv1 := Lib.hid hw
    have HFv : Hid (Fr (W.heap.size + 1) va1 ∧ Fr (W.heap.size + 1) va2) := ⟨hf1.base (by have := HSZ.out; have := HB0.out.size; omega), hf2.base (by have := HSZ.out; have := HB0.out.size; omega)⟩
    have HNv : Hid ((vN != 0) = true) := hN
    clear hw hf1 hf2 hN h0
    have HB1 := Lib.hid (HB0.out.trans (hb.mono HB0.out.size))
    clear hb
    go_wp2_with fail
    obtain ⟨g1, hg1⟩ : ∃ g1, w1.heap.size = g1 := ⟨_, rfl⟩
    obtain ⟨w2, hw⟩ : ∃ w2, w1.alloc (.cells #[.int .i64 vN, .slice va1 vn1 vc1, .slice va2 vn2 vc2] 78) = w2 := ⟨_, rfl⟩
    have hb : Below w1.heap.size w1 w2 := by rw [← hw]; exact balloc (bnil w1) _
    have HZ2 : Hid (w2.heap[g1]? = some (.cells #[.int .i64 vN, .slice va1 vn1 vc1, .slice va2 vn2 vc2] 78)) := by show _ = _; rw [← hw, ← hg1]; exact heap_alloc_new w1 _
    have HG1 : Hid (W.heap.size + 1 ≤ g1) := by show _ ≤ _; have := HSZ.out; have := HB1.out.size; omega
    rw [hw]
    simp only [hg1]
    clear hw hg1
    have HB2 := Lib.hid (HB1.out.trans (hb.mono HB1.out.size))
    have HWv2 := Lib.hid (HWv1.out.up hb)
    clear hb
    obtain ⟨⟨q0, q1, q2⟩, f0, f1, f2⟩ := cellsq HZ2.out
    go_wp2_with fail
    clear q0 q1 q2 f0 f1 f2
    refine (refBadq vN _ _ _ true HNv.out).mono ?_; rintro e w3 ⟨rfl, hb⟩
    have HB3 := Lib.hid (HB2.out.trans (hb.mono HB2.out.size))
    have HZ3 := Lib.hid ((hb.block _ (heap_ltQ HZ2.out)).trans HZ2.out)
    have HWv3 := Lib.hid (HWv2.out.up hb)
    clear hb
    obtain ⟨⟨q0, q1, q2⟩, f0, f1, f2⟩ := cellsq HZ3.out
    have hy := (HB3.out.block _ (by have := HSZ.out; omega)).trans HY0.out
    obtain ⟨⟨p0, p1, p2⟩, f3, f4, f5⟩ := cellsq hy
    obtain ⟨w9, e9, ⟨r0, r1, r2⟩, hk, hs, hbl, _⟩ := set3q hy (.int .i64 vN) (.slice va1 vn1 vc1) (.slice va2 vn2 vc2)
    have HE9 := Lib.hid e9
    have HR := Lib.hid (And.intro r0 (And.intro r1 r2))
    have HBE := Lib.hid (hbl W W.heap.size (by omega) (HBX.out.trans (HB3.out.mono HBX.out.size)))
    have HWC : Hid (WC w9 (.agg #[.int .i64 vN, .slice va1 vn1 vc1, .slice va2 vn2 vc2]) _) := Lib.hid (HWv3.out.other hk hs HFv.out.1 HFv.out.2)
    clear hy e9 r0 r1 r2 hk hs hbl
    go_wp2
    go_region
    all_goals
      go_wp2
      rw [HE9.out]
      have r0 : w9.drew.cell? _ = _ := HR.out.1
      have r1 : w9.drew.cell? _ = _ := HR.out.2.1
      have r2 : w9.drew.cell? _ = _ := HR.out.2.2
      refine bodyPost_ret (v := .tuple #[.string ⟨#[]⟩, .agg #[.int .i64 vN, .slice va1 vn1 vc1, .slice va2 vn2 vc2]]) (by simp [results, Tryd.results53, go_sem, r0, r1, r2]) rfl ?_
      exact ⟨_, _, _, _, _, _, _, rfl, (HWC.out.up (bnil w9).drew), (HBE.out.drew)⟩
  · rw [wordD_none hc] at hck
    have HCK := Lib.hid hck
    obtain ⟨k1, k2, h4096, hall⟩ := chk_none hc
    have hn4 : n ≤ 4096 := by have := HL.out; omega
    have HALL := Lib.hid hall
    clear hck hc hall h4096 hml
    go_enter Tryd.func53, Tryd.ntmps53
    go_wp2_with fail
    rw [HWB.out]
    refine (HCK.out).mono ?_; rintro e w1 ⟨zN, za1, zn1, zc1, za2, zn2, zc2, rfl, hw, hf1, hf2, hN, h0, hb⟩
    obtain ⟨rfl, rfl, rfl, rfl, rfl, rfl, rfl⟩ := h0 rfl
    clear hw hf1 hf2 hN h0
    have HB1 := Lib.hid (HB0.out.trans (hb.mono HB0.out.size))
    clear hb
    go_wp2_with fail
    obtain ⟨g1, hg1⟩ : ∃ g1, w1.heap.size = g1 := ⟨_, rfl⟩
    obtain ⟨w2, hw⟩ : ∃ w2, w1.alloc (.cells #[.int .i64 0, .slice none 0 0, .slice none 0 0] 78) = w2 := ⟨_, rfl⟩
    have hb : Below w1.heap.size w1 w2 := by rw [← hw]; exact balloc (bnil w1) _
    have HZ2 : Hid (w2.heap[g1]? = some (.cells #[.int .i64 0, .slice none 0 0, .slice none 0 0] 78)) := by show _ = _; rw [← hw, ← hg1]; exact heap_alloc_new w1 _
    have HG1 : Hid (W.heap.size + 1 ≤ g1) := by show _ ≤ _; have := HSZ.out; have := HB1.out.size; omega
    rw [hw]
    simp only [hg1]
    clear hw hg1
    have HB2 := Lib.hid (HB1.out.trans (hb.mono HB1.out.size))
    clear hb
    obtain ⟨⟨q0, q1, q2⟩, f0, f1, f2⟩ := cellsq HZ2.out
    go_wp2_with fail
    clear q0 q1 q2 f0 f1 f2
    refine (refBadq 0 _ _ _ false rfl).mono ?_; rintro e w3 ⟨rfl, hb⟩
    have HB3 := Lib.hid (HB2.out.trans (hb.mono HB2.out.size))
    have HZ3 := Lib.hid ((hb.block _ (heap_ltQ HZ2.out)).trans HZ2.out)
    clear hb
    go_wp2_with (first
      | (at_make; refine mk_full rfl _ _ _ rfl w3.heap.size et_u8 .i64 .i64 _ _ n rfl rfl (by omega) (by omega) (by omega) (by unfold maxLen; omega) (Nat.le_refl _) ?_; intro w4 hown1 hb hsz1; rw [made_u8z] at hown1; have HO := Lib.hid hown1; clear hown1 hsz1))
    obtain ⟨gO, hgO⟩ : ∃ gO, w3.heap.size = gO := ⟨_, rfl⟩
    rw [hgO] at HO
    simp only [hgO]
    have HGO : Hid (W.heap.size + 1 ≤ gO) := by show _ ≤ _; have := HSZ.out; have := HB3.out.size; omega
    have HB4 := Lib.hid (HB3.out.trans (hb.mono HB3.out.size))
    clear hb
    clear hgO
    go_loopw [8] (fun ix wr => ∃ (i : Nat) (cur : List Int), i ≤ n ∧ ix = .int .i64 (i : Nat) ∧ PutTo (fun q => 48 + l.getD q 0) n cur i ∧ wr.ownsRow gO 5 1 (.slice (some ⟨gO, 0, none⟩) n n) n (cur.map (Value.int .u8)) ∧ Below w0.heap.size w0 wr) (fun ix _ => n - (intOf ix).toNat)
    case atStart => exact ⟨0, _, Nat.zero_le _, rfl, ⟨by simp, fun q h => by omega⟩, HO.out, HB4.out⟩
    case round =>
      clear HO
      obtain ⟨i, cur, hi, rfl, hpt, ho, hb⟩ := hrel
      generalize wr = w5 at *
      have HB5 := Lib.hid hb
      have HPT := Lib.hid hpt
      have HO := Lib.hid ho
      clear hb hpt ho
      by_cases hin : i < n
      · obtain ⟨b, o, rfl, hbl, hx⟩ := (HR.out.up HB5.out).addr (by omega)
        have x0 := hx i hin
        have hxx := HALL.out (l.getD i 0) (by have := HL.out; simp [show i < l.length by omega])
        have z0 : w5.cell? ⟨gO, i, none⟩ = some (.int .u8 (cur.getD i 0)) := by rw [HO.out.cellAt i (by omega), map_at _ _ _ (by rw [HPT.out.1]; exact hin)]
        have f0 := HO.out.frozenAt i
        have hst := own_set HO.out i (.int .u8 (48 + l.getD i 0))
        rw [← List.map_set] at hst
        have HST := Lib.hid hst
        have HNX : Hid (PutTo (fun q => 48 + l.getD q 0) n (cur.set i (48 + l.getD i 0)) (i + 1)) := putTo_set HPT.out hin
        have HBW := Lib.hid (HB5.out.setCell (p := ⟨gO, i, none⟩) (by show _ ≤ gO; have := HGO.out; have := HSZ.out; omega) (.int .u8 (48 + l.getD i 0)))
        generalize l.getD i 0 = z at *
        generalize cur.getD i 0 = y at *
        have e1 : IntKind.i64.wrap (48 + z) = 48 + z := IntWalk.i64_in _ (by omega)
        have e2 : IntKind.u8.wrap (48 + z) = 48 + z := by show (48 + z) % 256 = _; omega
        have i0 : (0 : Int) ≤ (i : Int) := by omega
        have i1 : (i : Int) < (n : Int) := by omega
        clear hst hx HO HPT hbl
        go_wp2
        go_roundw
        case rel => exact ⟨i + 1, _, by omega, by go_num, HNX.out, HST.out, HBW.out⟩
        case measure => simp [intOf]; omega
      · obtain rfl : i = n := by omega
        have hcur : cur = textL l := putTo_end HPT.out (by rw [textL_len]; exact HL.out.symm) (fun q hq => textL_at l q (by have := HL.out; omega))
        subst hcur
        have hy := (HB5.out.block _ (by have := HSZ.out; omega)).trans HY0.out
        obtain ⟨⟨p0, p1, p2⟩, f3, f4, f5⟩ := cellsq hy
        obtain ⟨w9, e9, ⟨r0, r1, r2⟩, hk, hs, hbl, _⟩ := set3q hy (.int .i64 0) (.slice none 0 0) (.slice none 0 0)
        have HE9 := Lib.hid e9
        have HR := Lib.hid (And.intro r0 (And.intro r1 r2))
        have HBE := Lib.hid (hbl W W.heap.size (by omega) (HBX.out.trans (HB5.out.mono HBX.out.size)))
        have HWC := Lib.hid (wc_none w9)
        clear hy e9 r0 r1 r2 hk hs hbl
        have cv := conv_str (c := i) Tryd.underlying121 Tryd.underlying5 Tryd.underlying9 (owns_rd HO.out).2
        go_wp2
        rw [HE9.out]
        have r0 : w9.cell? _ = _ := HR.out.1
        have r1 : w9.cell? _ = _ := HR.out.2.1
        have r2 : w9.cell? _ = _ := HR.out.2.2
        refine bodyPost_ret (v := .tuple #[.string (strOfNums (textL l)), .agg #[.int .i64 0, .slice none 0 0, .slice none 0 0]]) (by simp [results, Tryd.results53, go_sem, r0, r1, r2]) rfl ?_
        exact ⟨_, _, _, _, _, _, _, rfl, HWC.out, HBE.out⟩

set_option maxHeartbeats 8000000 in
theorem ref03parse (k : Int) (s : ByteArray) (W : World) (hm : s.size ≤ maxLen) (l : List Int) (f : ErrD) (hf : ParseE k s l f) :
    Calls Tryd.prog 54 #[.int .i64 k, .string s] W (RefL W l f) := by
  have hm' : s.size ≤ 9223372036854775807 := hm
  obtain ⟨w0, hw0⟩ : ∃ w0, W.alloc (.cells #[.int .i64 0, .slice none 0 0, .slice none 0 0] 78) = w0 := ⟨_, rfl⟩
  have HSZ : Hid (w0.heap.size = W.heap.size + 1) := by show _ = _; rw [← hw0]; simp
  have HY0 : Hid (w0.heap[W.heap.size]? = some (.cells #[.int .i64 0, .slice none 0 0, .slice none 0 0] 78)) := by show _ = _; rw [← hw0]; have h := heap_alloc_new (W) (.cells #[.int .i64 0, .slice none 0 0, .slice none 0 0] 78); simpa using h
  have HBX : Hid (Below W.heap.size W w0) := by show Below _ _ _; rw [← hw0]; exact balloc (bnil W) _
  have HB0 := Lib.hid (bnil w0)
  have HWB := Lib.hid hw0
  clear hw0 
  by_cases c0 : k < 1
  · have HLF := Lib.hid (parseE_some hf (y := (0, 3)) (by unfold parErr alphB; simp; omega))
    clear hf
    go_enter Tryd.func54, Tryd.ntmps54
    go_wp2_with fail
    rw [HWB.out]
    refine (rawNewq opWord _ _ _ rfl).mono ?_; rintro e w1 ⟨vN, va1, vn1, vc1, va2, vn2, vc2, rfl, hw, hf1, hf2, hN, h0, hb⟩
    have HWv1 := Lib.hid hw
    have HFv : Hid (Fr (W.heap.size + 1) va1 ∧ Fr (W.heap.size + 1) va2) := ⟨hf1.base (by have := HSZ.out; have := HB0.out.size; omega), hf2.base (by have := HSZ.out; have := HB0.out.size; omega)⟩
    have HNv : Hid ((vN != 0) = true) := hN
    clear hw hf1 hf2 hN h0
    have HB1 := Lib.hid (HB0.out.trans (hb.mono HB0.out.size))
    clear hb
    have hy := (HB1.out.block _ (by have := HSZ.out; omega)).trans HY0.out
    obtain ⟨⟨p0, p1, p2⟩, f3, f4, f5⟩ := cellsq hy
    obtain ⟨w9, e9, ⟨r0, r1, r2⟩, hk, hs, hbl, _⟩ := set3q hy (.int .i64 vN) (.slice va1 vn1 vc1) (.slice va2 vn2 vc2)
    have HE9 := Lib.hid e9
    have HR := Lib.hid (And.intro r0 (And.intro r1 r2))
    have HBE := Lib.hid (hbl W W.heap.size (by omega) (HBX.out.trans (HB1.out.mono HBX.out.size)))
    have HWC : Hid (WC w9 (.agg #[.int .i64 vN, .slice va1 vn1 vc1, .slice va2 vn2 vc2]) _) := Lib.hid (HWv1.out.other hk hs HFv.out.1 HFv.out.2)
    clear hy e9 r0 r1 r2 hk hs hbl
    go_wp2
    rw [HE9.out]
    have r0 : w9.cell? _ = _ := HR.out.1
    have r1 : w9.cell? _ = _ := HR.out.2.1
    have r2 : w9.cell? _ = _ := HR.out.2.2
    refine bodyPost_ret (v := .tuple #[.slice none 0 0, .agg #[.int .i64 vN, .slice va1 vn1 vc1, .slice va2 vn2 vc2]]) (by simp [results, Tryd.results54, go_sem, r0, r1, r2]) rfl ?_
    rw [HLF.out.1, HLF.out.2]; exact ⟨none, 0, 0, _, _, _, _, _, _, _, rfl, RK.nil, HWC.out, HBE.out⟩
  by_cases c1 : 4 < k
  · have HLF := Lib.hid (parseE_some hf (y := (0, 3)) (by unfold parErr alphB; simp; omega))
    clear hf
    go_enter Tryd.func54, Tryd.ntmps54
    go_wp2_with fail
    rw [HWB.out]
    refine (rawNewq opWord _ _ _ rfl).mono ?_; rintro e w1 ⟨vN, va1, vn1, vc1, va2, vn2, vc2, rfl, hw, hf1, hf2, hN, h0, hb⟩
    have HWv1 := Lib.hid hw
    have HFv : Hid (Fr (W.heap.size + 1) va1 ∧ Fr (W.heap.size + 1) va2) := ⟨hf1.base (by have := HSZ.out; have := HB0.out.size; omega), hf2.base (by have := HSZ.out; have := HB0.out.size; omega)⟩
    have HNv : Hid ((vN != 0) = true) := hN
    clear hw hf1 hf2 hN h0
    have HB1 := Lib.hid (HB0.out.trans (hb.mono HB0.out.size))
    clear hb
    have hy := (HB1.out.block _ (by have := HSZ.out; omega)).trans HY0.out
    obtain ⟨⟨p0, p1, p2⟩, f3, f4, f5⟩ := cellsq hy
    obtain ⟨w9, e9, ⟨r0, r1, r2⟩, hk, hs, hbl, _⟩ := set3q hy (.int .i64 vN) (.slice va1 vn1 vc1) (.slice va2 vn2 vc2)
    have HE9 := Lib.hid e9
    have HR := Lib.hid (And.intro r0 (And.intro r1 r2))
    have HBE := Lib.hid (hbl W W.heap.size (by omega) (HBX.out.trans (HB1.out.mono HBX.out.size)))
    have HWC : Hid (WC w9 (.agg #[.int .i64 vN, .slice va1 vn1 vc1, .slice va2 vn2 vc2]) _) := Lib.hid (HWv1.out.other hk hs HFv.out.1 HFv.out.2)
    clear hy e9 r0 r1 r2 hk hs hbl
    go_wp2
    rw [HE9.out]
    have r0 : w9.cell? _ = _ := HR.out.1
    have r1 : w9.cell? _ = _ := HR.out.2.1
    have r2 : w9.cell? _ = _ := HR.out.2.2
    refine bodyPost_ret (v := .tuple #[.slice none 0 0, .agg #[.int .i64 vN, .slice va1 vn1 vc1, .slice va2 vn2 vc2]]) (by simp [results, Tryd.results54, go_sem, r0, r1, r2]) rfl ?_
    rw [HLF.out.1, HLF.out.2]; exact ⟨none, 0, 0, _, _, _, _, _, _, _, rfl, RK.nil, HWC.out, HBE.out⟩
  have HAL : Hid (alphB k = true) := alph_true.2 ⟨by omega, by omega⟩
  by_cases c2 : 4096 < s.size
  · have HLF := Lib.hid (parseE_some hf (y := (0, 4)) (by unfold parErr; rw [HAL.out]; simp [c2]))
    clear hf
    go_enter Tryd.func54, Tryd.ntmps54
    go_wp2_with fail
    rw [HWB.out]
    refine (rawNewq opWord _ _ _ rfl).mono ?_; rintro e w1 ⟨vN, va1, vn1, vc1, va2, vn2, vc2, rfl, hw, hf1, hf2, hN, h0, hb⟩
    have HWv1 := Lib.hid hw
    have HFv : Hid (Fr (W.heap.size + 1) va1 ∧ Fr (W.heap.size + 1) va2) := ⟨hf1.base (by have := HSZ.out; have := HB0.out.size; omega), hf2.base (by have := HSZ.out; have := HB0.out.size; omega)⟩
    have HNv : Hid ((vN != 0) = true) := hN
    clear hw hf1 hf2 hN h0
    have HB1 := Lib.hid (HB0.out.trans (hb.mono HB0.out.size))
    clear hb
    have hy := (HB1.out.block _ (by have := HSZ.out; omega)).trans HY0.out
    obtain ⟨⟨p0, p1, p2⟩, f3, f4, f5⟩ := cellsq hy
    obtain ⟨w9, e9, ⟨r0, r1, r2⟩, hk, hs, hbl, _⟩ := set3q hy (.int .i64 vN) (.slice va1 vn1 vc1) (.slice va2 vn2 vc2)
    have HE9 := Lib.hid e9
    have HR := Lib.hid (And.intro r0 (And.intro r1 r2))
    have HBE := Lib.hid (hbl W W.heap.size (by omega) (HBX.out.trans (HB1.out.mono HBX.out.size)))
    have HWC : Hid (WC w9 (.agg #[.int .i64 vN, .slice va1 vn1 vc1, .slice va2 vn2 vc2]) _) := Lib.hid (HWv1.out.other hk hs HFv.out.1 HFv.out.2)
    clear hy e9 r0 r1 r2 hk hs hbl
    go_wp2
    rw [HE9.out]
    have r0 : w9.cell? _ = _ := HR.out.1
    have r1 : w9.cell? _ = _ := HR.out.2.1
    have r2 : w9.cell? _ = _ := HR.out.2.2
    refine bodyPost_ret (v := .tuple #[.slice none 0 0, .agg #[.int .i64 vN, .slice va1 vn1 vc1, .slice va2 vn2 vc2]]) (by simp [results, Tryd.results54, go_sem, r0, r1, r2]) rfl ?_
    rw [HLF.out.1, HLF.out.2]; exact ⟨none, 0, 0, _, _, _, _, _, _, _, rfl, RK.nil, HWC.out, HBE.out⟩
  have HF := Lib.hid hf
  have HLE : Hid (¬ 4096 < s.size) := c2
  have hs4 : s.size ≤ 4096 := by omega
  clear hf c2
  go_enter Tryd.func54, Tryd.ntmps54
  go_wp2_with (first
    | (at_make; rw [HWB.out]; refine mk_full rfl _ _ _ rfl w0.heap.size et_int .i64 .i64 _ _ s.size rfl rfl (by omega) (by omega) (by omega) (by unfold maxLen; omega) (Nat.le_refl _) ?_; intro w1 hown1 hb hsz1; rw [made_i64z] at hown1; have HO := Lib.hid hown1; clear hown1 hsz1))
  obtain ⟨gO, hgO⟩ : ∃ gO, w0.heap.size = gO := ⟨_, rfl⟩
  rw [hgO] at HO
  simp only [hgO]
  have HGO : Hid (W.heap.size + 1 ≤ gO) := by show _ ≤ _; have := HSZ.out; omega
  have HB1 := Lib.hid (HB0.out.trans (hb.mono HB0.out.size))
  clear hb
  clear hgO
  go_loopw [7] (fun ix wr => ∃ (i : Nat) (cur : List Int), i ≤ s.size ∧ ix = .int .i64 (i : Nat) ∧ PutTo (fun q => (sB s).getD q 0 - 48) s.size cur i ∧ (∀ x ∈ (sB s).take i, parBad k x = false) ∧ wr.ownsRow gO 3 1 (.slice (some ⟨gO, 0, none⟩) s.size s.size) s.size (cur.map (Value.int .i64)) ∧ Below w0.heap.size w0 wr) (fun ix _ => s.size - (intOf ix).toNat)
  case atStart => exact ⟨0, _, Nat.zero_le _, rfl, ⟨by simp, fun q h => by omega⟩, fun x hx => by simp at hx, HO.out, HB1.out⟩
  case round =>
    clear HO
    obtain ⟨i, cur, hi, rfl, hpt, hgd, ho, hb⟩ := hrel
    generalize wr = w2 at *
    have HB2 := Lib.hid hb
    have HPT := Lib.hid hpt
    have HGD := Lib.hid hgd
    have HO := Lib.hid ho
    clear hb hpt hgd ho
    by_cases hin : i < s.size
    · have hil : i < (sB s).length := by rw [sB_len]; exact hin
      have hat := sB_at s i hin
      have z0 : w2.cell? ⟨gO, i, none⟩ = some (.int .i64 (cur.getD i 0)) := by rw [HO.out.cellAt i (by omega), map_at _ _ _ (by rw [HPT.out.1]; exact hin)]
      have f0 := HO.out.frozenAt i
      have hst := own_set HO.out i (.int .i64 ((sB s).getD i 0 - 48))
      rw [← List.map_set] at hst
      have hnx : PutTo (fun q => (sB s).getD q 0 - 48) s.size (cur.set i ((sB s).getD i 0 - 48)) (i + 1) := putTo_set HPT.out hin
      have hcl := HPT.out.1
      rw [hat] at hst hnx
      have hbb := HGD.out
      have hz3 : (s[i].toNat : Int) ≤ 255 := by have := s[i].toNat_lt; omega
      have hz0 : (0 : Int) ≤ (s[i].toNat : Int) := by omega
      obtain ⟨v, hv⟩ : ∃ v : Int, (s[i].toNat : Int) - 48 = v := ⟨_, rfl⟩
      rw [hv] at hst hnx
      have HPB : Hid (parBad k ((sB s).getD i 0) = badB k v) := by show _ = _; rw [hat, ← hv]; rfl
      have hbw := HB2.out.setCell (p := ⟨gO, i, none⟩) (by show _ ≤ gO; have := HGO.out; have := HSZ.out; omega) (.int .i64 v)
      obtain ⟨w3, hw⟩ : ∃ w3, w2.setCell ⟨gO, i, none⟩ (.int .i64 v) = w3 := ⟨_, rfl⟩
      rw [hw] at hst hbw
      have y0 : w3.cell? ⟨gO, i, none⟩ = some (.int .i64 v) := by rw [hst.cellAt i (by omega), map_at _ _ _ (by simp [hcl]; exact hin)]; simp [hcl, hin]
      rw [← hw] at y0
      have HST := Lib.hid hst
      have HNX := Lib.hid hnx
      have HB3 := Lib.hid hbw
      have HWX := Lib.hid hw
      have e1 : IntKind.i64.wrap ((s[i].toNat : Int) - 48) = v := by rw [hv]; exact IntWalk.i64_in _ (by omega)
      have e0 : IntKind.i64.wrap (s[i].toNat : Int) = (s[i].toNat : Int) := IntWalk.i64_in _ (by omega)
      have i0 : (0 : Int) ≤ (i : Int) := by omega
      have i1 : (i : Int) < (s.size : Int) := by omega
      generalize cur.getD i 0 = y at *
      clear hst hnx hbw hw hat HO HPT hcl hbb
      by_cases hv0 : v < 0
      · have hx : idxI (parBad k) (sB s) = (i : Int) := findIdx_at hil HGD.out (by rw [HPB.out]; exact badB_true.2 (.inl hv0))
        have HLF := Lib.hid (parseE_some HF.out (y := ((i : Int), 6)) (by unfold parErr; rw [HAL.out, hx, if_neg (by simp), if_neg HLE.out, if_pos (by omega)]))
        clear hx hil
        go_wp2_with fail
        try rw [HWX.out]
        refine (rawNewq opWord _ _ _ rfl).mono ?_; rintro e w4 ⟨vN, va1, vn1, vc1, va2, vn2, vc2, rfl, hw, hf1, hf2, hN, h0, hb⟩
        have HWv4 := Lib.hid hw
        have HFv : Hid (Fr (W.heap.size + 1) va1 ∧ Fr (W.heap.size + 1) va2) := ⟨hf1.base (by have := HSZ.out; have := HB3.out.size; omega), hf2.base (by have := HSZ.out; have := HB3.out.size; omega)⟩
        have HNv : Hid ((vN != 0) = true) := hN
        clear hw hf1 hf2 hN h0
        have HB4 := Lib.hid (HB3.out.trans (hb.mono HB3.out.size))
        clear hb
        have hy := (HB4.out.block _ (by have := HSZ.out; omega)).trans HY0.out
        obtain ⟨⟨p0, p1, p2⟩, f3, f4, f5⟩ := cellsq hy
        obtain ⟨w9, e9, ⟨r0, r1, r2⟩, hk, hs, hbl, _⟩ := set3q hy (.int .i64 vN) (.slice va1 vn1 vc1) (.slice va2 vn2 vc2)
        have HE9 := Lib.hid e9
        have HR := Lib.hid (And.intro r0 (And.intro r1 r2))
        have HBE := Lib.hid (hbl W W.heap.size (by omega) (HBX.out.trans (HB4.out.mono HBX.out.size)))
        have HWC : Hid (WC w9 (.agg #[.int .i64 vN, .slice va1 vn1 vc1, .slice va2 vn2 vc2]) _) := Lib.hid (HWv4.out.other hk hs HFv.out.1 HFv.out.2)
        clear hy e9 r0 r1 r2 hk hs hbl
        go_wp2
        rw [HE9.out]
        have r0 : w9.cell? _ = _ := HR.out.1
        have r1 : w9.cell? _ = _ := HR.out.2.1
        have r2 : w9.cell? _ = _ := HR.out.2.2
        refine bodyPost_ret (v := .tuple #[.slice none 0 0, .agg #[.int .i64 vN, .slice va1 vn1 vc1, .slice va2 vn2 vc2]]) (by simp [results, Tryd.results54, go_sem, r0, r1, r2]) rfl ?_
        rw [HLF.out.1, HLF.out.2]; exact ⟨none, 0, 0, _, _, _, _, _, _, _, rfl, RK.nil, HWC.out, HBE.out⟩
      by_cases hvk : k ≤ v
      · have hx : idxI (parBad k) (sB s) = (i : Int) := findIdx_at hil HGD.out (by rw [HPB.out]; exact badB_true.2 (.inr hvk))
        have HLF := Lib.hid (parseE_some HF.out (y := ((i : Int), 6)) (by unfold parErr; rw [HAL.out, hx, if_neg (by simp), if_neg HLE.out, if_pos (by omega)]))
        clear hx hil
        go_wp2_with fail
        try rw [HWX.out]
        refine (rawNewq opWord _ _ _ rfl).mono ?_; rintro e w4 ⟨vN, va1, vn1, vc1, va2, vn2, vc2, rfl, hw, hf1, hf2, hN, h0, hb⟩
        have HWv4 := Lib.hid hw
        have HFv : Hid (Fr (W.heap.size + 1) va1 ∧ Fr (W.heap.size + 1) va2) := ⟨hf1.base (by have := HSZ.out; have := HB3.out.size; omega), hf2.base (by have := HSZ.out; have := HB3.out.size; omega)⟩
        have HNv : Hid ((vN != 0) = true) := hN
        clear hw hf1 hf2 hN h0
        have HB4 := Lib.hid (HB3.out.trans (hb.mono HB3.out.size))
        clear hb
        have hy := (HB4.out.block _ (by have := HSZ.out; omega)).trans HY0.out
        obtain ⟨⟨p0, p1, p2⟩, f3, f4, f5⟩ := cellsq hy
        obtain ⟨w9, e9, ⟨r0, r1, r2⟩, hk, hs, hbl, _⟩ := set3q hy (.int .i64 vN) (.slice va1 vn1 vc1) (.slice va2 vn2 vc2)
        have HE9 := Lib.hid e9
        have HR := Lib.hid (And.intro r0 (And.intro r1 r2))
        have HBE := Lib.hid (hbl W W.heap.size (by omega) (HBX.out.trans (HB4.out.mono HBX.out.size)))
        have HWC : Hid (WC w9 (.agg #[.int .i64 vN, .slice va1 vn1 vc1, .slice va2 vn2 vc2]) _) := Lib.hid (HWv4.out.other hk hs HFv.out.1 HFv.out.2)
        clear hy e9 r0 r1 r2 hk hs hbl
        go_wp2
        rw [HE9.out]
        have r0 : w9.cell? _ = _ := HR.out.1
        have r1 : w9.cell? _ = _ := HR.out.2.1
        have r2 : w9.cell? _ = _ := HR.out.2.2
        refine bodyPost_ret (v := .tuple #[.slice none 0 0, .agg #[.int .i64 vN, .slice va1 vn1 vc1, .slice va2 vn2 vc2]]) (by simp [results, Tryd.results54, go_sem, r0, r1, r2]) rfl ?_
        rw [HLF.out.1, HLF.out.2]; exact ⟨none, 0, 0, _, _, _, _, _, _, _, rfl, RK.nil, HWC.out, HBE.out⟩
      have HGX : Hid (∀ x ∈ (sB s).take (i + 1), parBad k x = false) := all_take_succ hil HGD.out (by rw [HPB.out]; exact badB_false.2 ⟨by omega, by omega⟩)
      clear hil HGD
      go_wp2
      rw [HWX.out]
      go_roundw
      case rel => exact ⟨i + 1, _, by omega, by go_num, HNX.out, HGX.out, HST.out, HB3.out⟩
      case measure => simp [intOf]; omega
    · obtain rfl : i = s.size := by omega
      have hcur : cur = parL s := putTo_end HPT.out (parL_len s) (fun q hq => parL_at s q hq)
      subst hcur
      have hno : parErr k s = none := by unfold parErr; rw [HAL.out, findIdx_none (by have := HGD.out; rwa [List.take_of_length_le (by rw [sB_len]; omega)] at this), if_neg (by simp), if_neg HLE.out, if_neg (by omega)]
      have HLF := Lib.hid (parseE_none HF.out hno)
      clear hno
      have hy := (HB2.out.block _ (by have := HSZ.out; omega)).trans HY0.out
      obtain ⟨⟨p0, p1, p2⟩, f3, f4, f5⟩ := cellsq hy
      obtain ⟨w9, e9, ⟨r0, r1, r2⟩, hk, hs, hbl, _⟩ := set3q hy (.int .i64 0) (.slice none 0 0) (.slice none 0 0)
      have HE9 := Lib.hid e9
      have HR := Lib.hid (And.intro r0 (And.intro r1 r2))
      have HBE := Lib.hid (hbl W W.heap.size (by omega) (HBX.out.trans (HB2.out.mono HBX.out.size)))
      have HWC := Lib.hid (wc_none w9)
      have HN9 := Lib.hid (rk_heapV (RK.of_own HO.out) hk hs (.inl (fr_some (by have := HGO.out; omega))))
      clear hy e9 r0 r1 r2 hk hs hbl
      go_wp2
      rw [HE9.out]
      have r0 : w9.cell? _ = _ := HR.out.1
      have r1 : w9.cell? _ = _ := HR.out.2.1
      have r2 : w9.cell? _ = _ := HR.out.2.2
      refine bodyPost_ret (v := .tuple #[.slice (some ⟨gO, 0, none⟩) s.size s.size, .agg #[.int .i64 0, .slice none 0 0, .slice none 0 0]]) (by simp [results, Tryd.results54, go_sem, r0, r1, r2]) rfl ?_
      rw [HLF.out.1, HLF.out.2]; exact ⟨_, _, _, 0, none, 0, 0, none, 0, 0, rfl, HN9.out, HWC.out, HBE.out⟩

set_option maxHeartbeats 8000000 in
theorem ref03times (a : Option Addr) (n c : Nat) (l : List Int) (t : Int) (W : World) (hR : RK .i64 W a n l) (hn8 : n * 8 ≤ 140737488351232) (hcap : a = none → c = 0) (lr : List Int) (f : ErrD) (hf : TimesE l t lr f) :
    Calls Tryd.prog 56 #[.slice a n c, .int .i64 t] W (RefL W lr f) := by
  have HL := Lib.hid hR.len
  have HCAP := Lib.hid hcap
  clear hcap
  obtain ⟨w0, hw0⟩ : ∃ w0, W.alloc (.cells #[.int .i64 0, .slice none 0 0, .slice none 0 0] 78) = w0 := ⟨_, rfl⟩
  have HSZ : Hid (w0.heap.size = W.heap.size + 1) := by show _ = _; rw [← hw0]; simp
  have HY0 : Hid (w0.heap[W.heap.size]? = some (.cells #[.int .i64 0, .slice none 0 0, .slice none 0 0] 78)) := by show _ = _; rw [← hw0]; have h := heap_alloc_new (W) (.cells #[.int .i64 0, .slice none 0 0, .slice none 0 0] 78); simpa using h
  have HBX : Hid (Below W.heap.size W w0) := by show Below _ _ _; rw [← hw0]; exact balloc (bnil W) _
  have HB0 := Lib.hid (bnil w0)
  have HWB := Lib.hid hw0
  have HR := Lib.hid (hR.up HBX.out)
  clear hw0 hR
  rcases hf with ⟨h, rfl, rfl⟩ | ⟨h0, h1, rfl, rfl⟩ | ⟨h0, h1, h2, rfl, rfl⟩ | ⟨h0, h1, h2, rfl, rfl⟩
  · skip
    go_enter Tryd.func56, Tryd.ntmps56
    go_wp2_with fail
    rw [HWB.out]
    refine (rawNewq opWord _ _ _ rfl).mono ?_; rintro e w1 ⟨vN, va1, vn1, vc1, va2, vn2, vc2, rfl, hw, hf1, hf2, hN, h0, hb⟩
    have HWv1 := Lib.hid hw
    have HFv : Hid (Fr (W.heap.size + 1) va1 ∧ Fr (W.heap.size + 1) va2) := ⟨hf1.base (by have := HSZ.out; have := HB0.out.size; omega), hf2.base (by have := HSZ.out; have := HB0.out.size; omega)⟩
    have HNv : Hid ((vN != 0) = true) := hN
    clear hw hf1 hf2 hN h0
    have HB1 := Lib.hid (HB0.out.trans (hb.mono HB0.out.size))
    clear hb
    have hy := (HB1.out.block _ (by have := HSZ.out; omega)).trans HY0.out
    obtain ⟨⟨p0, p1, p2⟩, f3, f4, f5⟩ := cellsq hy
    obtain ⟨w9, e9, ⟨r0, r1, r2⟩, hk, hs, hbl, _⟩ := set3q hy (.int .i64 vN) (.slice va1 vn1 vc1) (.slice va2 vn2 vc2)
    have HE9 := Lib.hid e9
    have HR := Lib.hid (And.intro r0 (And.intro r1 r2))
    have HBE := Lib.hid (hbl W W.heap.size (by omega) (HBX.out.trans (HB1.out.mono HBX.out.size)))
    have HWC : Hid (WC w9 (.agg #[.int .i64 vN, .slice va1 vn1 vc1, .slice va2 vn2 vc2]) _) := Lib.hid (HWv1.out.other hk hs HFv.out.1 HFv.out.2)
    clear hy e9 r0 r1 r2 hk hs hbl
    go_wp2
    rw [HE9.out]
    have r0 : w9.cell? _ = _ := HR.out.1
    have r1 : w9.cell? _ = _ := HR.out.2.1
    have r2 : w9.cell? _ = _ := HR.out.2.2
    refine bodyPost_ret (v := .tuple #[.slice none 0 0, .agg #[.int .i64 vN, .slice va1 vn1 vc1, .slice va2 vn2 vc2]]) (by simp [results, Tryd.results56, go_sem, r0, r1, r2]) rfl ?_
    exact ⟨none, 0, 0, _, _, _, _, _, _, _, rfl, RK.nil, HWC.out, HBE.out⟩
  · obtain rfl : n = 0 := by have := HL.out; omega
    clear h1
    have t0 : ¬ t < 0 := by omega
    go_enter Tryd.func56, Tryd.ntmps56
    obtain ⟨⟨p0, p1, p2⟩, f3, f4, f5⟩ := cellsq HY0.out
    rw [← HWB.out] at p0 p1 p2 f3 f4 f5
    have HWC := Lib.hid (wc_none w0)
    go_wp2
    rw [HWB.out]
    rw [HWB.out] at p0 p1 p2
    refine bodyPost_ret (v := .tuple #[.slice none 0 0, .agg #[.int .i64 0, .slice none 0 0, .slice none 0 0]]) (by simp [results, Tryd.results56, go_sem, p0, p1, p2]) rfl ?_
    exact ⟨none, 0, 0, _, _, _, _, _, _, _, rfl, RK.nil, HWC.out, HBX.out⟩
  · have hn0 : 0 < n := by have := HL.out; omega
    rw [← HL.out] at h1 h2
    obtain ⟨tn, rfl⟩ : ∃ tn : Nat, t = (tn : Int) := ⟨t.toNat, by omega⟩
    simp only [Int.toNat_natCast] at h2
    have hnz : ((n : Int) == 0) = false := by rw [beq_eq_false_iff_ne]; omega
    by_cases c4 : 4096 < tn
    · clear h2
      have c4i : (4096 : Int) < (tn : Int) := by omega
      go_enter Tryd.func56, Tryd.ntmps56
      go_wp2_with fail
      rw [HWB.out]
      refine (rawNewq opWord _ _ _ rfl).mono ?_; rintro e w1 ⟨vN, va1, vn1, vc1, va2, vn2, vc2, rfl, hw, hf1, hf2, hN, h0, hb⟩
      have HWv1 := Lib.hid hw
      have HFv : Hid (Fr (W.heap.size + 1) va1 ∧ Fr (W.heap.size + 1) va2) := ⟨hf1.base (by have := HSZ.out; have := HB0.out.size; omega), hf2.base (by have := HSZ.out; have := HB0.out.size; omega)⟩
      have HNv : Hid ((vN != 0) = true) := hN
      clear hw hf1 hf2 hN h0
      have HB1 := Lib.hid (HB0.out.trans (hb.mono HB0.out.size))
      clear hb
      have hy := (HB1.out.block _ (by have := HSZ.out; omega)).trans HY0.out
      obtain ⟨⟨p0, p1, p2⟩, f3, f4, f5⟩ := cellsq hy
      obtain ⟨w9, e9, ⟨r0, r1, r2⟩, hk, hs, hbl, _⟩ := set3q hy (.int .i64 vN) (.slice va1 vn1 vc1) (.slice va2 vn2 vc2)
      have HE9 := Lib.hid e9
      have HR := Lib.hid (And.intro r0 (And.intro r1 r2))
      have HBE := Lib.hid (hbl W W.heap.size (by omega) (HBX.out.trans (HB1.out.mono HBX.out.size)))
      have HWC : Hid (WC w9 (.agg #[.int .i64 vN, .slice va1 vn1 vc1, .slice va2 vn2 vc2]) _) := Lib.hid (HWv1.out.other hk hs HFv.out.1 HFv.out.2)
      clear hy e9 r0 r1 r2 hk hs hbl
      go_wp2
      rw [HE9.out]
      have r0 : w9.cell? _ = _ := HR.out.1
      have r1 : w9.cell? _ = _ := HR.out.2.1
      have r2 : w9.cell? _ = _ := HR.out.2.2
      refine bodyPost_ret (v := .tuple #[.slice none 0 0, .agg #[.int .i64 vN, .slice va1 vn1 vc1, .slice va2 vn2 vc2]]) (by simp [results, Tryd.results56, go_sem, r0, r1, r2]) rfl ?_
      exact ⟨none, 0, 0, _, _, _, _, _, _, _, rfl, RK.nil, HWC.out, HBE.out⟩
    obtain ⟨m, hm⟩ : ∃ m, tn * n = m := ⟨_, rfl⟩
    have hmi : (tn : Int) * (n : Int) = (m : Int) := by rw [← hm]; simp
    have hmb : m ≤ 4096 * 17592186044416 := by rw [← hm]; exact Nat.mul_le_mul (by omega) (by omega)
    rw [hm] at h2
    have mw : IntKind.i64.wrap (m : Int) = (m : Int) := IntWalk.i64_in _ (by omega)
    have c4i : ¬ (4096 : Int) < (tn : Int) := by omega
    have m4i : (4096 : Int) < (m : Int) := by omega
    clear hm
    go_enter Tryd.func56, Tryd.ntmps56
    go_wp2_with fail
    rw [HWB.out]
    refine (rawNewq opWord _ _ _ rfl).mono ?_; rintro e w1 ⟨vN, va1, vn1, vc1, va2, vn2, vc2, rfl, hw, hf1, hf2, hN, h0, hb⟩
    have HWv1 := Lib.hid hw
    have HFv : Hid (Fr (W.heap.size + 1) va1 ∧ Fr (W.heap.size + 1) va2) := ⟨hf1.base (by have := HSZ.out; have := HB0.out.size; omega), hf2.base (by have := HSZ.out; have := HB0.out.size; omega)⟩
    have HNv : Hid ((vN != 0) = true) := hN
    clear hw hf1 hf2 hN h0
    have HB1 := Lib.hid (HB0.out.trans (hb.mono HB0.out.size))
    clear hb
    have hy := (HB1.out.block _ (by have := HSZ.out; omega)).trans HY0.out
    obtain ⟨⟨p0, p1, p2⟩, f3, f4, f5⟩ := cellsq hy
    obtain ⟨w9, e9, ⟨r0, r1, r2⟩, hk, hs, hbl, _⟩ := set3q hy (.int .i64 vN) (.slice va1 vn1 vc1) (.slice va2 vn2 vc2)
    have HE9 := Lib.hid e9
    have HR := Lib.hid (And.intro r0 (And.intro r1 r2))
    have HBE := Lib.hid (hbl W W.heap.size (by omega) (HBX.out.trans (HB1.out.mono HBX.out.size)))
    have HWC : Hid (WC w9 (.agg #[.int .i64 vN, .slice va1 vn1 vc1, .slice va2 vn2 vc2]) _) := Lib.hid (HWv1.out.other hk hs HFv.out.1 HFv.out.2)
    clear hy e9 r0 r1 r2 hk hs hbl
    go_wp2
    rw [HE9.out]
    have r0 : w9.cell? _ = _ := HR.out.1
    have r1 : w9.cell? _ = _ := HR.out.2.1
    have r2 : w9.cell? _ = _ := HR.out.2.2
    refine bodyPost_ret (v := .tuple #[.slice none 0 0, .agg #[.int .i64 vN, .slice va1 vn1 vc1, .slice va2 vn2 vc2]]) (by simp [results, Tryd.results56, go_sem, r0, r1, r2]) rfl ?_
    exact ⟨none, 0, 0, _, _, _, _, _, _, _, rfl, RK.nil, HWC.out, HBE.out⟩
  · have hn0 : 0 < n := by have := HL.out; omega
    rw [← HL.out] at h1 h2 ⊢
    obtain ⟨tn, rfl⟩ : ∃ tn : Nat, t = (tn : Int) := ⟨t.toNat, by omega⟩
    simp only [Int.toNat_natCast] at h2 ⊢
    have hnz : ((n : Int) == 0) = false := by rw [beq_eq_false_iff_ne]; omega
    have htn : tn ≤ 4096 := Nat.le_trans (Nat.le_mul_of_pos_right tn hn0) h2
    have HM := Lib.hid h2
    obtain ⟨m, hm⟩ : ∃ m, tn * n = m := ⟨_, rfl⟩
    have hmi : (tn : Int) * (n : Int) = (m : Int) := by rw [← hm]; simp
    rw [hm] at h2
    have mw : IntKind.i64.wrap (m : Int) = (m : Int) := IntWalk.i64_in _ (by omega)
    have c4i : ¬ (4096 : Int) < (tn : Int) := by omega
    have m4i : ¬ (4096 : Int) < (m : Int) := by omega
    have h0i : ¬ (tn : Int) < 0 := by omega
    clear hm h0 h1
    go_enter Tryd.func56, Tryd.ntmps56
    go_wp2_with fail
    rw [HWB.out]
    go_loopw [6, 7] (fun sx ix wr => ∃ (i M : Nat) (a1 : Option Addr) (c1 : Nat), i ≤ tn ∧ M = n * i ∧ ix = .int .i64 (i : Nat) ∧ sx = .slice a1 M c1 ∧ wr.ownsRow w0.heap.size 3 1 (.slice a1 M c1) M ((repL l M).map (Value.int .i64)) ∧ Below w0.heap.size w0 wr) (fun _ ix _ => tn - (intOf ix).toNat)
    case atStart => exact ⟨0, 0, none, 0, Nat.zero_le _, rfl, rfl, rfl, World.ownsRow_nil _ _ _ _, HB0.out⟩
    case round =>
      obtain ⟨i, M, a1, c1, hi, hM, rfl, rfl, ho, hb⟩ := hrel
      generalize wr = w1 at *
      have HB1 := Lib.hid hb
      have HO := Lib.hid ho
      have HMM := Lib.hid hM
      have hM4 : M ≤ 4096 := by rw [hM, Nat.mul_comm]; exact Nat.le_trans (Nat.mul_le_mul_right _ hi) HM.out
      clear hb ho hM
      by_cases hin : i < tn
      · have HRD : Hid (Rd w1 a n 1 (l.map (Value.int .i64))) := (HR.out.up HB1.out).2
        have hn4 : n ≤ 4096 := by
          have h1 : 1 * n ≤ tn * n := Nat.mul_le_mul_right _ (by omega)
          have := HM.out
          omega
        go_wp2_with (first
          | (at_builtin; refine apx rfl _ _ _ rfl w0.heap.size et_int _ M _ HO.out rfl a n c _ rfl HCAP.out HRD.out (by intro u hu; obtain ⟨x, _, rfl⟩ := List.mem_map.1 hu; rfl) (by unfold maxLen; omega) (by omega) HB1.out.size ?_; intro a6 c6 w6 h6; have H6 := Lib.hid h6; clear h6))
        have HO6 : Hid (w6.ownsRow w0.heap.size 3 1 (.slice a6 (M + n) c6) (M + n) ((repL l (M + n)).map (Value.int .i64))) := by
          show World.ownsRow _ _ _ _ _ _ _
          have h := H6.out.own
          rw [← List.map_append] at h
          have e : repL l (M + n) = repL l M ++ l := by rw [HMM.out, show n * i + n = n * (i + 1) from by rw [Nat.mul_succ]]; exact repL_add l n i HL.out
          rw [e]; exact h
        have HB6 := Lib.hid (HB1.out.trans H6.out.below)
        clear HO H6
        go_roundw
        case rel => exact ⟨i + 1, M + n, a6, c6, by omega, by rw [Nat.mul_succ, HMM.out], by go_num, rfl, HO6.out, HB6.out⟩
        case measure => simp [intOf]; omega
      · obtain rfl : i = tn := by omega
        have HRK := Lib.hid (RK.of_own HO.out)
        have hy := (HB1.out.block _ (by have := HSZ.out; omega)).trans HY0.out
        obtain ⟨⟨p0, p1, p2⟩, f3, f4, f5⟩ := cellsq hy
        obtain ⟨w9, e9, ⟨r0, r1, r2⟩, hk, hs, hbl, _⟩ := set3q hy (.int .i64 0) (.slice none 0 0) (.slice none 0 0)
        have HE9 := Lib.hid e9
        have HR := Lib.hid (And.intro r0 (And.intro r1 r2))
        have HBE := Lib.hid (hbl W W.heap.size (by omega) (HBX.out.trans (HB1.out.mono HBX.out.size)))
        have HWC := Lib.hid (wc_none w9)
        have HN9 := Lib.hid (RK.of_own (own_heapV HO.out hk (by have := HSZ.out; omega)))
        clear hy e9 r0 r1 r2 hk hs hbl
        go_wp2
        rw [HE9.out]
        have r0 : w9.cell? _ = _ := HR.out.1
        have r1 : w9.cell? _ = _ := HR.out.2.1
        have r2 : w9.cell? _ = _ := HR.out.2.2
        refine bodyPost_ret (v := .tuple #[.slice a1 M c1, .agg #[.int .i64 0, .slice none 0 0, .slice none 0 0]]) (by simp [results, Tryd.results56, go_sem, r0, r1, r2]) rfl ?_
        rw [← HMM.out]; exact ⟨_, _, _, 0, none, 0, 0, none, 0, 0, rfl, HN9.out, HWC.out, HBE.out⟩
end Go.Proofs.YtnmegpplfbkpcaaDoor
