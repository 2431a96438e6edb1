/- edenlaw24.JudgeMore returns true. -/
import Derived.Test.YtoaooblodgejdaaDoorJdgG
import Derived.Test.YtoaooblodgejdaaDoorEvX
import Derived.Test.YtoaooblodgejdaaDoorRefPJ
import Derived.Deep.RegionLaw
import Derived.Deep.Cut
namespace Go.Proofs.YtoaooblodgejdaaDoor
open Go.RowKit
set_option linter.unusedVariables false
set_option maxRecDepth 100000

set_option maxHeartbeats 4000000 in
theorem heavy24_M (w h : Int) (a aB : Option Addr) (n c m cB : Nat) (hm : n ≤ maxLen) (W : World) : Calls Tryd.prog 52 #[patV w h a n c, .slice aB m cB] W fun e w' => e = .returned (.bool (decide (40000 < m ∨ 5000 < n))) ∧ Below W.heap.size W w' := by
  by_cases hm4 : 40000 < m
  · have e1 : decide (40000 < m ∨ 5000 < n) = true := decide_eq_true (.inl hm4)
    have e2 : (40000 : Int) < (m : Int) := by omega
    rw [e1]
    clear e1
    go_enter Tryd.func52, Tryd.ntmps52
    go_wp2
    go_ret
    exact ⟨rfl, balloc (bnil W) _⟩
  · by_cases hn5 : 5000 < n
    · have e1 : decide (40000 < m ∨ 5000 < n) = true := decide_eq_true (.inr hn5)
      have e2 : ¬ (40000 : Int) < (m : Int) := by omega
      have e3 : (5000 : Int) < (n : Int) := by omega
      rw [e1]
      clear e1
      go_enter Tryd.func52, Tryd.ntmps52
      go_wp2
      go_ret
      exact ⟨rfl, balloc (bnil W) _⟩
    · have e1 : decide (40000 < m ∨ 5000 < n) = false := decide_eq_false (by omega)
      have e2 : ¬ (40000 : Int) < (m : Int) := by omega
      have e3 : ¬ (5000 : Int) < (n : Int) := by omega
      rw [e1]
      clear e1
      go_enter Tryd.func52, Tryd.ntmps52
      go_wp2
      go_ret
      exact ⟨rfl, balloc (bnil W) _⟩
theorem hold_mem {t cols : List Int} {h m : Nat} : ∀ {L acc : List Ent} {x : Ent}, AllH t cols h m L acc → x ∈ L → hold t cols h m x (acc ++ L)
  | [], _, _, _, hx => by cases hx
  | y :: r, acc, x, hh, hx => by
    rcases List.mem_cons.1 hx with rfl | hx
    · exact hold_mono (fun z hz => List.mem_append_left _ hz) hh.1
    · have := hold_mem hh.2 hx
      rwa [List.append_assoc, List.singleton_append] at this
/-- what a certificate that holds is -/
theorem judge_right {t : List Int} {w h : Int} {l bs : List Int} {n : Nat} (hj : judgeF t w h l bs = (n, none)) : ∃ (w' h' : Nat) (L : List Ent), w = w' ∧ h = h' ∧ IsPatch w' h' l ∧ IsTab t ∧ w' ≤ 8 ∧ h' ≤ 4 ∧ decF bs = .ok ((w' : Int), (h' : Int), L) ∧
    (∀ x ∈ L, Fit3 w' (4 * 2 ^ h') x) ∧ 3 * L.length + 4 = bs.length ∧ AllH t (colL w' h' l) h' (4 * 2 ^ h') L [] ∧ 4 * 2 ^ h' * (4 * 2 ^ h') ≤ cnt0 (4 * 2 ^ h') L (4 * 2 ^ h' * (4 * 2 ^ h')) ∧ n = costs t (colL w' h' l) h' (4 * 2 ^ h') L := by
  cases hg : gvD t w h l with
  | some e => rw [judgeF_gv hg] at hj; cases hj
  | none =>
    cases hd : decF bs with
    | error y => rw [judgeF_er hg hd] at hj; cases hj
    | ok z =>
      obtain ⟨cw, ch, L⟩ := z
      obtain ⟨w', h', rfl, rfl, hp, ht, hw8, hh4⟩ := gvD_none hg
      obtain ⟨w2, h2, hcw, hch, _, _, h1, h4, hfit, hlen, _⟩ := dec_ok hd
      have hsame : cw = (w' : Int) ∧ ch = (h' : Int) := by
        unfold judgeF at hj
        rw [hg, hd] at hj
        simp only at hj
        split at hj
        · cases hj
        · rename_i hn; omega
      obtain ⟨rfl, rfl⟩ := hsame
      obtain rfl : w2 = w' := by omega
      obtain rfl : h2 = h' := by omega
      refine ⟨w2, h2, L, rfl, rfl, hp, ht, hw8, hh4, rfl, hfit, hlen, ?_⟩
      rw [judgeF_run hg hd rfl] at hj
      have hr := run_all (t := t) (cols := colL w2 h2 l) (h := h2) (m := 4 * 2 ^ h2) (w := w2) L 0 [] 0 hfit
      rw [cnt0_nil] at hr
      generalize judgeRun t (colL w2 h2 l) h2 (4 * 2 ^ h2) L 0 [] 0 0 = X at hj hr
      obtain ⟨n0, o⟩ := X
      cases o with
      | some a => cases hj
      | none =>
        have e : n0 = n := by
          have := congrArg Prod.fst hj
          exact this
        subst e
        obtain ⟨ha, hc⟩ := hr.1.1 rfl
        have := hr.2 rfl
        refine ⟨ha, hc, ?_⟩
        have h0 : n0 = 0 + costs t (colL w2 h2 l) h2 (4 * 2 ^ h2) L := this
        omega
structure MoreF (t l : List Int) (w h n : Nat) (L : List Ent) : Prop where
  ne : L.length ≠ 0
  enc : ∀ K : List Ent, (∀ x ∈ K, x ∈ L) → K.length ≤ 43689 → EncOk (w : Int) (h : Int) K
  first : ∀ x r, L = x :: r → (judgeF t (w : Int) (h : Int) l (encL (w : Int) (h : Int) (x :: L))).2 = none ∧ n < (judgeF t (w : Int) (h : Int) l (encL (w : Int) (h : Int) (x :: L))).1
  behind : ∀ x ∈ L, (judgeF t (w : Int) (h : Int) l (encL (w : Int) (h : Int) (L ++ [x]))).2 = none ∧ n < (judgeF t (w : Int) (h : Int) l (encL (w : Int) (h : Int) (L ++ [x]))).1
  less : ∀ k, k < L.length → (judgeF t (w : Int) (h : Int) l (encL (w : Int) (h : Int) (L.take k ++ L.drop (k + 1)))).2 = none → (judgeF t (w : Int) (h : Int) l (encL (w : Int) (h : Int) (L.take k ++ L.drop (k + 1)))).1 < n
theorem more_right {t l : List Int} {w h n : Nat} {L : List Ent} (hp : IsPatch w h l) (ht : IsTab t) (w8 : w ≤ 8) (h4 : h ≤ 4) (hfit : ∀ x ∈ L, Fit3 w (4 * 2 ^ h) x) (hl : L.length ≤ 20000)
    (ha : AllH t (colL w h l) h (4 * 2 ^ h) L []) (hc : 4 * 2 ^ h * (4 * 2 ^ h) ≤ cnt0 (4 * 2 ^ h) L (4 * 2 ^ h * (4 * 2 ^ h))) (hn : n = costs t (colL w h l) h (4 * 2 ^ h) L) : MoreF t l w h n L := by
  have w1 := hp.w1
  have h1 := hp.h1
  have hm0 : 0 < 4 * 2 ^ h := (m_le h4).2
  have enc : ∀ K : List Ent, (∀ x ∈ K, x ∈ L) → K.length ≤ 43689 → EncOk (w : Int) (h : Int) K := fun K hk hl => encOk_fit w1 w8 h1 h4 hl fun x hx => hfit x (hk x hx)
  refine ⟨?_, enc, ?_, ?_, ?_⟩
  · intro e
    have : L = [] := List.eq_nil_of_length_eq_zero e
    subst this
    rw [cnt0_nil] at hc
    have := Nat.mul_pos hm0 hm0
    omega
  · intro x r e
    have hs : ∀ y ∈ x :: L, y ∈ L := fun y hy => by
      rcases List.mem_cons.1 hy with rfl | hy
      · rw [e]; exact List.mem_cons_self ..
      · exact hy
    have hj := judge_of ht hp w8 h4 (enc (x :: L) hs (by simp; omega)) (fun y hy => hfit y (hs y hy))
    have hx : hold t (colL w h l) h (4 * 2 ^ h) x [] := by rw [e] at ha; exact ha.1
    have h2 := hj.1.2 ⟨⟨hx, AllH.mono (fun y hy => by cases hy) ha⟩, Nat.le_trans hc (cnt0_mono (fun y hy => List.mem_cons_of_mem _ hy) _)⟩
    refine ⟨h2, ?_⟩
    rw [hj.2 h2]
    have := costE_pos (t := t) (cols := colL w h l) h1 hm0 x
    show n < costE t (colL w h l) h (4 * 2 ^ h) x + costs t (colL w h l) h (4 * 2 ^ h) L
    omega
  · intro x hx
    have hs : ∀ y ∈ L ++ [x], y ∈ L := fun y hy => by
      rcases List.mem_append.1 hy with hy | hy
      · exact hy
      · rw [List.mem_singleton] at hy; rw [hy]; exact hx
    have hj := judge_of ht hp w8 h4 (enc (L ++ [x]) hs (by simp; omega)) (fun y hy => hfit y (hs y hy))
    have h2 := hj.1.2 ⟨allH_append.2 ⟨ha, hold_mem ha hx, trivial⟩, Nat.le_trans hc (cnt0_mono (fun y hy => List.mem_append_left _ hy) _)⟩
    refine ⟨h2, ?_⟩
    rw [hj.2 h2, costs_append]
    have := costE_pos (t := t) (cols := colL w h l) h1 hm0 x
    show n < _ + (costE t (colL w h l) h (4 * 2 ^ h) x + 0)
    omega
  · intro k hk h2
    have hs : ∀ y ∈ L.take k ++ L.drop (k + 1), y ∈ L := fun y hy => by
      rcases List.mem_append.1 hy with hy | hy
      · exact List.mem_of_mem_take hy
      · exact List.mem_of_mem_drop hy
    have hj := judge_of ht hp w8 h4 (enc (L.take k ++ L.drop (k + 1)) hs (by simp; omega)) (fun y hy => hfit y (hs y hy))
    rw [hj.2 h2, costs_append]
    have e : L = L.take k ++ L[k] :: L.drop (k + 1) := by rw [← List.drop_eq_getElem_cons hk, List.take_append_drop]
    have e2 : costs t (colL w h l) h (4 * 2 ^ h) L = costs t (colL w h l) h (4 * 2 ^ h) (L.take k) + (costE t (colL w h l) h (4 * 2 ^ h) L[k] + costs t (colL w h l) h (4 * 2 ^ h) (L.drop (k + 1))) := by
      conv => lhs; rw [e]
      rw [costs_append]; rfl
    have := costE_pos (t := t) (cols := colL w h l) h1 hm0 L[k]
    omega
theorem ents_oneM (l : List Ent) : ∀ u ∈ entsC l, u.oneCell' = true := by
  intro u hu
  obtain ⟨x, _, hx⟩ := List.mem_flatMap.1 hu
  simp only [entC, List.mem_cons, List.not_mem_nil, or_false] at hx
  rcases hx with rfl | rfl | rfl <;> rfl
theorem entsC_splitM (l : List Ent) (k : Nat) : entsC l = entsC (l.take k) ++ entsC (l.drop k) := by
  have e : entsC (l.take k ++ l.drop k) = entsC (l.take k) ++ entsC (l.drop k) := List.flatMap_append ..
  rw [List.take_append_drop] at e
  exact e
theorem rd_takeM {w : World} {a : Option Addr} {n k : Nat} {l : List Ent} (h : Rd w a n 3 (entsC l)) (hk : k ≤ n) (hl : l.length = n) : Rd w a k 3 (entsC (l.take k)) := by
  have q := h.take hk
  rw [entsC_splitM l k, List.take_left' (by rw [entsC_len, List.length_take]; omega)] at q
  exact q
theorem rd_dropM {w : World} {b o n k : Nat} {l : List Ent} (h : Rd w (some ⟨b, o, none⟩) n 3 (entsC l)) (hk : k ≤ n) (hl : l.length = n) : Rd w (some ⟨b, o + k * 3, none⟩) (n - k) 3 (entsC (l.drop k)) := by
  refine ⟨by rw [entsC_len, List.length_drop]; omega, ?_⟩
  rcases h.2 with h0 | ⟨b', o', e, hlt, hc⟩
  · exact .inl (by omega)
  · cases e
    refine .inr ⟨b, o + k * 3, rfl, hlt, fun j u hu => ?_⟩
    rw [Nat.add_assoc]
    refine hc _ _ ?_
    rw [entsC_splitM l k, List.getElem?_append_right (by rw [entsC_len, List.length_take]; omega)]
    have e2 : k * 3 + j - (entsC (l.take k)).length = j := by rw [entsC_len, List.length_take]; omega
    rw [e2]; exact hu
theorem lit_oneM (x : Ent) : ∀ u ∈ [Value.int .i64 x.1, .int .i64 x.2.1, .int .i64 x.2.2], u.oneCell' = true := by
  intro u hu
  simp only [List.mem_cons, List.not_mem_nil, or_false] at hu
  rcases hu with rfl | rfl | rfl <;> rfl
theorem encode_okN (w h : Int) (a : Option Addr) (c n : Nat) (l : List Ent) (W : World) (hn : n = l.length) (hR : Rd W a n 3 (entsC l)) (H : EncOk w h l) :
    Calls Tryd.prog 55 #[.int .i64 w, .int .i64 h, .slice a n c] W fun e w' =>
      ∃ a' c', e = .returned (.tuple #[.slice a' (4 + 3 * l.length) c', .nilIface]) ∧ w'.ownsRow W.heap.size 5 1 (.slice a' (4 + 3 * l.length) c') (4 + 3 * l.length) ((encL w h l).map (Value.int .u8)) ∧ Below W.heap.size W w' := by
  subst hn
  exact encode_okM w h a c _ l W rfl hR H
theorem modM (s : Int) (m : Nat) (hm : 0 < m) : ∃ (r : Int) (X : Nat), s.tmod (m : Int) = r ∧ -(m : Int) < r ∧ r < (m : Int) ∧ (r + m).tmod m = (X : Int) ∧ (r + m) % (m : Int) = (X : Int) ∧ X < m := by
  have h1 := Int.lt_tmod_of_pos s (show (0 : Int) < (m : Int) by omega)
  have h2 := Int.tmod_lt_of_pos s (show (0 : Int) < (m : Int) by omega)
  have h3 := Int.emod_nonneg (s.tmod m + m) (show (m : Int) ≠ 0 by omega)
  have h4 := Int.emod_lt_of_pos (s.tmod m + m) (show (0 : Int) < (m : Int) by omega)
  have e : (s.tmod m + m) % (m : Int) = (((s.tmod m + m) % (m : Int)).toNat : Int) := by omega
  refine ⟨s.tmod m, ((s.tmod m + m) % (m : Int)).toNat, rfl, by omega, h2, ?_, e, by omega⟩
  rw [Int.tmod_eq_emod_of_nonneg (by omega)]
  exact e
set_option maxHeartbeats 32000000 in
theorem judge_more (w h kk : Int) (a aT aB : Option Addr) (n c nT cT cB : Nat) (l t bs : List Int) (W : World) (R : Nat → Addr) (hE : Env W R) (hR : RK .i64 W a n l) (hm : n ≤ maxLen) (hx : I64 l) (hT : RK .i64 W aT nT t) (hmT : nT ≤ maxLen) (hBs : RK .u8 W aB bs.length bs) (hBr : ∀ x ∈ bs, 0 ≤ x ∧ x ≤ 255) (hBl : bs.length ≤ maxLen) :
    Calls Tryd.prog 13 #[.slice aT nT cT, patV w h a n c, .slice aB bs.length cB, .int .i64 kk] W (TrueBelow W) := by
  have HI6 := Lib.hid hx
  have HBR := Lib.hid hBr
  obtain ⟨jn, je, hj⟩ : ∃ jn je, judgeF t w h l bs = (jn, je) := ⟨_, _, rfl⟩
  have c_j := fun W (hS : Sent W R) (hR : RK .i64 W a n l) (hT : RK .i64 W aT nT t) (hBs : RK .u8 W aB bs.length bs) => judge_any w h a aT aB n c nT cT cB l t bs W R hS hR hm hx hT hmT hBs hBr hBl
  simp only [hj] at c_j
  have HC := Lib.hid c_j
  have HJ := Lib.hid hj
  clear c_j hj
  have T0 := Tk.nil W
  have T1 := T0.add (fun wv => Below W.heap.size W wv) (bnil W)
  clear T0
  have T2 := T1.add (fun wv => Env wv R) (hE)
  clear T1
  have T3 := T2.add (fun wv => RK .i64 wv a n l) (hR)
  clear T2
  have T4 := T3.add (fun wv => RK .i64 wv aT nT t) (hT)
  clear T3
  have T5 := T4.add (fun wv => RK .u8 wv aB bs.length bs) (hBs)
  clear T4
  clear hE hR hx hT hBs hBr
  obtain ⟨Wb, hWb⟩ : ∃ Wb, W.alloc (.cells #[.int .i64 w, .int .i64 h, .slice a n c] 24) = Wb := ⟨_, rfl⟩
  have hbWb : Below W.heap.size W Wb := by rw [← hWb]; exact balloc (bnil W) _
  have T6 := T5.up hbWb
  clear T5
  have T7 := T6.add (fun wv => wv.cell? ⟨W.heap.size, 0, none⟩ = some (.int .i64 w) ∧ wv.cell? ⟨W.heap.size, 1, none⟩ = some (.int .i64 h) ∧ wv.cell? ⟨W.heap.size, 2, none⟩ = some (.slice a n c)) (by rw [← hWb]; exact ⟨cnw (by simp) rfl, cnw (by simp) rfl, cnw (by simp) rfl⟩)
  clear T6
  have HWb := Lib.hid hWb
  clear hWb hbWb
  go_enter Tryd.func13, Tryd.ntmps13
  go_wp2_with fail
  rw [HWb.out]
  refine (awake24_any Wb R T7.out.1.1.1.1.2).mono ?_; rintro e w0 ⟨rfl, hbw0⟩
  have T8 := T7.up hbw0
  clear T7
  have v_p0 : w0.cell? ⟨W.heap.size, 0, none⟩ = some (.int .i64 w) := T8.out.2.1
  have v_p1 : w0.cell? ⟨W.heap.size, 1, none⟩ = some (.int .i64 h) := T8.out.2.2.1
  have v_p2 : w0.cell? ⟨W.heap.size, 2, none⟩ = some (.slice a n c) := T8.out.2.2.2
  go_wp2_with fail
  refine (heavy24_M w h a aB n c bs.length cB hm w0).mono ?_; rintro e w1 ⟨rfl, hbw1⟩
  clear v_p0 v_p1 v_p2
  have T9 := T8.up hbw1
  clear T8
  by_cases hv : 40000 < bs.length ∨ 5000 < n
  · skip
    have hd := decide_eq_true hv
    rw [hd]
    clear hd hv
    go_wp2
    go_ret
    exact ⟨rfl, T9.out.1.1.1.1.1.2⟩
  have hd := decide_eq_false hv
  rw [hd]
  have hb4 : bs.length ≤ 40000 := by omega
  clear hd hv
  have v_p0 : w1.cell? ⟨W.heap.size, 0, none⟩ = some (.int .i64 w) := T9.out.2.1
  have v_p1 : w1.cell? ⟨W.heap.size, 1, none⟩ = some (.int .i64 h) := T9.out.2.2.1
  have v_p2 : w1.cell? ⟨W.heap.size, 2, none⟩ = some (.slice a n c) := T9.out.2.2.2
  go_wp2_with fail
  refine (HC.out w1 (T9.out.1.1.1.1.2).sent T9.out.1.1.1.2 T9.out.1.1.2 T9.out.1.2).mono ?_; rintro e w2 ⟨ev, rfl, he, hbw2⟩
  clear v_p0 v_p1 v_p2
  have T10 := T9.up hbw2
  clear T9
  cases je with
  | some y =>
    obtain ⟨es0, n0⟩ := y
    have he : EC R w2 ev (some (es0, n0)) := he
    obtain ⟨t9, p9, rfl⟩ := Chain.iface he
    clear he HJ
    go_wp2
    go_ret
    exact ⟨rfl, T10.out.1.1.1.1.1.2⟩
  | none =>
    obtain rfl : ev = .nilIface := he
    obtain ⟨w, h, L, rfl, rfl, hpp, htb, hw8, hh4, hdc, hfit, hlen, hal, hcn, hjn⟩ := judge_right HJ.out
    have hmr := more_right hpp htb hw8 hh4 hfit (by omega) hal hcn hjn
    have hLL0 := hmr.ne
    have HMR := Lib.hid hmr
    have HPP := Lib.hid hpp
    have HT := Lib.hid htb
    have HDC := Lib.hid hdc
    obtain ⟨LL, hLL⟩ : ∃ LL, L.length = LL := ⟨_, rfl⟩
    rw [hLL] at hlen hLL0
    have HLL := Lib.hid hLL
    clear hpp htb hdc hfit hal hcn hjn hmr hLL HJ HC
    have hL1 : LL ≤ 13332 := by omega
    have hL0 : 1 ≤ LL := by omega
    go_wp2_with fail
    refine (dec_anyJ aB cB bs w2 R (T10.out.1.1.1.1.2).sent.glob T10.out.1.2 HBR.out hBl).mono ?_; rintro e w3 ⟨hbw3, hdp⟩
    have T11 := T10.up hbw3
    clear T10
    rw [HDC.out] at hdp
    obtain ⟨aL, cL, rfl, hoL⟩ := hdp
    have hLr := (owns_rd hoL).2
    obtain ⟨_, _, hse, hLc, hLm⟩ := owns_slice hoL
    cases hse
    rw [HLL.out] at hLr hLc ⊢
    have T12 := T11.add (fun wv => Rd wv aL LL 3 (entsC L)) (hLr)
    clear T11
    clear hoL hLr
    have k0 : ¬ (LL : Int) = 0 := by omega
    have k0b : ((LL : Int) == 0) = false := by rw [beq_eq_false_iff_ne]; exact k0
    have v_p0 : w3.cell? ⟨W.heap.size, 0, none⟩ = some (.int .i64 w) := T12.out.1.2.1
    have v_p1 : w3.cell? ⟨W.heap.size, 1, none⟩ = some (.int .i64 h) := T12.out.1.2.2.1
    have v_p2 : w3.cell? ⟨W.heap.size, 2, none⟩ = some (.slice a n c) := T12.out.1.2.2.2
    go_wp2_with fail
    refine (refpcheck_ok w h a n c l w3 T12.out.1.1.1.1.2 hm HPP.out).mono ?_; rintro e w4 ⟨rfl, hbw4⟩
    clear v_p0 v_p1 v_p2
    have T13 := T12.up hbw4
    clear T12
    go_wp2_with fail
    refine (refBadE _ _ _ w4 false rfl).mono ?_; rintro e w5 ⟨rfl, hbw5⟩
    have T14 := T13.up hbw5
    clear T13
    obtain ⟨rx, X, mx1, mx2, mx3, mx4, mx5, hX⟩ := modM kk LL (by omega)
    have b1 : IntKind.i64.wrap (rx + (LL : Int)) = rx + (LL : Int) := IntWalk.i64_in _ (by omega)
    have b2 : IntKind.i64.wrap (X : Int) = (X : Int) := IntWalk.i64_in _ (by omega)
    have b3 : (0 : Int) ≤ (X : Int) := by omega
    have b4 : (X : Int) < (LL : Int) := by omega
    clear mx2 mx3 mx5
    obtain ⟨bL, oL, hbL, hbl, hcl⟩ := (T14.out.2).2.resolve_left (by omega)
    subst hbL
    have T15 := T14.add (fun wv => Below w5.heap.size w5 wv) (bnil w5)
    clear T14
    obtain ⟨x0, r0, hL⟩ : ∃ x r, L = x :: r := by
      cases hL : L with
      | nil => have := HLL.out; rw [hL] at this; simp at this; omega
      | cons x r => exact ⟨x, r, rfl⟩
    have e0 : w5.cell? ⟨bL, oL, none⟩ = some (.int .i64 x0.1) := hcl 0 _ (by rw [hL]; rfl)
    have e1 : w5.cell? ⟨bL, oL + 1, none⟩ = some (.int .i64 x0.2.1) := hcl 1 _ (by rw [hL]; rfl)
    have e2 : w5.cell? ⟨bL, oL + 2, none⟩ = some (.int .i64 x0.2.2) := hcl 2 _ (by rw [hL]; rfl)
    have hx0 : x0 ∈ L := by rw [hL]; exact List.mem_cons_self ..
    obtain ⟨jn1, je1, hj1⟩ : ∃ jn1 je1, judgeF t (w : Int) (h : Int) l (encL (w : Int) (h : Int) (x0 :: L)) = (jn1, je1) := ⟨_, _, rfl⟩
    have hf1 := HMR.out.first x0 r0 hL
    rw [hj1] at hf1
    obtain ⟨hf1a, hf1b⟩ := hf1
    have hf1a : je1 = none := hf1a
    subst hf1a
    have hf1b : jn < jn1 := hf1b
    have henc1 := HMR.out.enc (x0 :: L) (fun y hy => by rcases List.mem_cons.1 hy with rfl | hy; exact hx0; exact hy) (by have := HLL.out; simp; omega)
    have HX0 := Lib.hid hx0
    have HL := Lib.hid hL
    have HJ1 := Lib.hid hj1
    have HE1 := Lib.hid henc1
    have HCL := Lib.hid (And.intro hbl hcl)
    clear hx0 hL hj1 henc1 hbl hcl
    go_wp2_with (first
      | (at_builtin; refine apx rfl _ _ _ rfl w5.heap.size et_ent _ 1 _ (own_lit rfl (Nat.le_refl _) (by decide) rfl) rfl (some ⟨bL, oL, none⟩) LL cL _ rfl nofun ((T15.out.1.2).al _) (ents_oneM _) (by unfold maxLen; omega) (by omega) (by simp) ?_; intro a6 c6 w6 h6))
    have hb6 : Below w5.heap.size w5 w6 := (balloc (bnil w5) _).trans h6.below
    have hr6 : Rd w6 a6 (1 + LL) 3 (entsC (x0 :: L)) := (owns_rd h6.own).2
    have T16 := T15.up hb6
    clear T15
    have T17 := T16.add (fun wv => Rd wv a6 (1 + LL) 3 (entsC (x0 :: L))) (hr6)
    clear T16
    clear h6 hb6 hr6 e0 e1 e2
    obtain ⟨bs1, hbs1⟩ : ∃ bs, encL (w : Int) (h : Int) (x0 :: L) = bs := ⟨_, rfl⟩
    have hbd1 := encL_bd HE1.out
    have hle1 := encL_len (w : Int) (h : Int) (x0 :: L)
    have hjj1 := HJ1.out
    rw [hbs1] at hbd1 hle1 hjj1
    have hlm1 : bs1.length ≤ maxLen := by rw [hle1]; have := HE1.out.len; unfold maxLen; omega
    have c_j1 := fun aE cE W (hS : Sent W R) (hR : RK .i64 W a n l) (hT : RK .i64 W aT nT t) (hBs : RK .u8 W aE bs1.length bs1) => judge_any w h a aT aE n c nT cT cE l t bs1 W R hS hR hm HI6.out hT hmT hBs hbd1 hlm1
    simp only [hjj1] at c_j1
    have HC1 := Lib.hid c_j1
    have HLE1 := Lib.hid hle1
    have HBS1 := Lib.hid hbs1
    clear hbd1 hle1 hjj1 c_j1 hbs1
    go_wp2_with fail
    refine (encode_okN w h a6 c6 (1 + LL) (x0 :: L) w6 (by have := HLL.out; simp; omega) T17.out.2 HE1.out).mono ?_; rintro e w7 ⟨aE1, cE1, rfl, hoE, hbw7⟩
    have T18 := T17.up hbw7
    clear T17
    rw [HBS1.out] at hoE
    rw [← HLE1.out] at hoE ⊢
    have T19 := T18.add (fun wv => RK .u8 wv aE1 bs1.length bs1) (⟨rfl, (owns_rd hoE).2⟩)
    clear T18
    clear hoE
    have v_p0 : w7.cell? ⟨W.heap.size, 0, none⟩ = some (.int .i64 w) := T19.out.1.1.1.1.2.1
    have v_p1 : w7.cell? ⟨W.heap.size, 1, none⟩ = some (.int .i64 h) := T19.out.1.1.1.1.2.2.1
    have v_p2 : w7.cell? ⟨W.heap.size, 2, none⟩ = some (.slice a n c) := T19.out.1.1.1.1.2.2.2
    go_wp2_with fail
    refine (HC1.out aE1 cE1 w7 (T19.out.1.1.1.1.1.1.1.1.2).sent T19.out.1.1.1.1.1.1.1.2 T19.out.1.1.1.1.1.1.2 T19.out.2).mono ?_; rintro e w8 ⟨ev1, rfl, he1, hbw8⟩
    clear v_p0 v_p1 v_p2
    have T20 := T19.up hbw8
    clear T19
    obtain rfl : ev1 = .nilIface := he1
    have q1 : ¬ (jn1 : Int) ≤ (jn : Int) := by omega
    obtain ⟨xk, hxk⟩ : ∃ xk, L[X]'(by rw [HLL.out]; exact hX) = xk := ⟨_, rfl⟩
    have hmk : xk ∈ L := by rw [← hxk]; exact List.getElem_mem _
    have hck := ent_cells (bnil w5) HCL.out.1 HCL.out.2 X (by rw [HLL.out]; exact hX)
    rw [hxk] at hck
    have hb58 : Below w5.heap.size w5 w8 := T20.out.1.1.2
    have hbl8 : bL < w8.heap.size := Nat.lt_of_lt_of_le HCL.out.1 hb58.size
    have k0 : w8.cell? ⟨bL, oL + X * 3, none⟩ = some (.int .i64 xk.1) := (hb58.cell (p := ⟨bL, oL + X * 3, none⟩) HCL.out.1).trans hck.1
    have k1 : w8.cell? ⟨bL, oL + X * 3 + 1, none⟩ = some (.int .i64 xk.2.1) := (hb58.cell (p := ⟨bL, oL + X * 3 + 1, none⟩) HCL.out.1).trans hck.2.1
    have k2 : w8.cell? ⟨bL, oL + X * 3 + 2, none⟩ = some (.int .i64 xk.2.2) := (hb58.cell (p := ⟨bL, oL + X * 3 + 2, none⟩) HCL.out.1).trans hck.2.2
    have HMK := Lib.hid hmk
    have HBL8 := Lib.hid hbl8
    clear hck hb58 hmk hxk hbl8
    have ka0 : (w8.alloc (.cells #[] 90)).cell? ⟨bL, oL + X * 3, none⟩ = some (.int .i64 xk.1) := al000 k0
    have ka1 : (w8.alloc (.cells #[] 90)).cell? ⟨bL, oL + X * 3 + 1, none⟩ = some (.int .i64 xk.2.1) := al000 k1
    have ka2 : (w8.alloc (.cells #[] 90)).cell? ⟨bL, oL + X * 3 + 2, none⟩ = some (.int .i64 xk.2.2) := al000 k2
    have FA : Hid ((w8.alloc (.cells #[] 90)).drew.ownsRow w8.heap.size 90 3 (.slice (some ⟨w8.heap.size, 0, none⟩) 0 0) 0 []) := own_empty (w := w8) w8.heap.size _ rfl (Nat.le_refl _)
    have FB : Hid (((w8.alloc (.cells #[.int .i64 xk.1, .int .i64 xk.2.1, .int .i64 xk.2.2] 90)).alloc (.cells #[] 90)).drew.ownsRow w8.heap.size 90 3 (.slice (some ⟨w8.heap.size + 1, 0, none⟩) 0 0) 0 []) := own_empty (w := w8.alloc (.cells #[.int .i64 xk.1, .int .i64 xk.2.1, .int .i64 xk.2.2] 90)) w8.heap.size _ (by simp) (by simp)
    have FC : Hid (((w8.alloc (.cells #[] 90)).alloc (.cells #[.int .i64 xk.1, .int .i64 xk.2.1, .int .i64 xk.2.2] 90)).drew.ownsRow w8.heap.size 90 3 (.slice (some ⟨w8.heap.size, 0, none⟩) 0 0) 0 []) := FA.out.alloc _
    have RA : Hid (Rd (w8.alloc (.cells #[] 90)).drew (some ⟨bL, oL, none⟩) LL 3 (entsC L)) := (T20.out.1.1.1.2).al _
    have RB : Hid (Rd ((w8.alloc (.cells #[.int .i64 xk.1, .int .i64 xk.2.1, .int .i64 xk.2.2] 90)).alloc (.cells #[] 90)).drew (some ⟨bL, oL, none⟩) LL 3 (entsC L)) := ((T20.out.1.1.1.2).al _).al _
    have RC : Hid (Rd ((w8.alloc (.cells #[] 90)).alloc (.cells #[.int .i64 xk.1, .int .i64 xk.2.1, .int .i64 xk.2.2] 90)).drew (some ⟨bL, oL, none⟩) LL 3 (entsC L)) := ((T20.out.1.1.1.2).al _).al _
    have SA : Hid (w8.heap.size ≤ (w8.alloc (.cells #[] 90)).drew.heap.size) := by show _ ≤ (w8.alloc (.cells #[] 90)).heap.size; simp
    have SB : Hid (w8.heap.size ≤ ((w8.alloc (.cells #[.int .i64 xk.1, .int .i64 xk.2.1, .int .i64 xk.2.2] 90)).alloc (.cells #[] 90)).drew.heap.size) := by show _ ≤ ((w8.alloc (.cells #[.int .i64 xk.1, .int .i64 xk.2.1, .int .i64 xk.2.2] 90)).alloc (.cells #[] 90)).heap.size; simp; omega
    have SC : Hid (w8.heap.size ≤ ((w8.alloc (.cells #[] 90)).alloc (.cells #[.int .i64 xk.1, .int .i64 xk.2.1, .int .i64 xk.2.2] 90)).drew.heap.size) := by show _ ≤ ((w8.alloc (.cells #[] 90)).alloc (.cells #[.int .i64 xk.1, .int .i64 xk.2.1, .int .i64 xk.2.2] 90)).heap.size; simp; omega
    have LB0 : Hid (Rd ((w8.alloc (.cells #[.int .i64 xk.1, .int .i64 xk.2.1, .int .i64 xk.2.2] 90)).alloc (.cells #[] 90)).drew (some ⟨w8.heap.size, 0, none⟩) 1 3 [.int .i64 xk.1, .int .i64 xk.2.1, .int .i64 xk.2.2]) := (rd_new (w := w8) (news := #[.int .i64 xk.1, .int .i64 xk.2.1, .int .i64 xk.2.2]) (m := 1) (sz := 3) rfl rfl).al _
    have LC0 : Hid (Rd ((w8.alloc (.cells #[] 90)).alloc (.cells #[.int .i64 xk.1, .int .i64 xk.2.1, .int .i64 xk.2.2] 90)).drew (some ⟨w8.heap.size + 1, 0, none⟩) 1 3 [.int .i64 xk.1, .int .i64 xk.2.1, .int .i64 xk.2.2]) := rd_new (w := w8.alloc (.cells #[] 90)) (news := #[.int .i64 xk.1, .int .i64 xk.2.1, .int .i64 xk.2.2]) (m := 1) (sz := 3) (by simp) rfl
    have DA : Hid (Below w8.heap.size w8 (w8.alloc (.cells #[] 90)).drew) := Below.drew (balloc (bnil _) _)
    have DB : Hid (Below w8.heap.size w8 ((w8.alloc (.cells #[.int .i64 xk.1, .int .i64 xk.2.1, .int .i64 xk.2.2] 90)).alloc (.cells #[] 90)).drew) := Below.drew (balloc (balloc (bnil _) _) _)
    have DC : Hid (Below w8.heap.size w8 ((w8.alloc (.cells #[] 90)).alloc (.cells #[.int .i64 xk.1, .int .i64 xk.2.1, .int .i64 xk.2.2] 90)).drew) := Below.drew (balloc (balloc (bnil _) _) _)
    go_upto_region 17 with (fail)
    go_cut [19] from 23 (fun s19 wx => ∃ (a : Option Addr) (c : Nat), s19 = .slice a (LL + 1) c ∧ Rd wx a (LL + 1) 3 (entsC (L ++ [xk])) ∧ Below w8.heap.size w8 wx)
    case first =>
      go_region_law (first
        | (refine stx (by rfl) _ _ _ (by rfl) w8.heap.size et_ent _ 0 [] FA.out (by rfl) (some ⟨bL, oL, none⟩) LL cL _ (by rfl) nofun RA.out (ents_oneM _) (by unfold maxLen; omega) (by omega) SA.out ?_; intro a9 c9 w9 h9; have y0 := (h9.below.cell (p := ⟨bL, oL + X * 3, none⟩) HBL8.out).trans ka0; have y1 := (h9.below.cell (p := ⟨bL, oL + X * 3 + 1, none⟩) HBL8.out).trans ka1; have y2 := (h9.below.cell (p := ⟨bL, oL + X * 3 + 2, none⟩) HBL8.out).trans ka2; have HO9 := Lib.hid (show w9.ownsRow w8.heap.size 90 3 (.slice a9 LL c9) LL (entsC L) from (by have q := h9.own; rw [Nat.zero_add, List.nil_append] at q; exact q)); have HB9 := Lib.hid (DA.out.trans h9.below); clear h9)
        | (refine stx (by rfl) _ _ _ (by rfl) w8.heap.size et_ent _ 0 [] FB.out (by rfl) (some ⟨bL, oL, none⟩) LL cL _ (by rfl) nofun RB.out (ents_oneM _) (by unfold maxLen; omega) (by omega) SB.out ?_; intro a9 c9 w9 h9; have HLK := Lib.hid (h9.rd LB0.out (fun b o e1 e2 => by cases e1; simp [Value.ownBlock] at e2)); have HO9 := Lib.hid (show w9.ownsRow w8.heap.size 90 3 (.slice a9 LL c9) LL (entsC L) from (by have q := h9.own; rw [Nat.zero_add, List.nil_append] at q; exact q)); have HB9 := Lib.hid (DB.out.trans h9.below); clear h9)
        | (refine stx (by rfl) _ _ _ (by rfl) w8.heap.size et_ent _ 0 [] FC.out (by rfl) (some ⟨bL, oL, none⟩) LL cL _ (by rfl) nofun RC.out (ents_oneM _) (by unfold maxLen; omega) (by omega) SC.out ?_; intro a9 c9 w9 h9; have HLK := Lib.hid (h9.rd LC0.out (fun b o e1 e2 => by cases e1; simp [Value.ownBlock] at e2)); have HO9 := Lib.hid (show w9.ownsRow w8.heap.size 90 3 (.slice a9 LL c9) LL (entsC L) from (by have q := h9.own; rw [Nat.zero_add, List.nil_append] at q; exact q)); have HB9 := Lib.hid (DC.out.trans h9.below); clear h9)
        | (refine stx (by rfl) _ _ _ (by rfl) w8.heap.size et_ent _ LL _ HO9.out (by rfl) _ 1 1 _ (by rfl) (fun e => by cases e) HLK.out (lit_oneM _) (by unfold maxLen; omega) (by omega) HB9.out.size ?_; intro a8 c8 w7b h8)
        | (refine stx (by rfl) _ _ _ (by rfl) w8.heap.size et_ent _ LL _ (HO9.out.alloc _) (by rfl) (some ⟨w9.heap.size, 0, none⟩) 1 1 _ (by rfl) nofun (rd_new (news := #[.int .i64 xk.1, .int .i64 xk.2.1, .int .i64 xk.2.2]) (m := 1) (sz := 3) rfl rfl) (lit_oneM _) (by unfold maxLen; omega) (by omega) (by simp; exact Nat.le_succ_of_le HB9.out.size) ?_; intro a8 c8 w7b h8))
      all_goals
        have hbz : Below w8.heap.size w8 w7b := by
          first
            | exact HB9.out.trans h8.below
            | exact (balloc HB9.out _).trans h8.below
        have hrz : Rd w7b a8 (LL + 1) 3 (entsC (L ++ [xk])) := by
          have q := (owns_rd h8.own).2
          rw [show L ++ [xk] = L ++ [(xk.1, xk.2.1, xk.2.2)] from rfl, entsC_snoc]
          exact q
        have HZ := Lib.hid (And.intro hrz hbz)
        clear hbz hrz h8
        go_simp
        go_wp2
        go_meet
        exact ⟨a8, c8, rfl, HZ.out.1, HZ.out.2⟩
    case rest =>
      obtain ⟨a8, c8, rfl, hr8, hb8⟩ := hcut
      clear FA FB FC RA RB RC SA SB SC LB0 LC0 DA DB DC ka0 ka1 ka2 k0 k1 k2
      generalize wc = wd at *
      have T21 := T20.up hb8
      clear T20
      have T22 := T21.add (fun wv => Rd wv a8 (LL + 1) 3 (entsC (L ++ [xk]))) (hr8)
      clear T21
      clear hb8 hr8
      obtain ⟨jn2, je2, hj2⟩ : ∃ jn2 je2, judgeF t (w : Int) (h : Int) l (encL (w : Int) (h : Int) (L ++ [xk])) = (jn2, je2) := ⟨_, _, rfl⟩
      have hf2 := HMR.out.behind xk HMK.out
      rw [hj2] at hf2
      obtain ⟨hf2a, hf2b⟩ := hf2
      have hf2a : je2 = none := hf2a
      subst hf2a
      have hf2b : jn < jn2 := hf2b
      have henc2 := HMR.out.enc (L ++ [xk]) (fun y hy => by rcases List.mem_append.1 hy with hy | hy; exact hy; rw [List.mem_singleton] at hy; rw [hy]; exact HMK.out) (by have := HLL.out; simp; omega)
      have HJ2 := Lib.hid hj2
      have HE2 := Lib.hid henc2
      clear hj2 henc2
      obtain ⟨bs2, hbs2⟩ : ∃ bs, encL (w : Int) (h : Int) (L ++ [xk]) = bs := ⟨_, rfl⟩
      have hbd2 := encL_bd HE2.out
      have hle2 := encL_len (w : Int) (h : Int) (L ++ [xk])
      have hjj2 := HJ2.out
      rw [hbs2] at hbd2 hle2 hjj2
      have hlm2 : bs2.length ≤ maxLen := by rw [hle2]; have := HE2.out.len; unfold maxLen; omega
      have c_j2 := fun aE cE W (hS : Sent W R) (hR : RK .i64 W a n l) (hT : RK .i64 W aT nT t) (hBs : RK .u8 W aE bs2.length bs2) => judge_any w h a aT aE n c nT cT cE l t bs2 W R hS hR hm HI6.out hT hmT hBs hbd2 hlm2
      simp only [hjj2] at c_j2
      have HC2 := Lib.hid c_j2
      have HLE2 := Lib.hid hle2
      have HBS2 := Lib.hid hbs2
      clear hbd2 hle2 hjj2 c_j2 hbs2
      go_wp2_with fail
      refine (encode_okN w h a8 c8 (LL + 1) (L ++ [xk]) wd (by have := HLL.out; simp; omega) T22.out.2 HE2.out).mono ?_; rintro e we ⟨aE2, cE2, rfl, hoE, hbwe⟩
      have T23 := T22.up hbwe
      clear T22
      rw [HBS2.out] at hoE
      rw [← HLE2.out] at hoE ⊢
      have T24 := T23.add (fun wv => RK .u8 wv aE2 bs2.length bs2) (⟨rfl, (owns_rd hoE).2⟩)
      clear T23
      clear hoE
      have v_p0 : we.cell? ⟨W.heap.size, 0, none⟩ = some (.int .i64 w) := T24.out.1.1.1.1.1.1.2.1
      have v_p1 : we.cell? ⟨W.heap.size, 1, none⟩ = some (.int .i64 h) := T24.out.1.1.1.1.1.1.2.2.1
      have v_p2 : we.cell? ⟨W.heap.size, 2, none⟩ = some (.slice a n c) := T24.out.1.1.1.1.1.1.2.2.2
      go_wp2_with fail
      refine (HC2.out aE2 cE2 we (T24.out.1.1.1.1.1.1.1.1.1.1.2).sent T24.out.1.1.1.1.1.1.1.1.1.2 T24.out.1.1.1.1.1.1.1.1.2 T24.out.2).mono ?_; rintro e wf ⟨ev2, rfl, he2, hbwf⟩
      clear v_p0 v_p1 v_p2
      have T25 := T24.up hbwf
      clear T24
      obtain rfl : ev2 = .nilIface := he2
      have q2 : ¬ (jn2 : Int) ≤ (jn : Int) := by omega
      obtain ⟨Y, hY⟩ : ∃ Y, X + 1 = Y := ⟨_, rfl⟩
      have y1 : (X : Int) + 1 = (Y : Int) := by omega
      have y2 : IntKind.i64.wrap (Y : Int) = (Y : Int) := IntWalk.i64_in _ (by omega)
      have y3 : (0 : Int) ≤ (Y : Int) := by omega
      have y4 : (Y : Int) ≤ (LL : Int) := by omega
      have y5 : (X : Int) ≤ (cL : Int) := by omega
      have y6 : (LL : Int) ≤ (cL : Int) := by omega
      have hbf : Below w5.heap.size w5 wf := T25.out.1.1.1.1.2
      have hLf : Rd wf (some ⟨bL, oL, none⟩) LL 3 (entsC L) := T25.out.1.1.1.1.1.2
      have hbLf : bL < wf.heap.size := Nat.lt_of_lt_of_le HCL.out.1 hbf.size
      have FA : Hid ((wf.alloc (.cells #[] 90)).drew.ownsRow wf.heap.size 90 3 (.slice (some ⟨wf.heap.size, 0, none⟩) 0 0) 0 []) := own_empty (w := wf) wf.heap.size _ rfl (Nat.le_refl _)
      have RA : Hid (Rd (wf.alloc (.cells #[] 90)).drew (some ⟨bL, oL, none⟩) X 3 (entsC (L.take X))) := (rd_takeM hLf (by omega) HLL.out).al _
      have RB : Hid (Rd (wf.alloc (.cells #[] 90)).drew (some ⟨bL, oL + Y * 3, none⟩) (LL - Y) 3 (entsC (L.drop Y))) := (rd_dropM hLf (by omega) HLL.out).al _
      have SA : Hid (wf.heap.size ≤ (wf.alloc (.cells #[] 90)).drew.heap.size) := by show _ ≤ (wf.alloc (.cells #[] 90)).heap.size; simp
      have DA : Hid (Below wf.heap.size wf (wf.alloc (.cells #[] 90)).drew) := Below.drew (balloc (bnil _) _)
      have HBF := Lib.hid hbLf
      clear hbf hLf hbLf
      go_upto_region 22 with (fail)
      go_cut [13, 21] from 23 (fun s13 s21 wx => ∃ (a : Option Addr) (c : Nat), s21 = .slice a (X + (LL - Y)) c ∧ Rd wx a (X + (LL - Y)) 3 (entsC (L.take X ++ L.drop Y)) ∧ Below wf.heap.size wf wx)
      case first =>
        go_region_law (first
          | (refine stx (by rfl) _ _ _ (by rfl) wf.heap.size et_ent _ 0 [] FA.out (by rfl) (some ⟨bL, oL, none⟩) X cL _ (by rfl) nofun RA.out (ents_oneM _) (by unfold maxLen; omega) (by omega) SA.out ?_; intro a9 c9 w9 h9; have HRD0 := h9.rd RB.out (fun b o e1 e2 => absurd e1 (by intro e3; cases e3; simp [Value.ownBlock] at e2; have := HBF.out; omega)); have HRD : Hid (Rd w9 (if cL = Y then some ⟨bL, oL, none⟩ else some ⟨bL, oL + Y * 3, none⟩) (LL - Y) 3 (entsC (L.drop Y))) := (by show Rd _ _ _ _ _; split; exact ⟨HRD0.1, .inl (by omega)⟩; exact HRD0); clear HRD0; have HO9 := Lib.hid (show w9.ownsRow wf.heap.size 90 3 (.slice a9 X c9) X (entsC (L.take X)) from (by have q := h9.own; rw [Nat.zero_add, List.nil_append] at q; exact q)); have HB9 := Lib.hid (DA.out.trans h9.below); clear h9)
          | (refine stx (by rfl) _ _ _ (by rfl) wf.heap.size et_ent _ X _ HO9.out (by rfl) (if cL = Y then some ⟨bL, oL, none⟩ else some ⟨bL, oL + Y * 3, none⟩) (LL - Y) (cL - Y) _ (by rfl) (fun e => by split at e <;> cases e) HRD.out (ents_oneM _) (by unfold maxLen; omega) (by omega) HB9.out.size ?_; intro ab cb w7c h8))
        all_goals
          have hbz : Below wf.heap.size wf w7c := HB9.out.trans h8.below
          have hrz : Rd w7c ab (X + (LL - Y)) 3 (entsC (L.take X ++ L.drop Y)) := by
            have q := (owns_rd h8.own).2
            rw [show entsC (L.take X ++ L.drop Y) = entsC (L.take X) ++ entsC (L.drop Y) by simp [entsC]]
            exact q
          have HZ := Lib.hid (And.intro hrz hbz)
          clear hbz hrz h8
          go_simp
          all_goals go_wp2
          all_goals go_meet
          all_goals exact ⟨ab, cb, rfl, HZ.out.1, HZ.out.2⟩
      case rest =>
        obtain ⟨ab, cb, rfl, hrb, hbb⟩ := hcut
        clear FA RA RB SA DA
        generalize wc = wg at *
        have T26 := T25.up hbb
        clear T25
        have T27 := T26.add (fun wv => Rd wv ab (X + (LL - Y)) 3 (entsC (L.take X ++ L.drop Y))) (hrb)
        clear T26
        clear hbb hrb
        obtain ⟨jn3, je3, hj3⟩ : ∃ jn3 je3, judgeF t (w : Int) (h : Int) l (encL (w : Int) (h : Int) (L.take X ++ L.drop Y)) = (jn3, je3) := ⟨_, _, rfl⟩
        have hf3 := HMR.out.less X (by rw [HLL.out]; exact hX)
        rw [hY, hj3] at hf3
        have hf3 : je3 = none → jn3 < jn := hf3
        have henc3 := HMR.out.enc (L.take X ++ L.drop Y) (fun y hy => by rcases List.mem_append.1 hy with hy | hy; exact List.mem_of_mem_take hy; exact List.mem_of_mem_drop hy) (by have := HLL.out; simp; omega)
        have HF3 := Lib.hid hf3
        have HJ3 := Lib.hid hj3
        have HE3 := Lib.hid henc3
        clear hj3 henc3 hf3
        obtain ⟨bs3, hbs3⟩ : ∃ bs, encL (w : Int) (h : Int) (L.take X ++ L.drop Y) = bs := ⟨_, rfl⟩
        have hbd3 := encL_bd HE3.out
        have hle3 := encL_len (w : Int) (h : Int) (L.take X ++ L.drop Y)
        have hjj3 := HJ3.out
        rw [hbs3] at hbd3 hle3 hjj3
        have hlm3 : bs3.length ≤ maxLen := by rw [hle3]; have := HE3.out.len; unfold maxLen; omega
        have c_j3 := fun aE cE W (hS : Sent W R) (hR : RK .i64 W a n l) (hT : RK .i64 W aT nT t) (hBs : RK .u8 W aE bs3.length bs3) => judge_any w h a aT aE n c nT cT cE l t bs3 W R hS hR hm HI6.out hT hmT hBs hbd3 hlm3
        simp only [hjj3] at c_j3
        have HC3 := Lib.hid c_j3
        have HLE3 := Lib.hid hle3
        have HBS3 := Lib.hid hbs3
        clear hbd3 hle3 hjj3 c_j3 hbs3
        go_wp2_with fail
        refine (encode_okN w h ab cb (X + (LL - Y)) (L.take X ++ L.drop Y) wg (by have := HLL.out; simp; omega) T27.out.2 HE3.out).mono ?_; rintro e wh ⟨aE3, cE3, rfl, hoE, hbwh⟩
        have T28 := T27.up hbwh
        clear T27
        rw [HBS3.out] at hoE
        rw [← HLE3.out] at hoE ⊢
        have T29 := T28.add (fun wv => RK .u8 wv aE3 bs3.length bs3) (⟨rfl, (owns_rd hoE).2⟩)
        clear T28
        clear hoE
        have v_p0 : wh.cell? ⟨W.heap.size, 0, none⟩ = some (.int .i64 w) := T29.out.1.1.1.1.1.1.1.1.2.1
        have v_p1 : wh.cell? ⟨W.heap.size, 1, none⟩ = some (.int .i64 h) := T29.out.1.1.1.1.1.1.1.1.2.2.1
        have v_p2 : wh.cell? ⟨W.heap.size, 2, none⟩ = some (.slice a n c) := T29.out.1.1.1.1.1.1.1.1.2.2.2
        go_wp2_with fail
        refine (HC3.out aE3 cE3 wh (T29.out.1.1.1.1.1.1.1.1.1.1.1.1.2).sent T29.out.1.1.1.1.1.1.1.1.1.1.1.2 T29.out.1.1.1.1.1.1.1.1.1.1.2 T29.out.2).mono ?_; rintro e wi ⟨ev3, rfl, he3, hbwi⟩
        clear v_p0 v_p1 v_p2
        have T30 := T29.up hbwi
        clear T29
        cases je3 with
        | some y =>
          obtain ⟨es0, n0⟩ := y
          have he3 : EC R wi ev3 (some (es0, n0)) := he3
          obtain ⟨t9, p9, rfl⟩ := Chain.iface he3
          clear he3
          go_wp2
          go_ret
          exact ⟨rfl, T30.out.1.1.1.1.1.1.1.1.1.1.1.1.1.2⟩
        | none =>
          obtain rfl : ev3 = .nilIface := he3
          have q3 : (jn3 : Int) < (jn : Int) := by have := HF3.out rfl; omega
          go_wp2
          go_ret
          exact ⟨rfl, T30.out.1.1.1.1.1.1.1.1.1.1.1.1.1.2⟩
theorem judge_more_row (aT : Option Addr) (cT : Nat) (t : List Int) (w h : Int) (a : Option Addr) (n c : Nat) (l : List Int) (aB : Option Addr) (cB : Nat) (bs : List Int) (kk : Int) (W : World) (R : Nat → Addr) (hE : Env W R)
    (hR0 : Rd W aT t.length 1 (t.map (Value.int .i64))) (hl0 : t.length ≤ cT) (hz0 : cT * 8 ≤ 140737488351232) (hn0 : aT = none → cT = 0) (hx0 : ∀ x ∈ t, -9223372036854775808 ≤ x ∧ x ≤ 9223372036854775807) (hM : SlI W a n c l) (hx : I64 l)
    (hR2 : Rd W aB bs.length 1 (bs.map (Value.int .u8))) (hl2 : bs.length ≤ cB) (hz2 : cB * 1 ≤ 140737488351232) (hn2 : aB = none → cB = 0) (hx2 : ∀ x ∈ bs, 0 ≤ x ∧ x ≤ 255) :
    Calls Tryd.prog 13 #[.slice aT t.length cT, patV w h a n c, .slice aB bs.length cB, .int .i64 kk] W (TrueBelow W) :=
  judge_more w h kk a aT aB n c t.length cT cB l t bs W R hE hM.rk hM.nm hx ⟨rfl, hR0⟩ (by unfold maxLen; omega) ⟨rfl, hR2⟩ hx2 (by unfold maxLen; omega)
end Go.Proofs.YtoaooblodgejdaaDoor
