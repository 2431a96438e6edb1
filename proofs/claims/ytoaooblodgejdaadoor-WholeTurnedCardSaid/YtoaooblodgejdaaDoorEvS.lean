/- Plain: the search for predecessors: what it tells, with how many tries. -/
import Derived.Test.YtoaooblodgejdaaDoorRun
namespace Go.Proofs.YtoaooblodgejdaaDoor
open Go.RowKit
set_option linter.unusedVariables false
set_option maxRecDepth 100000

/-- what the search keeps: tries made and left, pairs that are dead in the order they were found, the way; st: the pairs that were begun -/
structure SS where
  tries : Nat
  left : Nat
  order : List Ent
  way : List Int
  st : List Ent
abbrev entN (col a b : Nat) : Ent := ((col : Int), (a : Int), (b : Int))
/-- the third columns c, c + 1, .. (r of them) are tried -/
def lpF (mk : Nat → Bool) (rec : Nat → SS → SS × Option Bool) (a : Nat) : Nat → Nat → SS → SS × Option Bool
  | 0, _, S => (S, some false)
  | r + 1, c, S => if S.left = 0 then (S, none) else
      if mk c = true then match rec c { S with left := S.left - 1, tries := S.tries + 1 } with
        | (S2, none) => (S2, none)
        | (S2, some true) => ({ S2 with way := S2.way ++ [(a : Int)] }, some true)
        | (S2, some false) => lpF mk rec a r (c + 1) S2
      else lpF mk rec a r (c + 1) { S with left := S.left - 1, tries := S.tries + 1 }
/-- does anything go on behind two columns, d columns ahead of the end? -/
def onF (mk : Nat → Nat → Nat → Nat → Bool) (m : Nat) : Nat → Nat → Nat → Nat → SS → SS × Option Bool
  | 0, _, a, b, S => ({ S with way := S.way ++ [(b : Int), (a : Int)] }, some true)
  | d + 1, col, a, b, S => if entN col a b ∈ S.order then (S, some false) else
      match lpF (mk col a b) (fun c S => onF mk m d (col + 1) b c S) a m 0 { S with st := S.st ++ [entN col a b] } with
      | (S2, none) => (S2, none)
      | (S2, some true) => (S2, some true)
      | (S2, some false) => ({ S2 with order := S2.order ++ [entN col a b] }, some false)
/-- all pairs of first columns, from the number n on (r of them) -/
def allF (mk : Nat → Nat → Nat → Nat → Bool) (m w : Nat) : Nat → Nat → SS → SS × Option Bool
  | 0, _, S => (S, some false)
  | r + 1, n, S => match onF mk m w 0 (n / m) (n % m) S with
      | (S2, none) => (S2, none)
      | (S2, some true) => (S2, some true)
      | (S2, some false) => allF mk m w r (n + 1) S2
/-- what holds of the search all the time -/
structure Inv (t cols : List Int) (h m w L0 : Nat) (S : SS) : Prop where
  fit : ∀ x ∈ S.order, Fit3 w m x
  all : AllH t cols h m S.order []
  sfit : ∀ x ∈ S.st, Fit3 w m x
  nd : S.st.Nodup
  sub : ∀ x ∈ S.order, x ∈ S.st
  ond : S.order.Nodup
  sum : S.tries + S.left = L0
/-- the columns of a way from col on, from the last on -/
def wayL (v : Nat → Nat) (w col : Nat) : List Int := (List.range (w + 2 - col)).map fun j => ((v (w + 1 - j) : Nat) : Int)
structure Path (mk : Nat → Nat → Nat → Nat → Bool) (m w col : Nat) (v : Nat → Nat) : Prop where
  lt : ∀ x, x < w + 2 → v x < m
  mks : ∀ x, col ≤ x → x < w → mk x (v x) (v (x + 1)) (v (x + 2)) = true
abbrev mkL (t cols : List Int) (h : Nat) (col a b c : Nat) : Bool := (looksF t a b c (cols.getD col 0).toNat h 0).2
/-- what a call of on brings about -/
structure OnPost (t cols : List Int) (h m w L0 col a b : Nat) (S S2 : SS) (r : Option Bool) : Prop where
  inv : Inv t cols h m w L0 S2
  os : ∀ x ∈ S.order, x ∈ S2.order
  ss : ∀ x ∈ S.st, x ∈ S2.st
  sl : S.st.length ≤ S2.st.length
  lo : ∀ x ∈ S2.order, x ∈ S.order ∨ (col : Int) ≤ x.1
  slo : ∀ x ∈ S2.st, x ∈ S.st ∨ (col : Int) ≤ x.1
  err : r = none → S2.left = 0 ∧ S2.tries + 1 ≤ S.tries + m * (S2.st.length - S.st.length)
  ok : r ≠ none → S2.tries ≤ S.tries + m * (S2.st.length - S.st.length)
  no : r = some false → S2.way = S.way ∧ entN col a b ∈ S2.order ∧ ∀ x ∈ S2.st, (col : Int) ≤ x.1 → x ∈ S2.order
  yes : r = some true → ∃ v, v col = a ∧ v (col + 1) = b ∧ Path (mkL t cols h) m w col v ∧ S2.way = S.way ++ wayL v w col
theorem wayL_last (v : Nat → Nat) (w : Nat) : wayL v w w = [((v (w + 1) : Nat) : Int), ((v w : Nat) : Int)] := by
  unfold wayL
  rw [show w + 2 - w = 2 by omega]
  show [((v (w + 1 - 0) : Nat) : Int), ((v (w + 1 - 1) : Nat) : Int)] = _
  rw [Nat.sub_zero, Nat.add_sub_cancel]
theorem wayL_step (v : Nat → Nat) {w col : Nat} (h : col < w) : wayL v w col = wayL v w (col + 1) ++ [((v col : Nat) : Int)] := by
  unfold wayL
  rw [show w + 2 - col = (w + 2 - (col + 1)) + 1 by omega, List.range_succ, List.map_append]
  congr 1
  show [((v (w + 1 - (w + 2 - (col + 1))) : Nat) : Int)] = _
  rw [show w + 1 - (w + 2 - (col + 1)) = col by omega]
/-- the loop over the third columns -/
structure LpPost (t cols : List Int) (h m w L0 col a b r c T0 : Nat) (S S2 : SS) (o : Option Bool) : Prop where
  inv : Inv t cols h m w L0 S2
  os : ∀ x ∈ S.order, x ∈ S2.order
  ss : ∀ x ∈ S.st, x ∈ S2.st
  sl : S.st.length ≤ S2.st.length
  lo : ∀ x ∈ S2.order, x ∈ S.order ∨ ((col + 1 : Nat) : Int) ≤ x.1
  slo : ∀ x ∈ S2.st, x ∈ S.st ∨ ((col + 1 : Nat) : Int) ≤ x.1
  err : o = none → S2.left = 0 ∧ S2.tries + 1 ≤ S.tries + r + m * (S2.st.length - S.st.length)
  ok : o ≠ none → S2.tries ≤ S.tries + r + m * (S2.st.length - S.st.length)
  no : o = some false → S2.way = S.way ∧ (∀ x ∈ S2.st, ((col + 1 : Nat) : Int) ≤ x.1 → x ∈ S2.order) ∧ ∀ c', c ≤ c' → c' < c + r → mkL t cols h col a b c' = true → entN (col + 1) b c' ∈ S2.order
  yes : o = some true → ∃ v, v col = a ∧ v (col + 1) = b ∧ Path (mkL t cols h) m w col v ∧ S2.way = S.way ++ wayL v w col
theorem inv_try {t cols : List Int} {h m w L0 : Nat} {S : SS} (hi : Inv t cols h m w L0 S) (hl : S.left ≠ 0) : Inv t cols h m w L0 { S with left := S.left - 1, tries := S.tries + 1 } :=
  ⟨hi.fit, hi.all, hi.sfit, hi.nd, hi.sub, hi.ond, by have := hi.sum; show S.tries + 1 + (S.left - 1) = L0; omega⟩
theorem lp_post {t cols : List Int} {h m w L0 col a b : Nat} (hcw : col < w) (ha : a < m)
    (hrec : ∀ c S, c < m → Inv t cols h m w L0 S → (∀ x ∈ S.st, ((col + 1 : Nat) : Int) ≤ x.1 → x ∈ S.order) → col + 1 < w ∨ col + 1 = w →
      OnPost t cols h m w L0 (col + 1) b c S (onF (mkL t cols h) m (w - (col + 1)) (col + 1) b c S).1 (onF (mkL t cols h) m (w - (col + 1)) (col + 1) b c S).2)
    (hend : ∀ c S, col + 1 = w → (onF (mkL t cols h) m (w - (col + 1)) (col + 1) b c S).2 = some true) :
    ∀ (r c : Nat) (S : SS), c + r = m → Inv t cols h m w L0 S → (∀ x ∈ S.st, ((col + 1 : Nat) : Int) ≤ x.1 → x ∈ S.order) →
      LpPost t cols h m w L0 col a b r c S.tries S (lpF (mkL t cols h col a b) (fun c S => onF (mkL t cols h) m (w - (col + 1)) (col + 1) b c S) a r c S).1 (lpF (mkL t cols h col a b) (fun c S => onF (mkL t cols h) m (w - (col + 1)) (col + 1) b c S) a r c S).2
  | 0, c, S, hcr, hi, hA => by
    unfold lpF
    exact ⟨hi, fun _ h => h, fun _ h => h, Nat.le_refl _, fun _ h => .inl h, fun _ h => .inl h, nofun, fun _ => by show S.tries ≤ S.tries + 0 + m * (S.st.length - S.st.length); omega, fun _ => ⟨rfl, hA, fun c' h1 h2 => by omega⟩, nofun⟩
  | r + 1, c, S, hcr, hi, hA => by
    unfold lpF
    by_cases hl : S.left = 0
    · rw [if_pos hl]
      exact ⟨hi, fun _ h => h, fun _ h => h, Nat.le_refl _, fun _ h => .inl h, fun _ h => .inl h, fun _ => ⟨hl, by show S.tries + 1 ≤ S.tries + (r + 1) + m * (S.st.length - S.st.length); omega⟩, fun h => absurd rfl h, nofun, nofun⟩
    rw [if_neg hl]
    have hi1 := inv_try hi hl
    obtain ⟨S1, hS1⟩ : ∃ S1, ({ S with left := S.left - 1, tries := S.tries + 1 } : SS) = S1 := ⟨_, rfl⟩
    have e1 : S1.order = S.order := by rw [← hS1]
    have e2 : S1.st = S.st := by rw [← hS1]
    have e3 : S1.way = S.way := by rw [← hS1]
    have e4 : S1.tries = S.tries + 1 := by rw [← hS1]
    rw [hS1] at hi1 ⊢
    have hA1 : ∀ x ∈ S1.st, ((col + 1 : Nat) : Int) ≤ x.1 → x ∈ S1.order := by rw [e1, e2]; exact hA
    by_cases hmk : mkL t cols h col a b c = true
    · rw [if_pos hmk]
      have hp := hrec c S1 (by omega) hi1 hA1 (by omega)
      have hed := hend c S1
      generalize onF (mkL t cols h) m (w - (col + 1)) (col + 1) b c S1 = X at hp hed
      obtain ⟨S2, o⟩ := X
      simp only at hp hed ⊢
      cases o with
      | none =>
        obtain ⟨q1, q2⟩ := hp.err rfl
        have hsl := hp.sl
        refine ⟨hp.inv, fun x hx => hp.os x (by rw [e1]; exact hx), fun x hx => hp.ss x (by rw [e2]; exact hx), by rw [← e2]; exact hsl, by rw [← e1]; exact hp.lo, by rw [← e2]; exact hp.slo, fun _ => ⟨q1, ?_⟩, fun h => absurd rfl h, nofun, nofun⟩
        rw [e2, e4] at q2
        show S2.tries + 1 ≤ S.tries + (r + 1) + m * (S2.st.length - S.st.length)
        omega
      | some o =>
        cases o with
        | true =>
          have hq := hp.ok nofun
          obtain ⟨v, v1, v2, v3, v4⟩ := hp.yes rfl
          have hsl := hp.sl
          refine ⟨⟨hp.inv.fit, hp.inv.all, hp.inv.sfit, hp.inv.nd, hp.inv.sub, hp.inv.ond, hp.inv.sum⟩, fun x hx => hp.os x (by rw [e1]; exact hx), fun x hx => hp.ss x (by rw [e2]; exact hx), by rw [← e2]; exact hsl, by rw [← e1]; exact hp.lo, by rw [← e2]; exact hp.slo, nofun, fun _ => ?_, nofun, fun _ => ?_⟩
          · rw [e2, e4] at hq
            show S2.tries ≤ S.tries + (r + 1) + m * (S2.st.length - S.st.length)
            omega
          · refine ⟨fun x => if x = col then a else v x, if_pos rfl, by show (if col + 1 = col then a else v (col + 1)) = b; rw [if_neg (by omega)]; exact v1, ⟨fun x hx => ?_, fun x hx1 hx2 => ?_⟩, ?_⟩
            · show (if x = col then a else v x) < m
              split
              · exact ha
              · exact v3.lt x hx
            · show mkL t cols h x (if x = col then a else v x) (if x + 1 = col then a else v (x + 1)) (if x + 2 = col then a else v (x + 2)) = true
              by_cases e : x = col
              · subst e
                rw [if_pos rfl, if_neg (by omega), if_neg (by omega), v1, show x + 2 = x + 1 + 1 from rfl, v2]
                exact hmk
              · rw [if_neg e, if_neg (by omega), if_neg (by omega)]
                exact v3.mks x (by omega) hx2
            · show S2.way ++ [(a : Int)] = _
              rw [v4, e3, wayL_step _ hcw, List.append_assoc]
              congr 1
              congr 1
              · unfold wayL
                refine List.map_congr_left fun j hj => ?_
                have := List.mem_range.1 hj
                show ((v (w + 1 - j) : Nat) : Int) = ((if w + 1 - j = col then a else v (w + 1 - j) : Nat) : Int)
                rw [if_neg (by omega)]
              · show [(a : Int)] = [((if col = col then a else v col : Nat) : Int)]
                rw [if_pos rfl]
        | false =>
          have hq := hp.ok nofun
          obtain ⟨n1, n2, n3⟩ := hp.no rfl
          have hsl := hp.sl
          have ih := lp_post hcw ha hrec hend r (c + 1) S2 (by omega) hp.inv n3
          simp only
          generalize lpF (mkL t cols h col a b) (fun c S => onF (mkL t cols h) m (w - (col + 1)) (col + 1) b c S) a r (c + 1) S2 = Y at ih ⊢
          obtain ⟨S3, o3⟩ := Y
          simp only at ih ⊢
          have hsl3 := ih.sl
          rw [e2, e4] at hq
          have hml : m * (S3.st.length - S.st.length) = m * (S3.st.length - S2.st.length) + m * (S2.st.length - S.st.length) := by
            rw [← Nat.mul_add]
            congr 1
            rw [e2] at hsl
            omega
          refine ⟨ih.inv, fun x hx => ih.os x (hp.os x (by rw [e1]; exact hx)), fun x hx => ih.ss x (hp.ss x (by rw [e2]; exact hx)), by rw [e2] at hsl; omega, fun x hx => by rcases ih.lo x hx with h | h; (rw [← e1]; exact hp.lo x h); exact .inr h, fun x hx => by rcases ih.slo x hx with h | h; (rw [← e2]; exact hp.slo x h); exact .inr h, fun e => ⟨(ih.err e).1, ?_⟩, fun e => ?_, fun e => ⟨?_, (ih.no e).2.1, fun c' h1 h2 h3 => ?_⟩, fun e => ?_⟩
          · have := (ih.err e).2; omega
          · have := ih.ok e; omega
          · rw [(ih.no e).1, n1, e3]
          · rcases Nat.lt_or_ge c c' with hc' | hc'
            · exact (ih.no e).2.2 c' (by omega) (by omega) h3
            · obtain rfl : c' = c := by omega
              exact ih.os _ n2
          · obtain ⟨v, v1, v2, v3, v4⟩ := ih.yes e
            exact ⟨v, v1, v2, v3, by rw [v4, n1, e3]⟩
    · rw [if_neg hmk]
      have ih := lp_post hcw ha hrec hend r (c + 1) S1 (by omega) hi1 hA1
      generalize lpF (mkL t cols h col a b) (fun c S => onF (mkL t cols h) m (w - (col + 1)) (col + 1) b c S) a r (c + 1) S1 = Y at ih ⊢
      obtain ⟨S3, o3⟩ := Y
      simp only at ih ⊢
      have hsl3 := ih.sl
      refine ⟨ih.inv, fun x hx => ih.os x (by rw [e1]; exact hx), fun x hx => ih.ss x (by rw [e2]; exact hx), by rw [← e2]; exact hsl3, by rw [← e1]; exact ih.lo, by rw [← e2]; exact ih.slo, fun e => ⟨(ih.err e).1, ?_⟩, fun e => ?_, fun e => ⟨?_, (ih.no e).2.1, fun c' h1 h2 h3 => ?_⟩, fun e => ?_⟩
      · have := (ih.err e).2; rw [e2, e4] at this; omega
      · have := ih.ok e; rw [e2, e4] at this; omega
      · rw [(ih.no e).1, e3]
      · rcases Nat.lt_or_ge c c' with hc' | hc'
        · exact (ih.no e).2.2 c' (by omega) (by omega) h3
        · obtain rfl : c' = c := by omega
          exact absurd h3 hmk
      · obtain ⟨v, v1, v2, v3, v4⟩ := ih.yes e
        exact ⟨v, v1, v2, v3, by rw [v4, e3]⟩
theorem entN_fit {w m col a b : Nat} (h1 : col < w) (h2 : a < m) (h3 : b < m) : Fit3 w m (entN col a b) := ⟨Int.natCast_nonneg _, Int.ofNat_lt.2 h1, Int.natCast_nonneg _, Int.ofNat_lt.2 h2, Int.natCast_nonneg _, Int.ofNat_lt.2 h3⟩
theorem on_post {t cols : List Int} {h m w L0 : Nat} : ∀ (d col a b : Nat) (S : SS), col + d = w → a < m → b < m → Inv t cols h m w L0 S → (∀ x ∈ S.st, (col : Int) ≤ x.1 → x ∈ S.order) →
    OnPost t cols h m w L0 col a b S (onF (mkL t cols h) m d col a b S).1 (onF (mkL t cols h) m d col a b S).2
  | 0, col, a, b, S, hd, ha, hb, hi, hA => by
    obtain rfl : col = w := by omega
    unfold onF
    refine ⟨⟨hi.fit, hi.all, hi.sfit, hi.nd, hi.sub, hi.ond, hi.sum⟩, fun _ h => h, fun _ h => h, Nat.le_refl _, fun _ h => .inl h, fun _ h => .inl h, nofun, fun _ => by show S.tries ≤ S.tries + _; omega, nofun, fun _ => ?_⟩
    refine ⟨fun x => if x = col then a else b, if_pos rfl, if_neg (by omega), ⟨fun x hx => ?_, fun x h1 h2 => by omega⟩, ?_⟩
    · show (if x = col then a else b) < m
      split
      · exact ha
      · exact hb
    · rw [wayL_last]
      show S.way ++ [(b : Int), (a : Int)] = S.way ++ [((if col + 1 = col then a else b : Nat) : Int), ((if col = col then a else b : Nat) : Int)]
      rw [if_neg (by omega), if_pos rfl]
  | d + 1, col, a, b, S, hd, ha, hb, hi, hA => by
    have hcw : col < w := by omega
    have hfit := entN_fit (w := w) hcw ha hb
    unfold onF
    by_cases hmem : entN col a b ∈ S.order
    · rw [if_pos hmem]
      exact ⟨hi, fun _ h => h, fun _ h => h, Nat.le_refl _, fun _ h => .inl h, fun _ h => .inl h, nofun, fun _ => by show S.tries ≤ S.tries + _; omega, fun _ => ⟨rfl, hmem, hA⟩, nofun⟩
    rw [if_neg hmem]
    have hnew : ¬ entN col a b ∈ S.st := fun hin => hmem (hA _ hin (Int.le_refl _))
    obtain ⟨S1, hS1⟩ : ∃ S1, ({ S with st := S.st ++ [entN col a b] } : SS) = S1 := ⟨_, rfl⟩
    rw [hS1]
    have e1 : S1.order = S.order := by rw [← hS1]
    have e2 : S1.st = S.st ++ [entN col a b] := by rw [← hS1]
    have e3 : S1.way = S.way := by rw [← hS1]
    have e4 : S1.tries = S.tries := by rw [← hS1]
    have e5 : S1.left = S.left := by rw [← hS1]
    have hi1 : Inv t cols h m w L0 S1 := by
      refine ⟨by rw [e1]; exact hi.fit, by rw [e1]; exact hi.all, fun x hx => ?_, ?_, fun x hx => ?_, by rw [e1]; exact hi.ond, by rw [e4, e5]; exact hi.sum⟩
      · rw [e2] at hx
        rcases List.mem_append.1 hx with hx | hx
        · exact hi.sfit x hx
        · obtain rfl : x = entN col a b := by simpa using hx
          exact hfit
      · rw [e2, List.nodup_append]
        exact ⟨hi.nd, by simp, fun x hx y hy e => by
          obtain rfl : y = entN col a b := by simpa using hy
          rw [e] at hx
          exact hnew hx⟩
      · rw [e1] at hx
        rw [e2]
        exact List.mem_append_left _ (hi.sub x hx)
    have hA1 : ∀ x ∈ S1.st, ((col + 1 : Nat) : Int) ≤ x.1 → x ∈ S1.order := by
      intro x hx hc
      rw [e2] at hx
      rw [e1]
      rcases List.mem_append.1 hx with hx | hx
      · exact hA x hx (by omega)
      · obtain rfl : x = entN col a b := by simpa using hx
        exact absurd hc (by show ¬ ((col + 1 : Nat) : Int) ≤ (col : Int); omega)
    have hdw : w - (col + 1) = d := by omega
    have hlp := lp_post (t := t) (cols := cols) (h := h) (L0 := L0) (b := b) hcw ha (fun c S' hc hi' hA' hw' => by rw [hdw]; exact on_post d (col + 1) b c S' (by omega) hb hc hi' hA') (fun c S' hw' => by
      rw [show w - (col + 1) = 0 by omega]; rfl) m 0 S1 (by omega) hi1 hA1
    rw [hdw] at hlp
    generalize lpF (mkL t cols h col a b) (fun c S => onF (mkL t cols h) m d (col + 1) b c S) a m 0 S1 = Y at hlp ⊢
    obtain ⟨S2, o⟩ := Y
    simp only at hlp ⊢
    have hsl := hlp.sl
    rw [e2, List.length_append, List.length_singleton] at hsl
    have hml : m * (S2.st.length - S.st.length) = m * (S2.st.length - (S.st.length + 1)) + m := by
      rw [← Nat.mul_succ]
      congr 1
      omega
    have hl1 : S1.st.length = S.st.length + 1 := by rw [e2, List.length_append, List.length_singleton]
    have hslo : ∀ x ∈ S2.st, x ∈ S.st ∨ (col : Int) ≤ x.1 := fun x hx => by
      rcases hlp.slo x hx with h | h
      · rw [e2] at h
        rcases List.mem_append.1 h with h | h
        · exact .inl h
        · obtain rfl : x = entN col a b := by simpa using h
          exact .inr (Int.le_refl _)
      · exact .inr (by omega)
    cases o with
    | none =>
      obtain ⟨q1, q2⟩ := hlp.err rfl
      rw [hl1, e4] at q2
      exact ⟨hlp.inv, fun x hx => hlp.os x (by rw [e1]; exact hx), fun x hx => hlp.ss x (by rw [e2]; exact List.mem_append_left _ hx), by show S.st.length ≤ S2.st.length; omega, fun x hx => by rcases hlp.lo x hx with h | h; (rw [e1] at h; exact .inl h); exact .inr (by omega), fun x hx => hslo x hx, fun _ => ⟨q1, by show S2.tries + 1 ≤ S.tries + m * (S2.st.length - S.st.length); omega⟩, fun h => absurd rfl h, nofun, nofun⟩
    | some o =>
      have q2 := hlp.ok nofun
      rw [hl1, e4] at q2
      cases o with
      | true =>
        obtain ⟨v, v1, v2, v3, v4⟩ := hlp.yes rfl
        exact ⟨hlp.inv, fun x hx => hlp.os x (by rw [e1]; exact hx), fun x hx => hlp.ss x (by rw [e2]; exact List.mem_append_left _ hx), by show S.st.length ≤ S2.st.length; omega, fun x hx => by rcases hlp.lo x hx with h | h; (rw [e1] at h; exact .inl h); exact .inr (by omega), fun x hx => hslo x hx, nofun, fun _ => by show S2.tries ≤ S.tries + m * (S2.st.length - S.st.length); omega, nofun, fun _ => ⟨v, v1, v2, v3, by rw [v4, e3]⟩⟩
      | false =>
        obtain ⟨n1, n2, n3⟩ := hlp.no rfl
        have hin : entN col a b ∈ S2.st := hlp.ss _ (by rw [e2]; simp)
        have hdup : ¬ entN col a b ∈ S2.order := fun hd => by
          rcases hlp.lo _ hd with h | h
          · rw [e1] at h; exact hmem h
          · exact absurd h (by show ¬ ((col + 1 : Nat) : Int) ≤ (col : Int); omega)
        have hhold : hold t cols h m (entN col a b) S2.order := by
          rw [hold_iff]
          intro c hc hlk
          simp only [Int.toNat_natCast] at hlk ⊢
          exact n3 c (by omega) (by omega) hlk
        refine ⟨⟨fun x hx => ?_, ?_, hlp.inv.sfit, hlp.inv.nd, fun x hx => ?_, ?_, hlp.inv.sum⟩, fun x hx => List.mem_append_left _ (hlp.os x (by rw [e1]; exact hx)), fun x hx => hlp.ss x (by rw [e2]; exact List.mem_append_left _ hx), by show S.st.length ≤ S2.st.length; omega, fun x hx => ?_, fun x hx => hslo x hx, nofun, fun _ => by show S2.tries ≤ S.tries + m * (S2.st.length - S.st.length); omega, fun _ => ⟨by rw [← e3]; exact n1, by simp, fun x hx hc => ?_⟩, nofun⟩
        · rcases List.mem_append.1 hx with hx | hx
          · exact hlp.inv.fit x hx
          · obtain rfl : x = entN col a b := by simpa using hx
            exact hfit
        · rw [allH_append]
          exact ⟨hlp.inv.all, hhold, trivial⟩
        · rcases List.mem_append.1 hx with hx | hx
          · exact hlp.inv.sub x hx
          · obtain rfl : x = entN col a b := by simpa using hx
            exact hin
        · show (S2.order ++ [entN col a b]).Nodup
          rw [List.nodup_append]
          exact ⟨hlp.inv.ond, by simp, fun x hx y hy e => by
            obtain rfl : y = entN col a b := by simpa using hy
            rw [e] at hx
            exact hdup hx⟩
        · rcases List.mem_append.1 hx with hx | hx
          · rcases hlp.lo x hx with h | h
            · rw [e1] at h; exact .inl h
            · exact .inr (by omega)
          · obtain rfl : x = entN col a b := by simpa using hx
            exact .inr (Int.le_refl _)
        · rcases hlp.slo x hx with h | h
          · rw [e2] at h
            rcases List.mem_append.1 h with h | h
            · exact List.mem_append_left _ (hlp.os x (by rw [e1]; exact hA x h hc))
            · obtain rfl : x = entN col a b := by simpa using h
              exact List.mem_append_right _ (by simp)
          · exact List.mem_append_left _ (n2 x hx h)
/-- all pairs -/
structure AllPost (t cols : List Int) (h m w L0 r n : Nat) (S S2 : SS) (o : Option Bool) : Prop where
  inv : Inv t cols h m w L0 S2
  sl : S.st.length ≤ S2.st.length
  err : o = none → S2.left = 0 ∧ S2.tries + 1 ≤ S.tries + m * (S2.st.length - S.st.length)
  ok : o ≠ none → S2.tries ≤ S.tries + m * (S2.st.length - S.st.length)
  os : ∀ x ∈ S.order, x ∈ S2.order
  no : o = some false → S2.way = S.way ∧ ∀ k, n ≤ k → k < n + r → key0 m k ∈ S2.order
  yes : o = some true → ∃ v, Path (mkL t cols h) m w 0 v ∧ S2.way = S.way ++ wayL v w 0
theorem all_post {t cols : List Int} {h m w L0 : Nat} : ∀ (r n : Nat) (S : SS), n + r = m * m → Inv t cols h m w L0 S → (∀ x ∈ S.st, x ∈ S.order) →
    AllPost t cols h m w L0 r n S (allF (mkL t cols h) m w r n S).1 (allF (mkL t cols h) m w r n S).2
  | 0, n, S, hr, hi, hA => by
    unfold allF
    exact ⟨hi, Nat.le_refl _, nofun, fun _ => by show S.tries ≤ S.tries + _; omega, fun _ h => h, fun _ => ⟨rfl, fun k h1 h2 => by omega⟩, nofun⟩
  | r + 1, n, S, hr, hi, hA => by
    have hm : 0 < m := by
      rcases Nat.eq_zero_or_pos m with e | e
      · rw [e] at hr; omega
      · exact e
    have hp := on_post (t := t) (cols := cols) (h := h) (L0 := L0) w 0 (n / m) (n % m) S (by omega) (Nat.div_lt_of_lt_mul (by omega)) (Nat.mod_lt _ hm) hi (fun x hx _ => hA x hx)
    unfold allF
    generalize onF (mkL t cols h) m w 0 (n / m) (n % m) S = X at hp ⊢
    obtain ⟨S2, o⟩ := X
    simp only at hp ⊢
    have hsl := hp.sl
    cases o with
    | none => exact ⟨hp.inv, hsl, fun _ => hp.err rfl, fun h => absurd rfl h, hp.os, nofun, nofun⟩
    | some o =>
      have hq := hp.ok nofun
      cases o with
      | true =>
        obtain ⟨v, v1, v2, v3, v4⟩ := hp.yes rfl
        exact ⟨hp.inv, hsl, nofun, fun _ => hq, hp.os, nofun, fun _ => ⟨v, v3, v4⟩⟩
      | false =>
        obtain ⟨n1, n2, n3⟩ := hp.no rfl
        have ih := all_post r (n + 1) S2 (by omega) hp.inv (fun x hx => n3 x hx (hp.inv.sfit x hx).a0)
        simp only
        generalize allF (mkL t cols h) m w r (n + 1) S2 = Y at ih ⊢
        obtain ⟨S3, o3⟩ := Y
        simp only at ih ⊢
        have hsl3 := ih.sl
        have hml : m * (S3.st.length - S.st.length) = m * (S3.st.length - S2.st.length) + m * (S2.st.length - S.st.length) := by
          rw [← Nat.mul_add]
          congr 1
          omega
        refine ⟨ih.inv, by omega, fun e => ⟨(ih.err e).1, ?_⟩, fun e => ?_, fun x hx => ih.os x (hp.os x hx), fun e => ⟨by rw [(ih.no e).1, n1], fun k h1 h2 => ?_⟩, fun e => ?_⟩
        · have := (ih.err e).2; omega
        · have := ih.ok e; omega
        · rcases Nat.lt_or_ge n k with hk | hk
          · exact (ih.no e).2 k (by omega) (by omega)
          · obtain rfl : k = n := by omega
            exact ih.os _ n2
        · obtain ⟨v, v3, v4⟩ := ih.yes e
          exact ⟨v, v3, by rw [v4, n1]⟩
theorem nodup_len : ∀ (N : Nat) (l : List Nat), l.Nodup → (∀ x ∈ l, x < N) → l.length ≤ N
  | 0, l, _, h => by
    cases l with
    | nil => exact Nat.le_refl _
    | cons x r => exact absurd (h x (by simp)) (by omega)
  | N + 1, l, hd, h => by
    by_cases hN : N ∈ l
    · have h1 := nodup_len N (l.erase N) (hd.erase N) (fun x hx => by
        have hx2 := (hd.mem_erase_iff).1 hx
        have := h x hx2.2
        omega)
      rw [List.length_erase_of_mem hN] at h1
      omega
    · have := nodup_len N l hd (fun x hx => by
        have h1 := h x hx
        have h2 : x ≠ N := fun e => hN (e ▸ hx)
        omega)
      omega
theorem ents_len {w m : Nat} : ∀ {L : List Ent}, L.Nodup → (∀ x ∈ L, Fit3 w m x) → L.length ≤ w * m * m := by
  intro L hd hf
  have h1 : (L.map (posE m)).Nodup := by
    induction L with
    | nil => simp
    | cons x r ih =>
      rw [List.nodup_cons] at hd
      rw [List.map_cons, List.nodup_cons]
      refine ⟨fun hin => ?_, ih hd.2 (fun y hy => hf y (by simp [hy]))⟩
      obtain ⟨y, hy, he⟩ := List.mem_map.1 hin
      have := posE_inj (hf y (by simp [hy])) (hf x (by simp)) he
      rw [this] at hy
      exact hd.1 hy
  have := nodup_len (w * m * m) (L.map (posE m)) h1 (fun x hx => by
    obtain ⟨y, hy, rfl⟩ := List.mem_map.1 hx
    exact posE_lt (hf y hy))
  rwa [List.length_map] at this
def S0 (L0 : Nat) : SS := ⟨0, L0, [], [], []⟩
theorem inv0 (t cols : List Int) (h m w L0 : Nat) : Inv t cols h m w L0 (S0 L0) := ⟨nofun, trivial, nofun, List.nodup_nil, nofun, List.nodup_nil, by show 0 + L0 = L0; omega⟩
/-- what the whole search tells -/
def seekF (t cols : List Int) (h m w L0 : Nat) : SS × Option Bool := allF (mkL t cols h) m w (m * m) 0 (S0 L0)
structure SeekPost (t cols : List Int) (h m w L0 : Nat) (S : SS) (o : Option Bool) : Prop where
  tl : S.tries ≤ L0
  sum : S.tries + S.left = L0
  fit : ∀ x ∈ S.order, Fit3 w m x
  len : S.order.length ≤ w * m * m
  err : o = none → S.left = 0 ∧ S.tries = L0 ∧ L0 < w * m * m * m
  ok : o ≠ none → S.tries ≤ w * m * m * m
  no : o = some false → AllH t cols h m S.order [] ∧ cnt0 m S.order (m * m) = m * m
  yes : o = some true → ∃ v, Path (mkL t cols h) m w 0 v ∧ S.way = wayL v w 0
theorem seek_post (t cols : List Int) (h m w L0 : Nat) : SeekPost t cols h m w L0 (seekF t cols h m w L0).1 (seekF t cols h m w L0).2 := by
  have hp := all_post (t := t) (cols := cols) (h := h) (w := w) (m * m) 0 (S0 L0) (by omega) (inv0 t cols h m w L0) nofun
  unfold seekF
  generalize allF (mkL t cols h) m w (m * m) 0 (S0 L0) = X at hp ⊢
  obtain ⟨S, o⟩ := X
  simp only at hp ⊢
  have hs := hp.inv.sum
  have hst := ents_len hp.inv.nd hp.inv.sfit
  have hml : m * (S.st.length - (S0 L0).st.length) ≤ w * m * m * m := by
    rw [Nat.mul_comm]
    exact Nat.mul_le_mul_right _ (by show S.st.length - 0 ≤ _; omega)
  have e0 : (S0 L0).tries = 0 := rfl
  refine ⟨by omega, hs, hp.inv.fit, ents_len hp.inv.ond hp.inv.fit, fun e => ?_, fun e => ?_, fun e => ⟨hp.inv.all, ?_⟩, fun e => ?_⟩
  · obtain ⟨h1, h2⟩ := hp.err e
    rw [e0] at h2
    exact ⟨h1, by omega, by omega⟩
  · have := hp.ok e
    rw [e0] at this
    omega
  · exact cnt0_full _ fun k hk => (hp.no e).2 k (by omega) (by omega)
  · obtain ⟨v, h1, h2⟩ := hp.yes e
    exact ⟨v, h1, h2⟩
/-- without tries nothing is told -/
theorem seek_zero {t cols : List Int} {h m w : Nat} (hm : 0 < m) (hw : 0 < w) : (seekF t cols h m w 0).2 = none := by
  obtain ⟨q, hq⟩ : ∃ q, m * m = q + 1 := ⟨m * m - 1, by have := Nat.mul_pos hm hm; omega⟩
  obtain ⟨d, rfl⟩ : ∃ d, w = d + 1 := ⟨w - 1, by omega⟩
  obtain ⟨p, rfl⟩ : ∃ p, m = p + 1 := ⟨m - 1, by omega⟩
  unfold seekF
  rw [hq]
  have h1 : onF (mkL t cols h) (p + 1) (d + 1) 0 (0 / (p + 1)) (0 % (p + 1)) (S0 0) = (⟨0, 0, [], [], [entN 0 (0 / (p + 1)) (0 % (p + 1))]⟩, none) := by
    unfold onF
    rw [if_neg (show ¬ entN 0 (0 / (p + 1)) (0 % (p + 1)) ∈ (S0 0).order from nofun)]
    show (match lpF (mkL t cols h 0 (0 / (p + 1)) (0 % (p + 1))) (fun c S => onF (mkL t cols h) (p + 1) d (0 + 1) (0 % (p + 1)) c S) (0 / (p + 1)) (p + 1) 0 ⟨0, 0, [], [], [entN 0 (0 / (p + 1)) (0 % (p + 1))]⟩ with | (S2, none) => (S2, none) | (S2, some true) => (S2, some true) | (S2, some false) => ({ S2 with order := S2.order ++ [entN 0 (0 / (p + 1)) (0 % (p + 1))] }, some false)) = _
    unfold lpF
    have hz : (⟨0, 0, [], [], [entN 0 (0 / (p + 1)) (0 % (p + 1))]⟩ : SS).left = 0 := rfl
    rw [if_pos hz]
  unfold allF
  rw [h1]
end Go.Proofs.YtoaooblodgejdaaDoor

