/- Texts and lines (plain): what the document's Parse tells is what the program's does; the text of a patch is read back, and what is taken is written again. The text of a patch is read back, and what is taken is written again (plain). The contract of edenref21.Parse, for any text. -/
import Derived.Test.YtnlpobkmjhajcaaDoorPatG
import Derived.Test.YtnlpobkmjhajcaaDoorRefB
namespace Go.Proofs.YtnlpobkmjhajcaaDoor
open Go.RowKit
set_option linter.unusedVariables false
set_option maxRecDepth 100000

/-- the lines of a text -/
def linesU : List UInt8 → List (List UInt8)
  | [] => [[]]
  | c :: r => if c = 47 then [] :: linesU r else match linesU r with
    | t :: ts => (c :: t) :: ts
    | [] => [[c]]
theorem linesU_ne : ∀ s, linesU s ≠ []
  | [] => by simp [linesU]
  | c :: r => by
    unfold linesU
    split
    · exact nofun
    · split <;> exact nofun
theorem linesU_none : ∀ {s : List UInt8}, (∀ c ∈ s, c ≠ 47) → linesU s = [s]
  | [], _ => rfl
  | c :: r, h => by
    have ih := linesU_none (s := r) fun x hx => h x (List.mem_cons_of_mem _ hx)
    unfold linesU
    rw [if_neg (h c (List.mem_cons_self ..)), ih]
theorem linesU_cut : ∀ {p r : List UInt8}, (∀ c ∈ p, c ≠ 47) → linesU (p ++ 47 :: r) = p :: linesU r
  | [], r, _ => by simp [linesU]
  | c :: p, r, h => by
    have ih := linesU_cut (p := p) (r := r) fun x hx => h x (List.mem_cons_of_mem _ hx)
    rw [List.cons_append, linesU, if_neg (h c (List.mem_cons_self ..)), ih]
theorem linesU_free : ∀ (s : List UInt8), ∀ t ∈ linesU s, ∀ c ∈ t, c ≠ 47 ∧ c ∈ s
  | [], t, ht, c, hc => by simp [linesU] at ht; subst ht; cases hc
  | x :: r, t, ht, c, hc => by
    have ih := linesU_free r
    unfold linesU at ht
    split at ht
    · rcases List.mem_cons.1 ht with rfl | ht
      · cases hc
      · have := ih t ht c hc
        exact ⟨this.1, List.mem_cons_of_mem _ this.2⟩
    · rename_i hx
      split at ht
      · rename_i t0 ts he
        rcases List.mem_cons.1 ht with rfl | ht
        · rcases List.mem_cons.1 hc with rfl | hc
          · exact ⟨hx, List.mem_cons_self ..⟩
          · have := ih t0 (by rw [he]; exact List.mem_cons_self ..) c hc
            exact ⟨this.1, List.mem_cons_of_mem _ this.2⟩
        · have := ih t (by rw [he]; exact List.mem_cons_of_mem _ ht) c hc
          exact ⟨this.1, List.mem_cons_of_mem _ this.2⟩
      · rcases List.mem_singleton.1 ht with rfl
        rcases List.mem_singleton.1 hc with rfl
        exact ⟨hx, List.mem_cons_self ..⟩
/-- lines joined by a stroke -/
def joinU : List (List UInt8) → List UInt8
  | [] => []
  | [t] => t
  | t :: u :: ts => t ++ 47 :: joinU (u :: ts)
theorem joinU_cons {t : List UInt8} {ts : List (List UInt8)} (h : ts ≠ []) : joinU (t :: ts) = t ++ 47 :: joinU ts := by
  cases ts with
  | nil => exact absurd rfl h
  | cons u ts => rfl
theorem joinU_lines : ∀ s, joinU (linesU s) = s
  | [] => rfl
  | c :: r => by
    have ih := joinU_lines r
    unfold linesU
    split
    · rename_i h
      rw [joinU_cons (linesU_ne r), ih, h]; rfl
    · cases he : linesU r with
      | nil => exact absurd he (linesU_ne r)
      | cons t ts =>
        rw [he] at ih
        show joinU ((c :: t) :: ts) = _
        cases ts with
        | nil => rw [← ih]; rfl
        | cons u ts => rw [← ih]; rfl
theorem linesU_join : ∀ {L : List (List UInt8)}, L ≠ [] → (∀ t ∈ L, ∀ c ∈ t, c ≠ 47) → linesU (joinU L) = L
  | [], h, _ => absurd rfl h
  | [t], _, h => linesU_none (h t (List.mem_cons_self ..))
  | t :: u :: ts, _, h => by
    rw [joinU_cons (by exact nofun), linesU_cut (h t (List.mem_cons_self ..)), linesU_join (L := u :: ts) (by exact nofun) fun x hx => h x (List.mem_cons_of_mem _ hx)]
/-- the program's lines are these -/
theorem split_lines : ∀ (k : Nat) (s : ByteArray), Lib.countB s ⟨#[47]⟩ = k → (Lib.splitB ⟨#[47]⟩ 0 k s).map (fun t => t.data.toList) = linesU s.data.toList := by
  have hone : ∀ s : ByteArray, Lib.indexB s ⟨#[47]⟩ = Lib.indexByte s.data.toList 47 := fun s => Lib.index_one _ _
  intro k
  induction k with
  | zero =>
    intro s hk
    rcases Lib.indexB_cases s ⟨#[47]⟩ with hix | ⟨i, hix, _⟩
    · rw [Lib.splitB_zero]
      rw [hone] at hix
      have hn : ∀ c ∈ s.data.toList, c ≠ 47 := by
        rintro c hc rfl
        obtain ⟨j, hj, e⟩ := List.getElem_of_mem hc
        exact Lib.indexByte_none hix j (by rw [List.getElem?_eq_getElem hj, e])
      rw [linesU_none hn]
      rfl
    · have := Lib.countB_hit s ⟨#[47]⟩ i (by decide) hix
      omega
  | succ k ih =>
    intro s hk
    rcases Lib.indexB_cases s ⟨#[47]⟩ with hix | ⟨i, hix, hroom⟩
    · rw [Lib.countB_miss s ⟨#[47]⟩ hix] at hk; omega
    · rw [Lib.splitB_hit ⟨#[47]⟩ 0 k s i hix, List.map_cons, ih _ (by have := Lib.countB_hit s ⟨#[47]⟩ i (by decide) hix; omega)]
      rw [hone] at hix
      obtain ⟨h1, h2⟩ := Lib.indexByte_some hix
      have hi : i < s.data.toList.length := (List.getElem?_eq_some_iff.1 h1).1
      have hs : s.data.toList = s.data.toList.take i ++ 47 :: s.data.toList.drop (i + 1) := by
        have e1 : s.data.toList[i] = 47 := (List.getElem?_eq_some_iff.1 h1).2
        rw [← e1, ← List.drop_eq_getElem_cons hi, List.take_append_drop]
      have hn : ∀ c ∈ s.data.toList.take i, c ≠ 47 := by
        rintro c hc rfl
        obtain ⟨j, hj, e⟩ := List.getElem_of_mem hc
        have hj2 : j < i := by simp at hj; omega
        exact h2 j hj2 (by rw [List.getElem?_eq_getElem (by omega)]; rw [List.getElem_take] at e; rw [e])
      have e2 : (s.extract 0 (i + 0)).data.toList = s.data.toList.take i := by simp
      have e3 : (s.extract (i + (⟨#[47]⟩ : ByteArray).size) s.size).data.toList = s.data.toList.drop (i + 1) := by
        have : (⟨#[47]⟩ : ByteArray).size = 1 := rfl
        rw [this]
        simp only [ByteArray.data_extract, Array.toList_extract]
        rw [List.extract_eq_take_drop, List.take_of_length_le]
        rw [List.length_drop]
        simp
      rw [e2, e3]
      conv => rhs; rw [hs]
      rw [linesU_cut hn]
theorem lns_lines (s : ByteArray) : (lnsB s).map (fun t => t.data.toList) = linesU s.data.toList := split_lines _ s rfl
/-- a cell, as the document reads it -/
def cellU (c : UInt8) : Int := if c = 35 then 1 else 0
/-- the document's loop over a text: i the place, n cells in this line so far, W, H and the cells so far -/
def refRun : List UInt8 → Nat → Nat → Nat → Nat → List Int → Except Nat (Nat × Nat × List Int)
  | [], i, n, W, H, cs => if n = 0 ∨ n ≠ (if H = 0 then n else W) then .error i else .ok ((if H = 0 then n else W), H + 1, cs)
  | c :: r, i, n, W, H, cs => if c ≠ 47 then refRun r (i + 1) (n + 1) W H (cs ++ [cellU c]) else if n = 0 ∨ n ≠ (if H = 0 then n else W) then .error i else refRun r (i + 1) 0 (if H = 0 then n else W) (H + 1) cs
/-- the same, line by line -/
def goL : List (List UInt8) → Nat → Nat → Nat → Nat → List Int → Except Nat (Nat × Nat × List Int)
  | [], i, n, W, H, cs => .error i
  | t :: ts, i, n, W, H, cs => if n + t.length = 0 ∨ n + t.length ≠ (if H = 0 then n + t.length else W) then .error (i + t.length) else
    if ts = [] then .ok ((if H = 0 then n + t.length else W), H + 1, cs ++ t.map cellU) else goL ts (i + t.length + 1) 0 (if H = 0 then n + t.length else W) (H + 1) (cs ++ t.map cellU)
theorem refRun_lines : ∀ (s : List UInt8) (i n W H : Nat) (cs : List Int), refRun s i n W H cs = goL (linesU s) i n W H cs
  | [], i, n, W, H, cs => by
    show _ = goL [[]] i n W H cs
    simp [refRun, goL]
  | c :: r, i, n, W, H, cs => by
    rw [refRun, linesU]
    by_cases h : c = 47
    · rw [if_neg (fun h2 => h2 h), if_pos h, goL, refRun_lines r]
      simp [linesU_ne r]
    · rw [if_pos h, if_neg h, refRun_lines r]
      cases he : linesU r with
      | nil => exact absurd he (linesU_ne r)
      | cons t ts =>
        show goL (t :: ts) (i + 1) (n + 1) W H (cs ++ [cellU c]) = goL ((c :: t) :: ts) i n W H cs
        rw [goL, goL]
        simp only [List.length_cons, List.map_cons]
        rw [show n + 1 + t.length = n + (t.length + 1) by omega, show i + 1 + t.length = i + (t.length + 1) by omega, List.append_assoc]
        rfl
def lenErr (w : Nat) : Int → List (List UInt8) → Option Int
  | _, [] => none
  | e, t :: r => if t.length = 0 ∨ t.length ≠ w then some (e + ((t.length : Int) + 1)) else lenErr w (e + ((t.length : Int) + 1)) r
theorem lineErr_len (w : Nat) : ∀ (L : List ByteArray) (e : Int), lineErr w e L = lenErr w e (L.map fun t => t.data.toList)
  | [], _ => rfl
  | t :: r, e => by
    rw [lineErr, List.map_cons, lenErr, lineErr_len w r]
    simp
theorem goL_later (w : Nat) (hw : w ≠ 0) : ∀ (L : List (List UInt8)) (i H : Nat) (cs : List Int), L ≠ [] → H ≠ 0 →
    goL L i 0 w H cs = match lenErr w ((i : Int) - 1) L with | some e => .error e.toNat | none => .ok (w, H + L.length, cs ++ L.flatMap fun t => t.map cellU)
  | [], _, _, _, h, _ => absurd rfl h
  | t :: ts, i, H, cs, _, hH => by
    rw [goL, lenErr, Nat.zero_add, if_neg hH]
    by_cases hb : t.length = 0 ∨ t.length ≠ w
    · rw [if_pos hb, if_pos hb]
      show Except.error _ = Except.error _
      congr 1
      omega
    · rw [if_neg hb, if_neg hb]
      by_cases ht : ts = []
      · subst ht
        rw [if_pos rfl]
        simp [lenErr]
      · rw [if_neg ht, goL_later w hw ts _ _ _ ht (by omega)]
        rw [show ((i + t.length + 1 : Nat) : Int) - 1 = (i : Int) - 1 + ((t.length : Int) + 1) by omega]
        cases lenErr w ((i : Int) - 1 + ((t.length : Int) + 1)) ts with
        | some e => rfl
        | none =>
          show Except.ok _ = Except.ok _
          rw [List.length_cons, List.flatMap_cons, List.append_assoc, show H + 1 + ts.length = H + (ts.length + 1) by omega]
theorem goL_first (t : List UInt8) (ts : List (List UInt8)) :
    goL (t :: ts) 0 0 0 0 [] = match lenErr t.length (-1) (t :: ts) with | some e => .error e.toNat | none => .ok (t.length, (t :: ts).length, (t :: ts).flatMap fun t => t.map cellU) := by
  rw [goL, lenErr, Nat.zero_add, if_pos rfl]
  by_cases hb : t.length = 0
  · rw [if_pos (.inl hb), if_pos (.inl hb)]
    show Except.error _ = Except.error _
    congr 1
    omega
  · have hb2 : ¬ (t.length = 0 ∨ t.length ≠ t.length) := by omega
    rw [if_neg hb2, if_neg hb2]
    by_cases ht : ts = []
    · subst ht
      rw [if_pos rfl]
      simp [lenErr]
    · rw [if_neg ht, goL_later t.length hb ts _ _ _ ht (by omega)]
      rw [show ((t.length + 1 : Nat) : Int) - 1 = (-1 : Int) + ((t.length : Int) + 1) by omega]
      cases lenErr t.length ((-1 : Int) + ((t.length : Int) + 1)) ts with
      | some e => rfl
      | none =>
        show Except.ok _ = Except.ok _
        rw [List.length_cons, List.flatMap_cons, List.nil_append, show 0 + 1 + ts.length = ts.length + 1 by omega]
/-- what the document's Parse tells -/
def prD (s : ByteArray) : ErrD :=
  if 8192 < s.size then some ([(opPatch, 0)], 4)
  else match s.data.toList.findIdx? badC with
    | some i => some ([(opPatch, (i : Int))], 6)
    | none => match refRun s.data.toList 0 0 0 0 [] with
      | .error i => some ([(opPatch, (i : Int))], 6)
      | .ok (w, h, _) => if 64 < w then some ([(opPatch, 1)], 4) else if 64 < h then some ([(opPatch, 2)], 4) else none
def prO (s : ByteArray) : Int × Int × List Int := if prD s = none then match refRun s.data.toList 0 0 0 0 [] with
  | .error _ => (0, 0, [])
  | .ok (w, h, cs) => ((w : Int), (h : Int), cs) else (0, 0, [])
def parD (s : ByteArray) : ErrD := (parErrP s).map fun x => ([(opPatch, x.1)], x.2)
def parO (s : ByteArray) : Int × Int × List Int := if parErrP s = none then ((wid s : Int), ((lnsB s).length : Int), parCells s) else (0, 0, [])
theorem cell_good {c : UInt8} (h : badC c = false) (h2 : c ≠ 47) : cellC c = cellU c := by
  unfold badC at h
  unfold cellC cellU
  by_cases h46 : c = 46
  · subst h46; decide
  · by_cases h35 : c = 35
    · subst h35; decide
    · simp [h46, h35, h2] at h
theorem lenErr_nn (w : Nat) : ∀ (L : List (List UInt8)) (e : Int), -1 ≤ e → ∀ x, lenErr w e L = some x → 0 ≤ x
  | [], _, _, _, h => by cases h
  | t :: r, e, he, x, h => by
    rw [lenErr] at h
    split at h
    · cases h; omega
    · exact lenErr_nn w r _ (by omega) x h
theorem run_eq (s : ByteArray) (hg : ∀ c ∈ s.data.toList, badC c = false) : refRun s.data.toList 0 0 0 0 [] = match lineErr (wid s) (-1) (lnsB s) with | some e => .error e.toNat | none => .ok (wid s, (lnsB s).length, parCells s) := by
  have h1 := lns_lines s
  rw [refRun_lines, lineErr_len, h1]
  have hl : (lnsB s).length = (linesU s.data.toList).length := by rw [← h1, List.length_map]
  have hc : parCells s = (linesU s.data.toList).flatMap fun t => t.map cellU := by
    unfold parCells
    rw [← h1, List.flatMap_map]
    rw [List.flatMap_def, List.flatMap_def]
    congr 1
    refine List.map_congr_left fun t ht => ?_
    unfold rowC
    refine List.map_congr_left fun c hc => ?_
    have h2 : t.data.toList ∈ linesU s.data.toList := by rw [← h1]; exact List.mem_map.2 ⟨t, ht, rfl⟩
    have h3 := linesU_free _ _ h2 c hc
    exact cell_good (hg c h3.2) h3.1
  have hw : wid s = ((linesU s.data.toList).getD 0 []).length := by
    unfold wid
    rw [← h1]
    cases lnsB s with
    | nil => rfl
    | cons a b => simp
  rw [hl, hc, hw]
  cases he : linesU s.data.toList with
  | nil => exact absurd he (linesU_ne _)
  | cons t ts => exact goL_first t ts
theorem pr_par (s : ByteArray) : prD s = parD s ∧ prO s = parO s := by
  have hD : prD s = parD s := by
    unfold prD parD parErrP
    by_cases hb : 8192 < s.size
    · rw [if_pos hb, if_pos hb]; rfl
    rw [if_neg hb, if_neg hb]
    cases hf : s.data.toList.findIdx? badC with
    | some i => rfl
    | none =>
      have hg : ∀ c ∈ s.data.toList, badC c = false := fun c hc => by
        have := List.findIdx?_eq_none_iff.1 hf c hc
        simpa using this
      show (match refRun s.data.toList 0 0 0 0 [] with | .error i => _ | .ok (w, h, _) => _) = _
      rw [run_eq s hg]
      have hnn := lenErr_nn (wid s) ((lnsB s).map fun t => t.data.toList) (-1) (by omega)
      rw [← lineErr_len] at hnn
      cases he : lineErr (wid s) (-1) (lnsB s) with
      | some e =>
        have := hnn e he
        show some ([(opPatch, ((e.toNat : Nat) : Int))], (6 : Int)) = some ([(opPatch, e)], (6 : Int))
        rw [Int.toNat_of_nonneg this]
      | none =>
        show (if 64 < wid s then _ else if 64 < (lnsB s).length then _ else none) = Option.map _ (if 64 < wid s then _ else if 64 < (lnsB s).length then _ else none)
        split
        · rfl
        · split <;> rfl
  refine ⟨hD, ?_⟩
  unfold prO parO
  rw [hD]
  cases hp : parErrP s with
  | some x => rw [if_neg (by unfold parD; rw [hp]; exact nofun), if_neg (by exact nofun)]
  | none =>
    rw [if_pos (by unfold parD; rw [hp]; rfl), if_pos rfl]
    have hp2 := hp
    unfold parErrP at hp2
    split at hp2
    · cases hp2
    split at hp2
    · cases hp2
    rename_i hf
    have hg : ∀ c ∈ s.data.toList, badC c = false := fun c hc => by
      have := List.findIdx?_eq_none_iff.1 hf c hc
      simpa using this
    rw [run_eq s hg]
    split at hp2
    · cases hp2
    rename_i he
    rw [he]
end Go.Proofs.YtnlpobkmjhajcaaDoor
namespace Go.Proofs.YtnlpobkmjhajcaaDoor
open Go.RowKit
set_option linter.unusedVariables false
set_option maxRecDepth 100000

/-- a line's letters -/
def rowT (w : Nat) (l : List Int) (y : Nat) : List UInt8 := (List.range w).map fun x => txB l (y * w + x)
theorem refT_row {w y : Nat} {l : List Int} : ∀ x, x ≤ w → refT w l y x = refT w l y 0 ++ (List.range x).map fun x => txB l (y * w + x)
  | 0, _ => by simp
  | x + 1, h => by
    rw [← refT_next (by omega), refT_row x (by omega), List.range_succ, List.map_append, List.append_assoc]
    rfl
theorem textS_row {w y : Nat} {l : List Int} (hw : 1 ≤ w) : textS w l ((y + 1) * w) = (if y = 0 then [] else textS w l (y * w) ++ [47]) ++ rowT w l y := by
  rw [← refT_end hw, refT_row w (Nat.le_refl w)]
  congr 1
theorem joinU_snoc : ∀ (L : List (List UInt8)) (t : List UInt8), joinU (L ++ [t]) = (if L = [] then [] else joinU L ++ [47]) ++ t
  | [], t => rfl
  | [u], t => by simp [joinU]
  | u :: v :: L, t => by
    have ih := joinU_snoc (v :: L) t
    rw [if_neg (by simp)] at ih
    rw [if_neg (by simp), List.cons_append, joinU_cons (t := u) (ts := v :: L ++ [t]) (by simp), ih, joinU_cons (t := u) (ts := v :: L) (by simp)]
    simp
theorem text_join {w : Nat} {l : List Int} (hw : 1 ≤ w) : ∀ h, textS w l (h * w) = joinU ((List.range h).map (rowT w l))
  | 0 => by simp [textS, joinU]
  | h + 1 => by
    rw [textS_row hw, List.range_succ, List.map_append, List.map_singleton, joinU_snoc, text_join hw h]
    by_cases h0 : h = 0
    · subst h0; simp
    · rw [if_neg h0, if_neg (by simp [h0])]
theorem textP_join {w h : Nat} {l : List Int} (hw : 1 ≤ w) : textP w h l = joinU ((List.range h).map (rowT w l)) := by
  unfold textP
  rw [Nat.mul_comm]
  exact text_join hw h
theorem txB_cell {l : List Int} {i : Nat} (h : l.getD i 0 = 0 ∨ l.getD i 0 = 1) : badC (txB l i) = false ∧ txB l i ≠ 47 ∧ cellU (txB l i) = l.getD i 0 := by
  unfold txB
  rcases h with h | h
  · rw [h]; decide
  · rw [h]; decide
theorem rows_flat {w : Nat} (f : Nat → List Int) (hf : ∀ y, (f y).length = w) : ∀ h y x, y < h → x < w → ((List.range h).flatMap f).getD (y * w + x) 0 = (f y).getD x 0
  | 0, y, x, h1, h2 => absurd h1 (Nat.not_lt_zero _)
  | h + 1, y, x, h1, h2 => by
    have hl : ∀ k, ((List.range k).flatMap f).length = k * w := by
      intro k
      induction k with
      | zero => simp
      | succ k ih => rw [List.range_succ, List.flatMap_append, List.length_append, ih, Nat.add_mul]; simp [hf]
    rw [List.range_succ, List.flatMap_append]
    by_cases hy : y < h
    · have hlt : y * w + x < h * w := by
        have : (y + 1) * w ≤ h * w := Nat.mul_le_mul_right _ hy
        rw [Nat.add_mul] at this
        omega
      have ih := rows_flat f hf h y x hy h2
      rw [List.getD_eq_getElem?_getD, List.getElem?_append_left (by rw [hl]; exact hlt), ← List.getD_eq_getElem?_getD, ih]
    · obtain rfl : y = h := by omega
      rw [List.getD_eq_getElem?_getD, List.getElem?_append_right (by rw [hl]; omega), hl, Nat.add_sub_cancel_left, ← List.getD_eq_getElem?_getD]
      simp
theorem flat_len {w : Nat} (f : Nat → List Int) (hf : ∀ y, (f y).length = w) (h : Nat) : ((List.range h).flatMap f).length = h * w := by
  induction h with
  | zero => simp
  | succ k ih => rw [List.range_succ, List.flatMap_append, List.length_append, ih, Nat.add_mul]; simp [hf]
theorem ext_getD {l m : List Int} {n : Nat} (h1 : l.length = n) (h2 : m.length = n) (h : ∀ i, i < n → l.getD i 0 = m.getD i 0) : l = m := by
  refine List.ext_getElem (by omega) fun i hi hj => ?_
  have := h i (by omega)
  simpa [hi, hj] using this
theorem rows_cells {w h : Nat} {l : List Int} (hp : IsPatch w h l) : ((List.range h).map (rowT w l)).flatMap (fun t => t.map cellU) = l := by
  rw [List.flatMap_map]
  refine ext_getD (n := h * w) (flat_len _ (fun y => by simp [rowT]) h) (by rw [hp.len, Nat.mul_comm]) fun i hi => ?_
  have hw := hp.w1
  have hy : i / w < h := (Nat.div_lt_iff_lt_mul (by omega)).2 hi
  have hx : i % w < w := Nat.mod_lt _ (by omega)
  have e : i = i / w * w + i % w := by rw [Nat.mul_comm, Nat.div_add_mod]
  rw [e, rows_flat (w := w) _ (fun y => by simp [rowT]) h _ _ hy hx]
  have hs := atL_sym hp hx hy
  unfold atL at hs
  simp [rowT, hx, (txB_cell hs).2.2]
theorem rowT_free {w h : Nat} {l : List Int} (hp : IsPatch w h l) : ∀ t ∈ (List.range h).map (rowT w l), t.length = w ∧ ∀ c ∈ t, badC c = false ∧ c ≠ 47 := by
  intro t ht
  obtain ⟨y, hy, rfl⟩ := List.mem_map.1 ht
  refine ⟨by simp [rowT], fun c hc => ?_⟩
  obtain ⟨x, hx, rfl⟩ := List.mem_map.1 hc
  have hs := atL_sym hp (List.mem_range.1 hx) (List.mem_range.1 hy)
  exact ⟨(txB_cell hs).1, (txB_cell hs).2.1⟩
theorem lenErr_fine {w : Nat} (hw : 1 ≤ w) : ∀ (L : List (List UInt8)) (e : Int), (∀ t ∈ L, t.length = w) → lenErr w e L = none
  | [], _, _ => rfl
  | t :: r, e, h => by
    have := h t (List.mem_cons_self ..)
    rw [lenErr, if_neg (by omega)]
    exact lenErr_fine hw r _ fun x hx => h x (List.mem_cons_of_mem _ hx)
theorem lenErr_all {w : Nat} : ∀ (L : List (List UInt8)) (e : Int), lenErr w e L = none → ∀ t ∈ L, t.length = w ∧ 1 ≤ t.length
  | [], _, _, t, ht => by cases ht
  | t :: r, e, h, u, hu => by
    rw [lenErr] at h
    split at h
    · cases h
    · rcases List.mem_cons.1 hu with rfl | hu
      · omega
      · exact lenErr_all r _ h u hu
theorem joinU_mem : ∀ (L : List (List UInt8)) (c : UInt8), c ∈ joinU L → c = 47 ∨ ∃ t ∈ L, c ∈ t
  | [], c, h => by cases h
  | [t], c, h => .inr ⟨t, List.mem_cons_self .., h⟩
  | t :: u :: ts, c, h => by
    rw [joinU_cons (by exact nofun)] at h
    rcases List.mem_append.1 h with h | h
    · exact .inr ⟨t, List.mem_cons_self .., h⟩
    · rcases List.mem_cons.1 h with rfl | h
      · exact .inl rfl
      · rcases joinU_mem (u :: ts) c h with h | ⟨v, hv, h⟩
        · exact .inl h
        · exact .inr ⟨v, List.mem_cons_of_mem _ hv, h⟩
/-- the text of a patch is read back -/
theorem text_par {w h : Nat} {l : List Int} (hp : IsPatch w h l) : parErrP ⟨(textP w h l).toArray⟩ = none ∧ wid ⟨(textP w h l).toArray⟩ = w ∧ (lnsB ⟨(textP w h l).toArray⟩).length = h ∧ parCells ⟨(textP w h l).toArray⟩ = l := by
  have hfr := rowT_free hp
  have hh := hp.h1
  have hne : (List.range h).map (rowT w l) ≠ [] := by
    intro e
    have := congrArg List.length e
    simp at this
    omega
  have hln := lns_lines ⟨(textP w h l).toArray⟩
  have hdata : (⟨(textP w h l).toArray⟩ : ByteArray).data.toList = textP w h l := by simp
  rw [hdata, textP_join hp.w1, linesU_join hne fun t ht c hc => ((hfr t ht).2 c hc).2] at hln
  rw [← textP_join hp.w1] at hln
  have hg : ∀ c ∈ textP w h l, badC c = false := by
    intro c hc
    rw [textP_join hp.w1] at hc
    rcases joinU_mem _ c hc with rfl | ⟨t, ht, hc⟩
    · decide
    · exact ((hfr t ht).2 c hc).1
  have hlen : (lnsB ⟨(textP w h l).toArray⟩).length = h := by
    have := congrArg List.length hln
    simpa using this
  have hwid : wid ⟨(textP w h l).toArray⟩ = w := by
    unfold wid
    have h0 : ((lnsB ⟨(textP w h l).toArray⟩).map fun t => t.data.toList)[0]? = some (rowT w l 0) := by
      rw [hln]; simp [show 0 < h from hh]
    rw [List.getElem?_map] at h0
    cases hc : (lnsB ⟨(textP w h l).toArray⟩)[0]? with
    | none => rw [hc] at h0; cases h0
    | some t =>
      rw [hc] at h0
      have h1 : t.data.toList = rowT w l 0 := by simpa using h0
      rw [List.getD_eq_getElem?_getD, hc]
      have h2 := congrArg List.length h1
      simp [rowT] at h2
      simpa using h2
  have hpc : parCells ⟨(textP w h l).toArray⟩ = l := by
    unfold parCells
    have e : (lnsB ⟨(textP w h l).toArray⟩).flatMap rowC = ((lnsB ⟨(textP w h l).toArray⟩).map fun t => t.data.toList).flatMap fun t => t.map cellU := by
      rw [List.flatMap_map, List.flatMap_def, List.flatMap_def]
      congr 1
      refine List.map_congr_left fun t ht => ?_
      unfold rowC
      refine List.map_congr_left fun c hc => ?_
      have h2 : t.data.toList ∈ (List.range h).map (rowT w l) := by rw [← hln]; exact List.mem_map.2 ⟨t, ht, rfl⟩
      have h3 := (hfr _ h2).2 c hc
      exact cell_good h3.1 h3.2
    rw [e, hln]
    exact rows_cells hp
  refine ⟨?_, hwid, hlen, hpc⟩
  have hsz : ¬ 8192 < (⟨(textP w h l).toArray⟩ : ByteArray).size := by
    have h1 : (⟨(textP w h l).toArray⟩ : ByteArray).size = (textP w h l).length := by simp [ByteArray.size]
    have h2 := textS_len w l (w * h)
    have h3 : w * h ≤ 64 * 64 := Nat.mul_le_mul hp.w2 hp.h2
    unfold textP at h1
    unfold textP
    omega
  unfold parErrP
  rw [if_neg hsz, hdata]
  have hf : (textP w h l).findIdx? badC = none := List.findIdx?_eq_none_iff.2 fun c hc => by simpa using hg c hc
  rw [hf, hwid, hlen, lineErr_len, hln, lenErr_fine hp.w1 _ _ fun t ht => (hfr t ht).1]
  have := hp.w2
  have := hp.h2
  show (if 64 < w then _ else if 64 < h then _ else none) = none
  rw [if_neg (by omega), if_neg (by omega)]
/-- what is taken is a patch, and is written again -/
theorem par_text {s : ByteArray} (hs : parErrP s = none) : IsPatch (wid s) (lnsB s).length (parCells s) ∧ textP (wid s) (lnsB s).length (parCells s) = s.data.toList := by
  unfold parErrP at hs
  split at hs
  · cases hs
  split at hs
  · cases hs
  rename_i hf
  split at hs
  · cases hs
  rename_i hle
  split at hs
  · cases hs
  rename_i h64
  split at hs
  · cases hs
  rename_i h64b
  have hg : ∀ c ∈ s.data.toList, badC c = false := fun c hc => by
    have := List.findIdx?_eq_none_iff.1 hf c hc
    simpa using this
  have hln := lns_lines s
  rw [lineErr_len, hln] at hle
  have hall := lenErr_all _ _ hle
  have hfree := linesU_free s.data.toList
  obtain ⟨L, hL⟩ : ∃ L, linesU s.data.toList = L := ⟨_, rfl⟩
  obtain ⟨w, hw⟩ : ∃ w, wid s = w := ⟨_, rfl⟩
  have hne := linesU_ne s.data.toList
  have hjoin := joinU_lines s.data.toList
  rw [hL] at hln hall hfree hne hjoin
  rw [hw] at hall h64 ⊢
  have hlen : (lnsB s).length = L.length := by rw [← hln, List.length_map]
  rw [hlen] at h64b ⊢
  have hpc : parCells s = L.flatMap fun t => t.map cellU := by
    unfold parCells
    rw [← hln, List.flatMap_map, List.flatMap_def, List.flatMap_def]
    congr 1
    refine List.map_congr_left fun t ht => ?_
    unfold rowC
    refine List.map_congr_left fun c hc => ?_
    have h2 : t.data.toList ∈ L := by rw [← hln]; exact List.mem_map.2 ⟨t, ht, rfl⟩
    have h3 := hfree _ h2 c hc
    exact cell_good (hg c h3.2) h3.1
  rw [hpc]
  have hL1 : 1 ≤ L.length := by
    cases L with
    | nil => exact absurd rfl hne
    | cons t ts => simp
  have hw1 : 1 ≤ w := by
    have h1 := hall (L[0]'(by omega)) (List.getElem_mem _)
    omega
  -- the lines as a function of their number
  have hLr : L = (List.range L.length).map fun y => L.getD y [] := by
    refine List.ext_getElem (by simp) fun i h1 h2 => ?_
    simp [h1]
  have hflat : (L.flatMap fun t => t.map cellU) = (List.range L.length).flatMap fun y => (L.getD y []).map cellU := by
    conv => lhs; rw [hLr]
    rw [List.flatMap_map]
  have hgl : ∀ y, y < L.length → (L.getD y []).length = w := fun y hy => by
    have := (hall (L[y]'hy) (List.getElem_mem _)).1
    simpa [hy] using this
  let f : Nat → List Int := fun y => if y < L.length then (L.getD y []).map cellU else List.replicate w 0
  have hfl : ∀ y, (f y).length = w := fun y => by
    show (if y < L.length then (L.getD y []).map cellU else List.replicate w 0).length = w
    split
    · rename_i hy
      rw [List.length_map]; exact hgl y hy
    · simp
  have hflat2 : (L.flatMap fun t => t.map cellU) = (List.range L.length).flatMap f := by
    rw [hflat, List.flatMap_def, List.flatMap_def]
    congr 1
    refine List.map_congr_left fun y hy => ?_
    show _ = if y < L.length then _ else _
    rw [if_pos (List.mem_range.1 hy)]
  have hat : ∀ y x, y < L.length → x < w → (L.flatMap fun t => t.map cellU).getD (y * w + x) 0 = cellU ((L.getD y []).getD x 0) := by
    intro y x hy hx
    rw [hflat2, rows_flat f hfl _ y x hy hx]
    show (if y < L.length then (L.getD y []).map cellU else List.replicate w 0).getD x 0 = _
    rw [if_pos hy]
    have hxl : x < (L.getD y []).length := by rw [hgl y hy]; exact hx
    generalize L.getD y [] = t at *
    simp [hxl]
  have hsym : ∀ x ∈ (L.flatMap fun t => t.map cellU), x = 0 ∨ x = 1 := by
    intro x hx
    obtain ⟨t, ht, hx⟩ := List.mem_flatMap.1 hx
    obtain ⟨c, hc, rfl⟩ := List.mem_map.1 hx
    unfold cellU
    split
    · exact .inr rfl
    · exact .inl rfl
  have hp : IsPatch w L.length (L.flatMap fun t => t.map cellU) := ⟨hw1, by omega, hL1, by omega, by rw [hflat2, flat_len f hfl, Nat.mul_comm], hsym⟩
  refine ⟨hp, ?_⟩
  rw [textP_join hw1]
  conv => rhs; rw [← hjoin]
  congr 1
  refine List.ext_getElem (by simp) fun y h1 h2 => ?_
  rw [List.getElem_map, List.getElem_range]
  have hy : y < L.length := h2
  have e1 : L.getD y [] = L[y] := by simp [hy]
  refine List.ext_getElem (by simp [rowT]; rw [← e1, hgl y hy]) fun x h3 h4 => ?_
  have hx : x < w := by simpa [rowT] using h3
  have e2 : (L.getD y []).getD x 0 = L[y][x] := by rw [e1]; simp [h4]
  have hc := hat y x hy hx
  rw [e2] at hc
  have hgood := hg L[y][x] (hfree L[y] (List.getElem_mem _) _ (List.getElem_mem _)).2
  have h47 : L[y][x] ≠ 47 := (hfree L[y] (List.getElem_mem _) L[y][x] (List.getElem_mem _)).1
  simp only [rowT, List.getElem_map, List.getElem_range]
  unfold txB
  rw [hc]
  generalize L[y][x] = c at *
  unfold badC at hgood
  unfold cellU
  by_cases h46 : c = 46
  · subst h46; decide
  · by_cases h35 : c = 35
    · subst h35; decide
    · simp [h46, h35, h47] at hgood
end Go.Proofs.YtnlpobkmjhajcaaDoor
namespace Go.Proofs.YtnlpobkmjhajcaaDoor
open Go.RowKit
set_option linter.unusedVariables false
set_option maxRecDepth 100000

theorem prD_big {s : ByteArray} (h : 8192 < s.size) : prD s = some ([(opPatch, 0)], 4) := by unfold prD; rw [if_pos h]
theorem prD_bad {s : ByteArray} {i : Nat} (h : ¬ 8192 < s.size) (hi : i < s.size) (hg : ∀ j (hj : j < s.size), j < i → badC s[j] = false) (hb : badC s[i] = true) : prD s = some ([(opPatch, (i : Int))], 6) := by
  have hf : s.data.toList.findIdx? badC = some i := by
    rw [List.findIdx?_eq_some_iff_getElem]
    refine ⟨by simpa using hi, hb, fun j hj => ?_⟩
    have := hg j (by omega) hj
    have hjs : j < s.size := by omega
    have h2 : badC (s.data.toList[j]'(by simpa using hjs)) = false := this
    rw [h2]
    decide
  unfold prD
  rw [if_neg h, hf]
theorem prD_fine {s : ByteArray} (h : ¬ 8192 < s.size) (hg : ∀ j (hj : j < s.size), badC s[j] = false) : prD s = match refRun s.data.toList 0 0 0 0 [] with
      | .error i => some ([(opPatch, (i : Int))], 6)
      | .ok (w, h, _) => if 64 < w then some ([(opPatch, 1)], 4) else if 64 < h then some ([(opPatch, 2)], 4) else none := by
  have hf : s.data.toList.findIdx? badC = none := by
    rw [List.findIdx?_eq_none_iff]
    intro x hx
    obtain ⟨j, hj, rfl⟩ := List.getElem_of_mem hx
    exact hg j (by simpa using hj)
  unfold prD
  rw [if_neg h, hf]
  all_goals rfl
theorem prO_er {s : ByteArray} {x : List (ByteArray × Int) × Int} (h : prD s = some x) : prO s = (0, 0, []) := by unfold prO; rw [if_neg (by rw [h]; exact nofun)]
/-- the document's loop at a place -/
structure Rst (RR : Except Nat (Nat × Nat × List Int)) (l : List UInt8) (i n W H : Nat) (cs : List Int) : Prop where
  run : (i ≤ l.length ∧ refRun (l.drop i) i n W H cs = RR) ∨ (i = l.length + 1 ∧ RR = .ok (W, H, cs))
  bn : n ≤ i
  bH : H ≤ i
  bW : W ≤ i
  bc : cs.length ≤ i
theorem Rst.start (l : List UInt8) : Rst (refRun l 0 0 0 0 []) l 0 0 0 0 [] := ⟨.inl ⟨Nat.zero_le _, by simp⟩, Nat.le_refl _, Nat.le_refl _, Nat.le_refl _, Nat.le_refl _⟩
theorem Rst.le {RR : Except Nat (Nat × Nat × List Int)} {l : List UInt8} {i n W H : Nat} {cs : List Int} (h : Rst RR l i n W H cs) : i ≤ l.length + 1 := by
  rcases h.run with h | h <;> omega
theorem Rst.cell {RR : Except Nat (Nat × Nat × List Int)} {l : List UInt8} {i n W H : Nat} {cs : List Int} {c : UInt8} (h : Rst RR l i n W H cs) (hi : i < l.length) (hc : l[i] = c) (h47 : c ≠ 47) : Rst RR l (i + 1) (n + 1) W H (cs ++ [cellU c]) := by
  have hb := h.bn
  have hW := h.bW
  have hH := h.bH
  have hcs := h.bc
  refine ⟨.inl ⟨by omega, ?_⟩, by omega, by omega, by omega, by simp; omega⟩
  rcases h.run with ⟨_, h⟩ | ⟨h, _⟩
  · rw [List.drop_eq_getElem_cons hi, hc, refRun, if_pos h47] at h
    exact h
  · omega
theorem Rst.line_err {RR : Except Nat (Nat × Nat × List Int)} {l : List UInt8} {i n W H : Nat} {cs : List Int} (h : Rst RR l i n W H cs) (hi : i = l.length ∨ ∃ hi : i < l.length, l[i] = 47) (hn : n = 0 ∨ n ≠ (if H = 0 then n else W)) : RR = .error i := by
  rcases h.run with ⟨_, h⟩ | ⟨h, _⟩
  · rcases hi with hi | ⟨hi, hc⟩
    · rw [List.drop_of_length_le (by omega), refRun, if_pos hn] at h
      exact h.symm
    · rw [List.drop_eq_getElem_cons hi, hc, refRun, if_neg (fun h2 => h2 rfl), if_pos hn] at h
      exact h.symm
  · rcases hi with hi | ⟨hi, _⟩ <;> omega
theorem Rst.line_ok {RR : Except Nat (Nat × Nat × List Int)} {l : List UInt8} {i n W H : Nat} {cs : List Int} (h : Rst RR l i n W H cs) (hi : i = l.length ∨ ∃ hi : i < l.length, l[i] = 47) {w2 : Nat} (hw : w2 = (if H = 0 then n else W)) (hn : ¬ (n = 0 ∨ n ≠ w2)) : Rst RR l (i + 1) 0 w2 (H + 1) cs := by
  have hb := h.bn
  have hW := h.bW
  have hH := h.bH
  have hcs := h.bc
  rw [hw] at hn
  have hw2 : w2 ≤ i := by rw [hw]; split <;> omega
  refine ⟨?_, by omega, by omega, by omega, by omega⟩
  rcases h.run with ⟨_, h⟩ | ⟨h, _⟩
  · rcases hi with hi | ⟨hi, hc⟩
    · rw [List.drop_of_length_le (by omega), refRun, if_neg hn, ← hw] at h
      exact .inr ⟨by omega, h.symm⟩
    · rw [List.drop_eq_getElem_cons hi, hc, refRun, if_neg (fun h2 => h2 rfl), if_neg hn, ← hw] at h
      exact .inl ⟨by omega, h⟩
  · rcases hi with hi | ⟨hi, _⟩ <;> omega
/-- the patch that is read so far, in a block of the call's own -/
structure PS (Wb : World) (v : Nat) (wr : World) (x y : Int) (aa : Option Addr) (kk cc : Nat) (cs : List Int) : Prop where
  hz : wr.heap[v]? = some (.cells #[.int .i64 x, .int .i64 y, .slice aa kk cc] 24)
  own : OwI wr (v + 1) aa kk cc cs
  bl : Below v Wb wr
theorem PS.set0 {Wb : World} {v : Nat} {wr : World} {x y : Int} {aa : Option Addr} {kk cc : Nat} {cs : List Int} (h : PS Wb v wr x y aa kk cc cs) (u : Int) : PS Wb v (wr.setCell ⟨v, 0, none⟩ (.int .i64 u)) u y aa kk cc cs :=
  ⟨by simp [World.setCell, Array.getElem?_modify, h.hz], ⟨own_of_heap' h.own.own fun b hb => Below.heap_setCell _ _ _ _ (by have := (h.own.own.lt b hb).1; show b ≠ v; omega)⟩, h.bl.setCell (p := ⟨v, 0, none⟩) (Nat.le_refl v) _⟩
theorem PS.set1 {Wb : World} {v : Nat} {wr : World} {x y : Int} {aa : Option Addr} {kk cc : Nat} {cs : List Int} (h : PS Wb v wr x y aa kk cc cs) (u : Int) : PS Wb v (wr.setCell ⟨v, 1, none⟩ (.int .i64 u)) x u aa kk cc cs :=
  ⟨by simp [World.setCell, Array.getElem?_modify, h.hz], ⟨own_of_heap' h.own.own fun b hb => Below.heap_setCell _ _ _ _ (by have := (h.own.own.lt b hb).1; show b ≠ v; omega)⟩, h.bl.setCell (p := ⟨v, 1, none⟩) (Nat.le_refl v) _⟩
theorem PS.app {Wb : World} {v : Nat} {wr w5 : World} {x y : Int} {aa a5 : Option Addr} {kk cc c5 : Nat} {cs : List Int} {z : Int} (h : PS Wb v wr x y aa kk cc cs) (hb5 : Below (v + 1) wr w5) (ho5 : w5.ownsRow (v + 1) 3 1 (.slice a5 (kk + 1) c5) (kk + 1) (cs.map (Value.int .i64) ++ (#[Value.int .i64 z] : Array Value).toList)) :
    PS Wb v (w5.setCell ⟨v, 2, none⟩ (.slice a5 (kk + 1) c5)) x y a5 (kk + 1) c5 (cs ++ [z]) := by
  have ho : OwI w5 (v + 1) a5 (kk + 1) c5 (cs ++ [z]) := ⟨by rw [List.map_append]; exact ho5⟩
  refine ⟨?_, ⟨own_of_heap' ho.own fun b hb => Below.heap_setCell _ _ _ _ (by have := (ho.own.lt b hb).1; show b ≠ v; omega)⟩, (h.bl.trans (hb5.mono (Nat.le_succ v))).setCell (p := ⟨v, 2, none⟩) (Nat.le_refl v) _⟩
  have h5 := (hb5.block v (Nat.lt_succ_self v)).trans h.hz
  simp [World.setCell, Array.getElem?_modify, h5]

set_option maxHeartbeats 16000000 in
theorem refparse_any (s : ByteArray) (W : World) : Calls Tryd.prog 20 #[.string s] W (PatRef W (prO s) (prD s)) := by
  have T0 := Tk.nil W
  have T1 := T0.add (fun wv => Below W.heap.size W wv) (bnil W)
  clear T0
  obtain ⟨Wb, hWb⟩ : ∃ Wb, (W.alloc (.cells #[.int .i64 0, .int .i64 0, .slice none 0 0] 24)).alloc (.cells #[.int .i64 0, .slice none 0 0, .slice none 0 0] 47) = Wb := ⟨_, rfl⟩
  have hbWb : Below W.heap.size W Wb := by rw [← hWb]; exact balloc (balloc (bnil W) _) _
  have T2 := T1.up hbWb
  clear T1
  have HWb := Lib.hid hWb
  clear hWb hbWb
  have hz1 : Wb.heap[W.heap.size]? = some (.cells #[.int .i64 0, .int .i64 0, .slice none 0 0] 24) := by
    rw [← HWb.out, (balloc (bnil _) (.cells #[.int .i64 0, .slice none 0 0, .slice none 0 0] 47)).block _ (by simp)]
    exact heap_alloc_new W _
  have hz2 : Wb.heap[W.heap.size + 1]? = some (.cells #[.int .i64 0, .slice none 0 0, .slice none 0 0] 47) := by
    rw [← HWb.out]
    have := heap_alloc_new (W.alloc (.cells #[.int .i64 0, .int .i64 0, .slice none 0 0] 24)) (.cells #[.int .i64 0, .slice none 0 0, .slice none 0 0] 47)
    simpa using this
  have hsz : W.heap.size + 1 + 1 = Wb.heap.size := by rw [← HWb.out]; simp
  have T3 := T2.add (fun wv => wv.heap[W.heap.size]? = some (.cells #[.int .i64 0, .int .i64 0, .slice none 0 0] 24)) (hz1)
  clear T2
  have T4 := T3.add (fun wv => wv.heap[W.heap.size + 1]? = some (.cells #[.int .i64 0, .slice none 0 0, .slice none 0 0] 47)) (hz2)
  clear T3
  have HSZ := Lib.hid hsz
  clear hz1 hz2 hsz
  by_cases hbig : 8192 < s.size
  · skip
    have hbI : (8192 : Int) < (s.size : Int) := by omega
    go_enter Tryd.func20, Tryd.ntmps20
    have hd : prD s = some ([(opPatch, 0)], 4) := prD_big hbig
    have ho := prO_er hd
    have HOD := Lib.hid (And.intro ho hd)
    clear hd ho
    have sb0 : W.heap.size + 1 < Wb.heap.size := heap_ltT (T4.out.2)
    go_wp2_with fail
    rw [HWb.out]
    refine (rawNew_fresh _ _ _ _ rfl).mono ?_; rintro e w8 ⟨b1, b2, rfl, lb1, lb2, hw8, hbw8⟩
    have T5 := T4.up hbw8
    clear T4
    obtain ⟨⟨q0, q1, q2⟩, f0, f1, f2⟩ := p_cells (T5.out.1.2)
    obtain ⟨⟨q3, q4, q5⟩, f3, f4, f5⟩ := p_cells (T5.out.2)
    obtain ⟨w9, e9, e9b, ⟨⟨r0, r1, r2⟩, r3, r4, r5⟩, hret⟩ := pr_err (show W.heap.size ≠ W.heap.size + 1 by omega) (T5.out.1.2) (T5.out.2) (Nat.le_refl _) (show W.heap.size ≤ W.heap.size + 1 by omega) (T5.out.1.1.2) (B := W.heap.size + 1 + 1) (by omega) (by omega) (fr_some (by omega)) (fr_some (by omega)) (wc_want hw8) rfl
    have HRET := Lib.hid hret
    have HE9 := Lib.hid (And.intro e9 e9b)
    have HR9 := Lib.hid (And.intro r0 (And.intro r1 (And.intro r2 (And.intro r3 (And.intro r4 r5)))))
    clear hret e9 e9b r0 r1 r2 r3 r4 r5
    clear hw8 lb1 lb2 sb0
    go_wp2
    first | rw [HE9.out.1] | rw [HE9.out.2]
    have r0 := HR9.out.1
    have r1 := HR9.out.2.1
    have r2 := HR9.out.2.2.1
    have r3 := HR9.out.2.2.2.1
    have r4 := HR9.out.2.2.2.2.1
    have r5 := HR9.out.2.2.2.2.2
    refine bodyPost_ret (v := .tuple #[patV 0 0 none 0 0, .agg #[.int .i64 4, .slice (some ⟨b1, 0, none⟩) 1 1, .slice (some ⟨b2, 0, none⟩) 1 1]]) (by simp [results, Tryd.results20, go_sem, r0, r1, r2, r3, r4, r5]) rfl ?_
    rw [HOD.out.1, HOD.out.2]
    exact HRET.out
  have hsm : s.size ≤ 8192 := by omega
  have HBG := Lib.hid hbig
  clear hbig
  go_enter Tryd.func20, Tryd.ntmps20
  go_wp2_with fail
  rw [HWb.out]
  go_loop [4] (fun ix => ∃ j : Nat, j ≤ s.size ∧ ix = .int .i64 j ∧ Hid (∀ q (hq : q < s.size), q < j → badC s[q] = false)) (fun ix => s.size - (intOf ix).toNat)
  case atStart => exact ⟨0, by omega, rfl, Lib.hid fun q hq h => absurd h (by omega)⟩
  case round =>
    obtain ⟨j, hj, rfl, HG⟩ := hrel
    by_cases hjn : j < s.size
    · skip
      have jI : (j : Int) < (s.size : Int) := by omega
      have j0 : (0 : Int) ≤ (j : Int) := by omega
      obtain ⟨c, hc⟩ : ∃ c, s[j] = c := ⟨_, rfl⟩
      have HN : Hid (∀ c0 : UInt8, c = c0 → badC c0 = false → ∀ q (hq : q < s.size), q < j + 1 → badC s[q] = false) := fun c0 h1 h2 q hq hq2 => by
        by_cases hqj : q < j
        · exact HG.out q hq hqj
        · obtain rfl : q = j := by omega
          rw [hc, h1]; exact h2
      by_cases c46 : c = 46
      · skip
        have k46 : s[j].toNat = 46 := by rw [hc, c46]; rfl
        have HN2 := Lib.hid (HN.out 46 c46 (by decide))
        clear hc
        go_wp2
        go_round
        case rel => exact ⟨j + 1, by omega, by go_num, HN2⟩
        case measure => simp [intOf]; omega
      have n46 : ¬ s[j].toNat = 46 := by
        rw [hc]; intro h; exact c46 (UInt8.toNat_inj.1 (by rw [h]; rfl))
      by_cases c35 : c = 35
      · skip
        have k35 : s[j].toNat = 35 := by rw [hc, c35]; rfl
        have HN2 := Lib.hid (HN.out 35 c35 (by decide))
        clear hc
        go_wp2
        go_round
        case rel => exact ⟨j + 1, by omega, by go_num, HN2⟩
        case measure => simp [intOf]; omega
      have n35 : ¬ s[j].toNat = 35 := by
        rw [hc]; intro h; exact c35 (UInt8.toNat_inj.1 (by rw [h]; rfl))
      by_cases c47 : c = 47
      · skip
        have k47 : s[j].toNat = 47 := by rw [hc, c47]; rfl
        have HN2 := Lib.hid (HN.out 47 c47 (by decide))
        clear hc
        go_wp2
        go_round
        case rel => exact ⟨j + 1, by omega, by go_num, HN2⟩
        case measure => simp [intOf]; omega
      have n47 : ¬ s[j].toNat = 47 := by
        rw [hc]; intro h; exact c47 (UInt8.toNat_inj.1 (by rw [h]; rfl))
      have hbad : badC s[j] = true := by
        rw [hc]; unfold badC; simp [c46, c35, c47]
      have HPB := Lib.hid (prD_bad HBG.out hjn HG.out hbad)
      clear hbad hc c46 c35 c47
      have m46 : (((s[j].toNat : Nat) : Int) != 46) = true := by rw [bne_iff_ne]; omega
      have m35 : (((s[j].toNat : Nat) : Int) != 35) = true := by rw [bne_iff_ne]; omega
      have m47 : (((s[j].toNat : Nat) : Int) != 47) = true := by rw [bne_iff_ne]; omega
      have hd : prD s = some ([(opPatch, (j : Int))], 6) := HPB.out
      have ho := prO_er hd
      have HOD := Lib.hid (And.intro ho hd)
      clear hd ho
      have sb0 : W.heap.size + 1 < Wb.heap.size := heap_ltT (T4.out.2)
      go_wp2_with fail
      refine (rawNew_fresh _ _ _ _ rfl).mono ?_; rintro e w8 ⟨b1, b2, rfl, lb1, lb2, hw8, hbw8⟩
      have T5 := T4.up hbw8
      clear T4
      obtain ⟨⟨q0, q1, q2⟩, f0, f1, f2⟩ := p_cells (T5.out.1.2)
      obtain ⟨⟨q3, q4, q5⟩, f3, f4, f5⟩ := p_cells (T5.out.2)
      obtain ⟨w9, e9, e9b, ⟨⟨r0, r1, r2⟩, r3, r4, r5⟩, hret⟩ := pr_err (show W.heap.size ≠ W.heap.size + 1 by omega) (T5.out.1.2) (T5.out.2) (Nat.le_refl _) (show W.heap.size ≤ W.heap.size + 1 by omega) (T5.out.1.1.2) (B := W.heap.size + 1 + 1) (by omega) (by omega) (fr_some (by omega)) (fr_some (by omega)) (wc_want hw8) rfl
      have HRET := Lib.hid hret
      have HE9 := Lib.hid (And.intro e9 e9b)
      have HR9 := Lib.hid (And.intro r0 (And.intro r1 (And.intro r2 (And.intro r3 (And.intro r4 r5)))))
      clear hret e9 e9b r0 r1 r2 r3 r4 r5
      clear hw8 lb1 lb2 sb0
      go_wp2
      first | rw [HE9.out.1] | rw [HE9.out.2]
      have r0 := HR9.out.1
      have r1 := HR9.out.2.1
      have r2 := HR9.out.2.2.1
      have r3 := HR9.out.2.2.2.1
      have r4 := HR9.out.2.2.2.2.1
      have r5 := HR9.out.2.2.2.2.2
      refine bodyPost_ret (v := .tuple #[patV 0 0 none 0 0, .agg #[.int .i64 6, .slice (some ⟨b1, 0, none⟩) 1 1, .slice (some ⟨b2, 0, none⟩) 1 1]]) (by simp [results, Tryd.results20, go_sem, r0, r1, r2, r3, r4, r5]) rfl ?_
      rw [HOD.out.1, HOD.out.2]
      exact HRET.out
    · skip
      obtain rfl : s.size = j := by omega
      have hfine := prD_fine HBG.out (fun q hq => HG.out q hq hq)
      have hst := Rst.start s.data.toList
      obtain ⟨l, hl⟩ : ∃ l, s.data.toList = l := ⟨_, rfl⟩
      have hln : l.length = s.size := by rw [← hl]; simp
      have hlc : ∀ q (hq : q < s.size) (hq2 : q < l.length), l[q] = s[q] := by intro q hq hq2; subst hl; rfl
      rw [hl] at hfine hst
      obtain ⟨RR, hRR⟩ : ∃ RR, refRun l 0 0 0 0 [] = RR := ⟨_, rfl⟩
      rw [hRR] at hfine hst
      have HF := Lib.hid hfine
      have HST := Lib.hid hst
      have HLN := Lib.hid hln
      have HLC := Lib.hid hlc
      have HRR := Lib.hid (show refRun s.data.toList 0 0 0 0 [] = RR by rw [hl]; exact hRR)
      clear hfine hst hln hlc hl hRR HG
      go_wp2_with fail
      obtain ⟨wv, hwv⟩ : ∃ wv, Wb.alloc (.cells #[.int .i64 0, .int .i64 0, .slice none 0 0] 24) = wv := ⟨_, rfl⟩
      obtain ⟨v, hv⟩ : ∃ v, Wb.heap.size = v := ⟨_, rfl⟩
      have hh0 : wv.heap[v]? = some (.cells #[.int .i64 0, .int .i64 0, .slice none 0 0] 24) := by rw [← hwv, ← hv]; exact heap_alloc_new Wb _
      have hb0 : Below v Wb wv := by rw [← hwv, ← hv]; exact balloc (bnil Wb) _
      have HH0 := Lib.hid hh0
      have HB0 := Lib.hid hb0
      have HV := Lib.hid hv
      rw [hwv, hv]
      clear hh0 hb0 hwv hv
      have HPS : Hid (PS Wb v wv 0 0 none 0 0 []) := ⟨HH0.out, OwI.nil _ _, HB0.out⟩
      clear HH0 HB0
      have TB := T4
      go_loopw [6, 7] (fun vn ix wr => ∃ (i nn ww hh kk cc : Nat) (aa : Option Addr) (cs : List Int), vn = .int .i64 (nn : Nat) ∧ ix = .int .i64 (i : Nat) ∧ Rst RR l i nn ww hh cs ∧ PS Wb v wr (ww : Nat) (hh : Nat) aa kk cc cs) (fun _ ix _ => s.size + 1 - (intOf ix).toNat)
      case atStart => exact ⟨0, 0, 0, 0, 0, 0, none, [], rfl, rfl, HST.out, HPS.out⟩
      case round =>
        obtain ⟨i, nn, ww, hh, kk, cc, aa, cs, rfl, rfl, hst, hps⟩ := hrel
        have HS := Lib.hid hst
        have HP := Lib.hid hps
        have hbl := hps.bl
        rw [← HV.out] at hbl
        have hiz : i ≤ s.size + 1 := by have := hst.le; have := HLN.out; omega
        have hnn := hst.bn
        have hhh := hst.bH
        have hww := hst.bW
        have hkk : kk ≤ 8193 := by have h1 := hps.own.rk.len; have h2 := hst.bc; omega
        clear hst hps
        have T5 := T4.up hbl
        clear T4
        clear hbl
        have hvs : v + 1 ≤ wr.heap.size := heap_ltT HP.out.hz
        by_cases hin : i < s.size
        · skip
          have jI : (i : Int) < (s.size : Int) := by omega
          have j0 : (0 : Int) ≤ (i : Int) := by omega
          have jle : (i : Int) ≤ (s.size : Int) := by omega
          have hil : i < l.length := by have := HLN.out; omega
          obtain ⟨c, hc⟩ : ∃ c, s[i] = c := ⟨_, rfl⟩
          have hlc : l[i] = c := by rw [HLC.out i hin hil, hc]
          by_cases c47 : c = 47
          · skip
            have k47 : s[i].toNat = 47 := by rw [hc, c47]; rfl
            have HEND : Hid (i = l.length ∨ ∃ hi : i < l.length, l[i] = 47) := .inr ⟨hil, by rw [hlc, c47]⟩
            clear hc c47 hlc
            by_cases hh0 : hh = 0
            · skip
              have hps0 := HP.out.set0 (nn : Int)
              obtain ⟨⟨u0, u1, u2⟩, g0, g1, g2⟩ := p_cells HP.out.hz
              obtain ⟨wx, hwx⟩ : ∃ wx, wr.setCell ⟨v, 0, none⟩ (.int .i64 (nn : Int)) = wx := ⟨_, rfl⟩
              have hps1 := hps0
              rw [hwx] at hps1
              obtain ⟨⟨x0, x1, x2⟩, y0, y1, y2⟩ := p_cells hps0.hz
              have HWX := Lib.hid hwx
              have HPX := Lib.hid hps1
              have hwq : nn = (if hh = 0 then nn else ww) := by rw [if_pos hh0]
              have HWQ := Lib.hid hwq
              have hhI : (hh : Int) = 0 := by omega
              rw [hhI] at u1 x1
              clear hps0 hps1 hwx hwq hhI
              by_cases hn0 : nn = 0
              · skip
                have hrr := HS.out.line_err HEND.out (by rw [← HWQ.out]; exact .inl hn0)
                have hdd := HF.out
                rw [hrr] at hdd
                have HPB := Lib.hid hdd
                have hbx := HPX.out.bl
                rw [← HV.out] at hbx
                clear hrr hdd
                have hn1 : ((nn : Int) == 0) = true := by rw [beq_iff_eq]; omega
                clear hn0
                clear T5
                have T6 := TB.up hbx
                clear hbx
                have hd : prD s = some ([(opPatch, (i : Int))], 6) := HPB.out
                have ho := prO_er hd
                have HOD := Lib.hid (And.intro ho hd)
                clear hd ho
                have sb0 : W.heap.size + 1 < wx.heap.size := heap_ltT (T6.out.2)
                go_wp2_with fail
                rw [HWX.out]
                refine (rawNew_fresh _ _ _ _ rfl).mono ?_; rintro e w8 ⟨b1, b2, rfl, lb1, lb2, hw8, hbw8⟩
                have T7 := T6.up hbw8
                clear T6
                obtain ⟨⟨q0, q1, q2⟩, f0, f1, f2⟩ := p_cells (T7.out.1.2)
                obtain ⟨⟨q3, q4, q5⟩, f3, f4, f5⟩ := p_cells (T7.out.2)
                obtain ⟨w9, e9, e9b, ⟨⟨r0, r1, r2⟩, r3, r4, r5⟩, hret⟩ := pr_err (show W.heap.size ≠ W.heap.size + 1 by omega) (T7.out.1.2) (T7.out.2) (Nat.le_refl _) (show W.heap.size ≤ W.heap.size + 1 by omega) (T7.out.1.1.2) (B := W.heap.size + 1 + 1) (by omega) (by omega) (fr_some (by omega)) (fr_some (by omega)) (wc_want hw8) rfl
                have HRET := Lib.hid hret
                have HE9 := Lib.hid (And.intro e9 e9b)
                have HR9 := Lib.hid (And.intro r0 (And.intro r1 (And.intro r2 (And.intro r3 (And.intro r4 r5)))))
                clear hret e9 e9b r0 r1 r2 r3 r4 r5
                clear hw8 lb1 lb2 sb0
                go_wp2
                first | rw [HE9.out.1] | rw [HE9.out.2]
                have r0 := HR9.out.1
                have r1 := HR9.out.2.1
                have r2 := HR9.out.2.2.1
                have r3 := HR9.out.2.2.2.1
                have r4 := HR9.out.2.2.2.2.1
                have r5 := HR9.out.2.2.2.2.2
                refine bodyPost_ret (v := .tuple #[patV 0 0 none 0 0, .agg #[.int .i64 6, .slice (some ⟨b1, 0, none⟩) 1 1, .slice (some ⟨b2, 0, none⟩) 1 1]]) (by simp [results, Tryd.results20, go_sem, r0, r1, r2, r3, r4, r5]) rfl ?_
                rw [HOD.out.1, HOD.out.2]
                exact HRET.out
              have hn1 : ((nn : Int) == 0) = false := by rw [beq_eq_false_iff_ne]; omega
              have hok := HS.out.line_ok HEND.out HWQ.out (by omega)
              have HS2 := Lib.hid hok
              have hps2 := HPX.out.set1 ((hh : Int) + 1)
              rw [← HWX.out] at hps2
              have HP2 := Lib.hid hps2
              clear hok hps2 hn0
              have hhI : (hh : Int) = 0 := by omega
              have hn3 : ((nn : Int) != (nn : Int)) = false := by simp
              have HHI := Lib.hid hhI
              clear hhI
              go_wp2
              go_roundw
              case rel => exact ⟨i + 1, 0, nn, hh + 1, kk, cc, aa, cs, rfl, by go_num, HS2.out, by have h1 := HP2.out; rw [HHI.out] at h1; rw [show ((hh + 1 : Nat) : Int) = 0 + 1 by have := HHI.out; omega]; exact h1⟩
              case measure => simp [intOf]; omega
            · skip
              obtain ⟨⟨u0, u1, u2⟩, g0, g1, g2⟩ := p_cells HP.out.hz
              have HPX := HP
              have hwq : ww = (if hh = 0 then nn else ww) := by rw [if_neg hh0]
              have HWQ := Lib.hid hwq
              have hh1 : ((hh : Int) == 0) = false := by rw [beq_eq_false_iff_ne]; omega
              have hh2 : ¬ hh = 0 := hh0
              clear hwq
              by_cases hn0 : nn = 0
              · skip
                have hrr := HS.out.line_err HEND.out (by rw [← HWQ.out]; exact .inl hn0)
                have hdd := HF.out
                rw [hrr] at hdd
                have HPB := Lib.hid hdd
                have hbx := HPX.out.bl
                rw [← HV.out] at hbx
                clear hrr hdd
                have hn1 : ((nn : Int) == 0) = true := by rw [beq_iff_eq]; omega
                clear hn0
                clear T5
                have T6 := TB.up hbx
                clear hbx
                have hd : prD s = some ([(opPatch, (i : Int))], 6) := HPB.out
                have ho := prO_er hd
                have HOD := Lib.hid (And.intro ho hd)
                clear hd ho
                have sb0 : W.heap.size + 1 < wr.heap.size := heap_ltT (T6.out.2)
                go_wp2_with fail
                refine (rawNew_fresh _ _ _ _ rfl).mono ?_; rintro e w8 ⟨b1, b2, rfl, lb1, lb2, hw8, hbw8⟩
                have T7 := T6.up hbw8
                clear T6
                obtain ⟨⟨q0, q1, q2⟩, f0, f1, f2⟩ := p_cells (T7.out.1.2)
                obtain ⟨⟨q3, q4, q5⟩, f3, f4, f5⟩ := p_cells (T7.out.2)
                obtain ⟨w9, e9, e9b, ⟨⟨r0, r1, r2⟩, r3, r4, r5⟩, hret⟩ := pr_err (show W.heap.size ≠ W.heap.size + 1 by omega) (T7.out.1.2) (T7.out.2) (Nat.le_refl _) (show W.heap.size ≤ W.heap.size + 1 by omega) (T7.out.1.1.2) (B := W.heap.size + 1 + 1) (by omega) (by omega) (fr_some (by omega)) (fr_some (by omega)) (wc_want hw8) rfl
                have HRET := Lib.hid hret
                have HE9 := Lib.hid (And.intro e9 e9b)
                have HR9 := Lib.hid (And.intro r0 (And.intro r1 (And.intro r2 (And.intro r3 (And.intro r4 r5)))))
                clear hret e9 e9b r0 r1 r2 r3 r4 r5
                clear hw8 lb1 lb2 sb0
                go_wp2
                first | rw [HE9.out.1] | rw [HE9.out.2]
                have r0 := HR9.out.1
                have r1 := HR9.out.2.1
                have r2 := HR9.out.2.2.1
                have r3 := HR9.out.2.2.2.1
                have r4 := HR9.out.2.2.2.2.1
                have r5 := HR9.out.2.2.2.2.2
                refine bodyPost_ret (v := .tuple #[patV 0 0 none 0 0, .agg #[.int .i64 6, .slice (some ⟨b1, 0, none⟩) 1 1, .slice (some ⟨b2, 0, none⟩) 1 1]]) (by simp [results, Tryd.results20, go_sem, r0, r1, r2, r3, r4, r5]) rfl ?_
                rw [HOD.out.1, HOD.out.2]
                exact HRET.out
              have hn1 : ((nn : Int) == 0) = false := by rw [beq_eq_false_iff_ne]; omega
              by_cases hnw : nn = ww
              · skip
                have hok := HS.out.line_ok HEND.out HWQ.out (by omega)
                have HS2 := Lib.hid hok
                have hps2 := HPX.out.set1 ((hh : Int) + 1)
                have HP2 := Lib.hid hps2
                clear hok hps2 hn0
                have hnwI : ((nn : Int) != (ww : Int)) = false := by simp [hnw]
                clear hnw
                go_wp2
                go_roundw
                case rel => exact ⟨i + 1, 0, ww, hh + 1, kk, cc, aa, cs, rfl, by go_num, HS2.out, HP2.out⟩
                case measure => simp [intOf]; omega
              · skip
                have hrr := HS.out.line_err HEND.out (by rw [← HWQ.out]; exact .inr hnw)
                have hdd := HF.out
                rw [hrr] at hdd
                have HPB := Lib.hid hdd
                have hbx := HPX.out.bl
                rw [← HV.out] at hbx
                clear hrr hdd
                have hnwI : ((nn : Int) != (ww : Int)) = true := by simp; omega
                clear hnw hn0
                clear T5
                have T6 := TB.up hbx
                clear hbx
                have hd : prD s = some ([(opPatch, (i : Int))], 6) := HPB.out
                have ho := prO_er hd
                have HOD := Lib.hid (And.intro ho hd)
                clear hd ho
                have sb0 : W.heap.size + 1 < wr.heap.size := heap_ltT (T6.out.2)
                go_wp2_with fail
                refine (rawNew_fresh _ _ _ _ rfl).mono ?_; rintro e w8 ⟨b1, b2, rfl, lb1, lb2, hw8, hbw8⟩
                have T7 := T6.up hbw8
                clear T6
                obtain ⟨⟨q0, q1, q2⟩, f0, f1, f2⟩ := p_cells (T7.out.1.2)
                obtain ⟨⟨q3, q4, q5⟩, f3, f4, f5⟩ := p_cells (T7.out.2)
                obtain ⟨w9, e9, e9b, ⟨⟨r0, r1, r2⟩, r3, r4, r5⟩, hret⟩ := pr_err (show W.heap.size ≠ W.heap.size + 1 by omega) (T7.out.1.2) (T7.out.2) (Nat.le_refl _) (show W.heap.size ≤ W.heap.size + 1 by omega) (T7.out.1.1.2) (B := W.heap.size + 1 + 1) (by omega) (by omega) (fr_some (by omega)) (fr_some (by omega)) (wc_want hw8) rfl
                have HRET := Lib.hid hret
                have HE9 := Lib.hid (And.intro e9 e9b)
                have HR9 := Lib.hid (And.intro r0 (And.intro r1 (And.intro r2 (And.intro r3 (And.intro r4 r5)))))
                clear hret e9 e9b r0 r1 r2 r3 r4 r5
                clear hw8 lb1 lb2 sb0
                go_wp2
                first | rw [HE9.out.1] | rw [HE9.out.2]
                have r0 := HR9.out.1
                have r1 := HR9.out.2.1
                have r2 := HR9.out.2.2.1
                have r3 := HR9.out.2.2.2.1
                have r4 := HR9.out.2.2.2.2.1
                have r5 := HR9.out.2.2.2.2.2
                refine bodyPost_ret (v := .tuple #[patV 0 0 none 0 0, .agg #[.int .i64 6, .slice (some ⟨b1, 0, none⟩) 1 1, .slice (some ⟨b2, 0, none⟩) 1 1]]) (by simp [results, Tryd.results20, go_sem, r0, r1, r2, r3, r4, r5]) rfl ?_
                rw [HOD.out.1, HOD.out.2]
                exact HRET.out
          · skip
            have n47 : ¬ s[i].toNat = 47 := by
              rw [hc]; intro h; exact c47 (UInt8.toNat_inj.1 (by rw [h]; rfl))
            have hS2 := HS.out.cell hil hlc c47
            obtain ⟨⟨u0, u1, u2⟩, g0, g1, g2⟩ := p_cells HP.out.hz
            by_cases c35 : c = 35
            · skip
              have k35 : s[i].toNat = 35 := by rw [hc, c35]; rfl
              have hcu : cellU c = 1 := by unfold cellU; rw [if_pos c35]
              rw [hcu] at hS2
              have HS2 := Lib.hid hS2
              have y3 : (wr.alloc (.cells #[.int .i64 1] 3)).cell? ⟨v, 2, none⟩ = some (.slice aa kk cc) := al000 u2
              clear hc c47 c35 hlc hcu hS2
              go_wp2_with (first
                | (at_builtin; refine app_lit rfl _ _ _ rfl (v + 1) et_int _ kk _ HP.out.own.own rfl 1 _ _ rfl (by simp) rfl rfl (by unfold maxLen; omega) (by omega) hvs ?_; intro a5 c5 w5 hown5 hgr5 hb5 hsz5; have HP5 := Lib.hid (HP.out.app hb5 hown5); have z2 : w5.cell? ⟨v, 2, none⟩ = some (.slice aa kk cc) := (hb5.cell (p := ⟨v, 2, none⟩) (Nat.lt_succ_self v)).trans u2; have q2 := (hb5.frozen (p := ⟨v, 2, none⟩) (Nat.lt_succ_self v)).trans g2; clear hown5 hgr5 hsz5))
              go_roundw
              case rel => exact ⟨i + 1, nn + 1, ww, hh, kk + 1, c5, a5, _, by go_num, by go_num, HS2.out, HP5.out⟩
              case measure => simp [intOf]; omega
            · skip
              have k35 : ¬ s[i].toNat = 35 := by
                rw [hc]; intro h; exact c35 (UInt8.toNat_inj.1 (by rw [h]; rfl))
              have hcu : cellU c = 0 := by unfold cellU; rw [if_neg c35]
              rw [hcu] at hS2
              have HS2 := Lib.hid hS2
              have y3 : (wr.alloc (.cells #[.int .i64 0] 3)).cell? ⟨v, 2, none⟩ = some (.slice aa kk cc) := al000 u2
              clear hc c47 c35 hlc hcu hS2
              go_wp2_with (first
                | (at_builtin; refine app_lit rfl _ _ _ rfl (v + 1) et_int _ kk _ HP.out.own.own rfl 1 _ _ rfl (by simp) rfl rfl (by unfold maxLen; omega) (by omega) hvs ?_; intro a5 c5 w5 hown5 hgr5 hb5 hsz5; have HP5 := Lib.hid (HP.out.app hb5 hown5); have z2 : w5.cell? ⟨v, 2, none⟩ = some (.slice aa kk cc) := (hb5.cell (p := ⟨v, 2, none⟩) (Nat.lt_succ_self v)).trans u2; have q2 := (hb5.frozen (p := ⟨v, 2, none⟩) (Nat.lt_succ_self v)).trans g2; clear hown5 hgr5 hsz5))
              go_roundw
              case rel => exact ⟨i + 1, nn + 1, ww, hh, kk + 1, c5, a5, _, by go_num, by go_num, HS2.out, HP5.out⟩
              case measure => simp [intOf]; omega
        · skip
          by_cases hiz2 : i = s.size
          · skip
            have jI : ¬ (i : Int) < (s.size : Int) := by omega
            have jle : (i : Int) ≤ (s.size : Int) := by omega
            have HEND : Hid (i = l.length ∨ ∃ hi : i < l.length, l[i] = 47) := .inl (by have := HLN.out; omega)
            clear hiz2
            by_cases hh0 : hh = 0
            · skip
              have hps0 := HP.out.set0 (nn : Int)
              obtain ⟨⟨u0, u1, u2⟩, g0, g1, g2⟩ := p_cells HP.out.hz
              obtain ⟨wx, hwx⟩ : ∃ wx, wr.setCell ⟨v, 0, none⟩ (.int .i64 (nn : Int)) = wx := ⟨_, rfl⟩
              have hps1 := hps0
              rw [hwx] at hps1
              obtain ⟨⟨x0, x1, x2⟩, y0, y1, y2⟩ := p_cells hps0.hz
              have HWX := Lib.hid hwx
              have HPX := Lib.hid hps1
              have hwq : nn = (if hh = 0 then nn else ww) := by rw [if_pos hh0]
              have HWQ := Lib.hid hwq
              have hhI : (hh : Int) = 0 := by omega
              rw [hhI] at u1 x1
              clear hps0 hps1 hwx hwq hhI
              by_cases hn0 : nn = 0
              · skip
                have hrr := HS.out.line_err HEND.out (by rw [← HWQ.out]; exact .inl hn0)
                have hdd := HF.out
                rw [hrr] at hdd
                have HPB := Lib.hid hdd
                have hbx := HPX.out.bl
                rw [← HV.out] at hbx
                clear hrr hdd
                have hn1 : ((nn : Int) == 0) = true := by rw [beq_iff_eq]; omega
                clear hn0
                clear T5
                have T6 := TB.up hbx
                clear hbx
                have hd : prD s = some ([(opPatch, (i : Int))], 6) := HPB.out
                have ho := prO_er hd
                have HOD := Lib.hid (And.intro ho hd)
                clear hd ho
                have sb0 : W.heap.size + 1 < wx.heap.size := heap_ltT (T6.out.2)
                go_wp2_with fail
                rw [HWX.out]
                refine (rawNew_fresh _ _ _ _ rfl).mono ?_; rintro e w8 ⟨b1, b2, rfl, lb1, lb2, hw8, hbw8⟩
                have T7 := T6.up hbw8
                clear T6
                obtain ⟨⟨q0, q1, q2⟩, f0, f1, f2⟩ := p_cells (T7.out.1.2)
                obtain ⟨⟨q3, q4, q5⟩, f3, f4, f5⟩ := p_cells (T7.out.2)
                obtain ⟨w9, e9, e9b, ⟨⟨r0, r1, r2⟩, r3, r4, r5⟩, hret⟩ := pr_err (show W.heap.size ≠ W.heap.size + 1 by omega) (T7.out.1.2) (T7.out.2) (Nat.le_refl _) (show W.heap.size ≤ W.heap.size + 1 by omega) (T7.out.1.1.2) (B := W.heap.size + 1 + 1) (by omega) (by omega) (fr_some (by omega)) (fr_some (by omega)) (wc_want hw8) rfl
                have HRET := Lib.hid hret
                have HE9 := Lib.hid (And.intro e9 e9b)
                have HR9 := Lib.hid (And.intro r0 (And.intro r1 (And.intro r2 (And.intro r3 (And.intro r4 r5)))))
                clear hret e9 e9b r0 r1 r2 r3 r4 r5
                clear hw8 lb1 lb2 sb0
                go_wp2
                first | rw [HE9.out.1] | rw [HE9.out.2]
                have r0 := HR9.out.1
                have r1 := HR9.out.2.1
                have r2 := HR9.out.2.2.1
                have r3 := HR9.out.2.2.2.1
                have r4 := HR9.out.2.2.2.2.1
                have r5 := HR9.out.2.2.2.2.2
                refine bodyPost_ret (v := .tuple #[patV 0 0 none 0 0, .agg #[.int .i64 6, .slice (some ⟨b1, 0, none⟩) 1 1, .slice (some ⟨b2, 0, none⟩) 1 1]]) (by simp [results, Tryd.results20, go_sem, r0, r1, r2, r3, r4, r5]) rfl ?_
                rw [HOD.out.1, HOD.out.2]
                exact HRET.out
              have hn1 : ((nn : Int) == 0) = false := by rw [beq_eq_false_iff_ne]; omega
              have hok := HS.out.line_ok HEND.out HWQ.out (by omega)
              have HS2 := Lib.hid hok
              have hps2 := HPX.out.set1 ((hh : Int) + 1)
              rw [← HWX.out] at hps2
              have HP2 := Lib.hid hps2
              clear hok hps2 hn0
              have hhI : (hh : Int) = 0 := by omega
              have hn3 : ((nn : Int) != (nn : Int)) = false := by simp
              have HHI := Lib.hid hhI
              clear hhI
              go_wp2
              go_roundw
              case rel => exact ⟨i + 1, 0, nn, hh + 1, kk, cc, aa, cs, rfl, by go_num, HS2.out, by have h1 := HP2.out; rw [HHI.out] at h1; rw [show ((hh + 1 : Nat) : Int) = 0 + 1 by have := HHI.out; omega]; exact h1⟩
              case measure => simp [intOf]; omega
            · skip
              obtain ⟨⟨u0, u1, u2⟩, g0, g1, g2⟩ := p_cells HP.out.hz
              have HPX := HP
              have hwq : ww = (if hh = 0 then nn else ww) := by rw [if_neg hh0]
              have HWQ := Lib.hid hwq
              have hh1 : ((hh : Int) == 0) = false := by rw [beq_eq_false_iff_ne]; omega
              have hh2 : ¬ hh = 0 := hh0
              clear hwq
              by_cases hn0 : nn = 0
              · skip
                have hrr := HS.out.line_err HEND.out (by rw [← HWQ.out]; exact .inl hn0)
                have hdd := HF.out
                rw [hrr] at hdd
                have HPB := Lib.hid hdd
                have hbx := HPX.out.bl
                rw [← HV.out] at hbx
                clear hrr hdd
                have hn1 : ((nn : Int) == 0) = true := by rw [beq_iff_eq]; omega
                clear hn0
                clear T5
                have T6 := TB.up hbx
                clear hbx
                have hd : prD s = some ([(opPatch, (i : Int))], 6) := HPB.out
                have ho := prO_er hd
                have HOD := Lib.hid (And.intro ho hd)
                clear hd ho
                have sb0 : W.heap.size + 1 < wr.heap.size := heap_ltT (T6.out.2)
                go_wp2_with fail
                refine (rawNew_fresh _ _ _ _ rfl).mono ?_; rintro e w8 ⟨b1, b2, rfl, lb1, lb2, hw8, hbw8⟩
                have T7 := T6.up hbw8
                clear T6
                obtain ⟨⟨q0, q1, q2⟩, f0, f1, f2⟩ := p_cells (T7.out.1.2)
                obtain ⟨⟨q3, q4, q5⟩, f3, f4, f5⟩ := p_cells (T7.out.2)
                obtain ⟨w9, e9, e9b, ⟨⟨r0, r1, r2⟩, r3, r4, r5⟩, hret⟩ := pr_err (show W.heap.size ≠ W.heap.size + 1 by omega) (T7.out.1.2) (T7.out.2) (Nat.le_refl _) (show W.heap.size ≤ W.heap.size + 1 by omega) (T7.out.1.1.2) (B := W.heap.size + 1 + 1) (by omega) (by omega) (fr_some (by omega)) (fr_some (by omega)) (wc_want hw8) rfl
                have HRET := Lib.hid hret
                have HE9 := Lib.hid (And.intro e9 e9b)
                have HR9 := Lib.hid (And.intro r0 (And.intro r1 (And.intro r2 (And.intro r3 (And.intro r4 r5)))))
                clear hret e9 e9b r0 r1 r2 r3 r4 r5
                clear hw8 lb1 lb2 sb0
                go_wp2
                first | rw [HE9.out.1] | rw [HE9.out.2]
                have r0 := HR9.out.1
                have r1 := HR9.out.2.1
                have r2 := HR9.out.2.2.1
                have r3 := HR9.out.2.2.2.1
                have r4 := HR9.out.2.2.2.2.1
                have r5 := HR9.out.2.2.2.2.2
                refine bodyPost_ret (v := .tuple #[patV 0 0 none 0 0, .agg #[.int .i64 6, .slice (some ⟨b1, 0, none⟩) 1 1, .slice (some ⟨b2, 0, none⟩) 1 1]]) (by simp [results, Tryd.results20, go_sem, r0, r1, r2, r3, r4, r5]) rfl ?_
                rw [HOD.out.1, HOD.out.2]
                exact HRET.out
              have hn1 : ((nn : Int) == 0) = false := by rw [beq_eq_false_iff_ne]; omega
              by_cases hnw : nn = ww
              · skip
                have hok := HS.out.line_ok HEND.out HWQ.out (by omega)
                have HS2 := Lib.hid hok
                have hps2 := HPX.out.set1 ((hh : Int) + 1)
                have HP2 := Lib.hid hps2
                clear hok hps2 hn0
                have hnwI : ((nn : Int) != (ww : Int)) = false := by simp [hnw]
                clear hnw
                go_wp2
                go_roundw
                case rel => exact ⟨i + 1, 0, ww, hh + 1, kk, cc, aa, cs, rfl, by go_num, HS2.out, HP2.out⟩
                case measure => simp [intOf]; omega
              · skip
                have hrr := HS.out.line_err HEND.out (by rw [← HWQ.out]; exact .inr hnw)
                have hdd := HF.out
                rw [hrr] at hdd
                have HPB := Lib.hid hdd
                have hbx := HPX.out.bl
                rw [← HV.out] at hbx
                clear hrr hdd
                have hnwI : ((nn : Int) != (ww : Int)) = true := by simp; omega
                clear hnw hn0
                clear T5
                have T6 := TB.up hbx
                clear hbx
                have hd : prD s = some ([(opPatch, (i : Int))], 6) := HPB.out
                have ho := prO_er hd
                have HOD := Lib.hid (And.intro ho hd)
                clear hd ho
                have sb0 : W.heap.size + 1 < wr.heap.size := heap_ltT (T6.out.2)
                go_wp2_with fail
                refine (rawNew_fresh _ _ _ _ rfl).mono ?_; rintro e w8 ⟨b1, b2, rfl, lb1, lb2, hw8, hbw8⟩
                have T7 := T6.up hbw8
                clear T6
                obtain ⟨⟨q0, q1, q2⟩, f0, f1, f2⟩ := p_cells (T7.out.1.2)
                obtain ⟨⟨q3, q4, q5⟩, f3, f4, f5⟩ := p_cells (T7.out.2)
                obtain ⟨w9, e9, e9b, ⟨⟨r0, r1, r2⟩, r3, r4, r5⟩, hret⟩ := pr_err (show W.heap.size ≠ W.heap.size + 1 by omega) (T7.out.1.2) (T7.out.2) (Nat.le_refl _) (show W.heap.size ≤ W.heap.size + 1 by omega) (T7.out.1.1.2) (B := W.heap.size + 1 + 1) (by omega) (by omega) (fr_some (by omega)) (fr_some (by omega)) (wc_want hw8) rfl
                have HRET := Lib.hid hret
                have HE9 := Lib.hid (And.intro e9 e9b)
                have HR9 := Lib.hid (And.intro r0 (And.intro r1 (And.intro r2 (And.intro r3 (And.intro r4 r5)))))
                clear hret e9 e9b r0 r1 r2 r3 r4 r5
                clear hw8 lb1 lb2 sb0
                go_wp2
                first | rw [HE9.out.1] | rw [HE9.out.2]
                have r0 := HR9.out.1
                have r1 := HR9.out.2.1
                have r2 := HR9.out.2.2.1
                have r3 := HR9.out.2.2.2.1
                have r4 := HR9.out.2.2.2.2.1
                have r5 := HR9.out.2.2.2.2.2
                refine bodyPost_ret (v := .tuple #[patV 0 0 none 0 0, .agg #[.int .i64 6, .slice (some ⟨b1, 0, none⟩) 1 1, .slice (some ⟨b2, 0, none⟩) 1 1]]) (by simp [results, Tryd.results20, go_sem, r0, r1, r2, r3, r4, r5]) rfl ?_
                rw [HOD.out.1, HOD.out.2]
                exact HRET.out
          · skip
            have hie : i = s.size + 1 := by omega
            have jle : ¬ (i : Int) ≤ (s.size : Int) := by omega
            have hrr : RR = .ok (ww, hh, cs) := by
              rcases HS.out.run with ⟨h1, _⟩ | ⟨_, h2⟩
              · have := HLN.out; omega
              · exact h2
            have hdd := HF.out
            rw [hrr] at hdd
            have hdd2 : prD s = if 64 < ww then some ([(opPatch, 1)], 4) else if 64 < hh then some ([(opPatch, 2)], 4) else none := hdd
            have HRO := Lib.hid (HRR.out.trans hrr)
            have HDD := Lib.hid hdd2
            obtain ⟨⟨u0, u1, u2⟩, g0, g1, g2⟩ := p_cells HP.out.hz
            clear hie hrr hdd hdd2 hin hiz2
            by_cases hw64 : 64 < ww
            · skip
              have wI : (64 : Int) < (ww : Int) := by omega
              have hd : prD s = some ([(opPatch, 1)], 4) := by rw [HDD.out, if_pos hw64]
              have ho := prO_er hd
              have HOD := Lib.hid (And.intro ho hd)
              clear hd ho
              have sb0 : W.heap.size + 1 < wr.heap.size := heap_ltT (T5.out.2)
              go_wp2_with fail
              refine (rawNew_fresh _ _ _ _ rfl).mono ?_; rintro e w8 ⟨b1, b2, rfl, lb1, lb2, hw8, hbw8⟩
              have T6 := T5.up hbw8
              clear T5
              obtain ⟨⟨q0, q1, q2⟩, f0, f1, f2⟩ := p_cells (T6.out.1.2)
              obtain ⟨⟨q3, q4, q5⟩, f3, f4, f5⟩ := p_cells (T6.out.2)
              obtain ⟨w9, e9, e9b, ⟨⟨r0, r1, r2⟩, r3, r4, r5⟩, hret⟩ := pr_err (show W.heap.size ≠ W.heap.size + 1 by omega) (T6.out.1.2) (T6.out.2) (Nat.le_refl _) (show W.heap.size ≤ W.heap.size + 1 by omega) (T6.out.1.1.2) (B := W.heap.size + 1 + 1) (by omega) (by omega) (fr_some (by omega)) (fr_some (by omega)) (wc_want hw8) rfl
              have HRET := Lib.hid hret
              have HE9 := Lib.hid (And.intro e9 e9b)
              have HR9 := Lib.hid (And.intro r0 (And.intro r1 (And.intro r2 (And.intro r3 (And.intro r4 r5)))))
              clear hret e9 e9b r0 r1 r2 r3 r4 r5
              clear hw8 lb1 lb2 sb0
              go_wp2
              first | rw [HE9.out.1] | rw [HE9.out.2]
              have r0 := HR9.out.1
              have r1 := HR9.out.2.1
              have r2 := HR9.out.2.2.1
              have r3 := HR9.out.2.2.2.1
              have r4 := HR9.out.2.2.2.2.1
              have r5 := HR9.out.2.2.2.2.2
              refine bodyPost_ret (v := .tuple #[patV 0 0 none 0 0, .agg #[.int .i64 4, .slice (some ⟨b1, 0, none⟩) 1 1, .slice (some ⟨b2, 0, none⟩) 1 1]]) (by simp [results, Tryd.results20, go_sem, r0, r1, r2, r3, r4, r5]) rfl ?_
              rw [HOD.out.1, HOD.out.2]
              exact HRET.out
            have wI : ¬ (64 : Int) < (ww : Int) := by omega
            by_cases hh64 : 64 < hh
            · skip
              have hI : (64 : Int) < (hh : Int) := by omega
              have hd : prD s = some ([(opPatch, 2)], 4) := by rw [HDD.out, if_neg hw64, if_pos hh64]
              have ho := prO_er hd
              have HOD := Lib.hid (And.intro ho hd)
              clear hd ho
              have sb0 : W.heap.size + 1 < wr.heap.size := heap_ltT (T5.out.2)
              go_wp2_with fail
              refine (rawNew_fresh _ _ _ _ rfl).mono ?_; rintro e w8 ⟨b1, b2, rfl, lb1, lb2, hw8, hbw8⟩
              have T6 := T5.up hbw8
              clear T5
              obtain ⟨⟨q0, q1, q2⟩, f0, f1, f2⟩ := p_cells (T6.out.1.2)
              obtain ⟨⟨q3, q4, q5⟩, f3, f4, f5⟩ := p_cells (T6.out.2)
              obtain ⟨w9, e9, e9b, ⟨⟨r0, r1, r2⟩, r3, r4, r5⟩, hret⟩ := pr_err (show W.heap.size ≠ W.heap.size + 1 by omega) (T6.out.1.2) (T6.out.2) (Nat.le_refl _) (show W.heap.size ≤ W.heap.size + 1 by omega) (T6.out.1.1.2) (B := W.heap.size + 1 + 1) (by omega) (by omega) (fr_some (by omega)) (fr_some (by omega)) (wc_want hw8) rfl
              have HRET := Lib.hid hret
              have HE9 := Lib.hid (And.intro e9 e9b)
              have HR9 := Lib.hid (And.intro r0 (And.intro r1 (And.intro r2 (And.intro r3 (And.intro r4 r5)))))
              clear hret e9 e9b r0 r1 r2 r3 r4 r5
              clear hw8 lb1 lb2 sb0
              go_wp2
              first | rw [HE9.out.1] | rw [HE9.out.2]
              have r0 := HR9.out.1
              have r1 := HR9.out.2.1
              have r2 := HR9.out.2.2.1
              have r3 := HR9.out.2.2.2.1
              have r4 := HR9.out.2.2.2.2.1
              have r5 := HR9.out.2.2.2.2.2
              refine bodyPost_ret (v := .tuple #[patV 0 0 none 0 0, .agg #[.int .i64 4, .slice (some ⟨b1, 0, none⟩) 1 1, .slice (some ⟨b2, 0, none⟩) 1 1]]) (by simp [results, Tryd.results20, go_sem, r0, r1, r2, r3, r4, r5]) rfl ?_
              rw [HOD.out.1, HOD.out.2]
              exact HRET.out
            · skip
              have hI : ¬ (64 : Int) < (hh : Int) := by omega
              have hd : prD s = none := by rw [HDD.out, if_neg hw64, if_neg hh64]
              have ho : prO s = ((ww : Int), (hh : Int), cs) := by unfold prO; rw [if_pos hd, HRO.out]
              have HOD := Lib.hid (And.intro ho hd)
              clear hd ho
              have hv2 : W.heap.size + 1 + 1 = v := by have h1 := HSZ.out; have h2 := HV.out; omega
              obtain ⟨⟨q0, q1, q2⟩, f0, f1, f2⟩ := p_cells (T5.out.1.2)
              obtain ⟨⟨q3, q4, q5⟩, f3, f4, f5⟩ := p_cells (T5.out.2)
              obtain ⟨w9, e9, e9b, ⟨⟨r0, r1, r2⟩, r3, r4, r5⟩, hret⟩ := pr_ok (H := (ww : Int)) (K := (hh : Int)) (show W.heap.size ≠ W.heap.size + 1 by omega) (T5.out.1.2) (T5.out.2) (Nat.le_refl _) (show W.heap.size ≤ W.heap.size + 1 by omega) (T5.out.1.1.2) (show W.heap.size < v + 1 by omega) (show W.heap.size + 1 < v + 1 by omega) HP.out.own
              have ne1 : ¬ v = W.heap.size + 1 := by omega
              have ne2 : ¬ W.heap.size + 1 = v := by omega
              have ne3 : ¬ v = W.heap.size := by omega
              have ne4 : ¬ W.heap.size = v := by omega
              clear hv2
              have HRET := Lib.hid hret
              have HE9 := Lib.hid (And.intro e9 e9b)
              have HR9 := Lib.hid (And.intro r0 (And.intro r1 (And.intro r2 (And.intro r3 (And.intro r4 r5)))))
              clear hret e9 e9b r0 r1 r2 r3 r4 r5
              go_wp2_with fail
              first
                | (go_region; all_goals go_wp2; all_goals (first | rw [HE9.out.1] | rw [HE9.out.2]))
                | rw [HE9.out.1]
                | rw [HE9.out.2]
              all_goals
                have r0 := HR9.out.1
                have r1 := HR9.out.2.1
                have r2 := HR9.out.2.2.1
                have r3 := HR9.out.2.2.2.1
                have r4 := HR9.out.2.2.2.2.1
                have r5 := HR9.out.2.2.2.2.2
                refine bodyPost_ret (v := .tuple #[patV ww hh aa kk cc, .agg #[.int .i64 0, .slice none 0 0, .slice none 0 0]]) (by simp [results, Tryd.results20, go_sem, r0, r1, r2, r3, r4, r5]) rfl ?_
                rw [HOD.out.1, HOD.out.2]
                first | exact HRET.out | exact HRET.out.drew
end Go.Proofs.YtnlpobkmjhajcaaDoor
