/- The errors of a list of nodes as trees; edenref01.Nil, finds, first, Code, Faults. -/
import Derived.Test.YtckipboebllkhaaDoorFChA
import Derived.Test.YtckipboebllkhaaDoorFNum
namespace Go.Proofs.YtckipboebllkhaaDoor
open Go.RowKit Go.Extern.Stop Go.Stop Go.Extern
set_option linter.unusedVariables false
set_option maxRecDepth 100000

def pa (N : Nat → Nd) (i : Nat) : Nat := (nplace (N i).a i).toNat
def pb (N : Nat → Nd) (i : Nat) : Nat := (nplace (N i).b i).toNat
theorem pa_lt {N : Nat → Nd} {i : Nat} (h : 0 < i) : nplace (N i).a i = (pa N i : Nat) ∧ pa N i < i := by
  obtain ⟨j, h1, h2⟩ := nplace_lt (x := (N i).a) h
  unfold pa
  rw [h1]
  exact ⟨by simp, by simpa using h2⟩
theorem pb_lt {N : Nat → Nd} {i : Nat} (h : 0 < i) : nplace (N i).b i = (pb N i : Nat) ∧ pb N i < i := by
  obtain ⟨j, h1, h2⟩ := nplace_lt (x := (N i).b) h
  unfold pb
  rw [h1]
  exact ⟨by simp, by simpa using h2⟩
theorem kind_pos {N : Nat → Nd} {i : Nat} (h : 2 < nkind N i) : 0 < i := by
  rcases Nat.eq_zero_or_pos i with h0 | h0
  · subst h0; have := nkind_zero N; omega
  · exact h0
/-- one node's error, over the errors ahead of it -/
def ndS (R E : Nat → Addr) (N : Nat → Nd) (T : Nat → ErrT) (i : Nat) : ErrT :=
  if nkind N i = 0 then .root (R (rix (N i).num)) else if nkind N i = 1 then .root (E i) else if nkind N i = 2 then newT R (N i).op (N i).at_ (N i).num
  else if nkind N i = 3 then underT (N i).op (N i).at_ (T (pa N i)) else if nkind N i = 4 then .own (T (pa N i)) else if nkind N i = 5 then .shut (T (pa N i)) else .both (T (pa N i)) (T (pb N i))
def ndF (R E : Nat → Addr) (N : Nat → Nd) : Nat → Nat → ErrT
  | 0, _ => .none
  | f + 1, i => ndS R E N (ndF R E N f) i
/-- the error of a node -/
def ndT (R E : Nat → Addr) (N : Nat → Nd) (i : Nat) : ErrT := ndF R E N (i + 1) i
theorem ndS_congr {R E E' : Nat → Addr} {N : Nat → Nd} {T T' : Nat → ErrT} {i : Nat} (hE : nkind N i = 1 → E i = E' i) (hT : ∀ j, j < i → T j = T' j) : ndS R E N T i = ndS R E' N T' i := by
  unfold ndS
  have key : ∀ {k : Int}, 3 ≤ k → nkind N i = k → T (pa N i) = T' (pa N i) ∧ T (pb N i) = T' (pb N i) := fun h1 h2 => by
    have h0 := kind_pos (N := N) (i := i) (by omega)
    exact ⟨hT _ (pa_lt h0).2, hT _ (pb_lt h0).2⟩
  split
  · rfl
  · split
    · rename_i h; rw [hE h]
    · split
      · rfl
      · split
        · rename_i h; rw [(key (by omega) h).1]
        · split
          · rename_i h; rw [(key (by omega) h).1]
          · split
            · rename_i h; rw [(key (by omega) h).1]
            · have := nkind_range N i
              rw [(key (k := nkind N i) (by omega) rfl).1, (key (k := nkind N i) (by omega) rfl).2]
theorem ndF_fuel (R E : Nat → Addr) (N : Nat → Nd) : ∀ f g i, i < f → i < g → ndF R E N f i = ndF R E N g i
  | 0, g, i, h, _ => by omega
  | f + 1, 0, i, _, h => by omega
  | f + 1, g + 1, i, h1, h2 => ndS_congr (fun _ => rfl) fun j hj => ndF_fuel R E N f g j (by omega) (by omega)
theorem ndT_eq (R E : Nat → Addr) (N : Nat → Nd) (i : Nat) : ndT R E N i = ndS R E N (ndT R E N) i :=
  ndS_congr (fun _ => rfl) fun j hj => ndF_fuel R E N i (j + 1) j hj (Nat.lt_succ_self j)
theorem ndT_congr {R E E' : Nat → Addr} {N : Nat → Nd} : ∀ i, (∀ j, j ≤ i → nkind N j = 1 → E j = E' j) → ndT R E N i = ndT R E' N i := by
  intro i
  induction i using Nat.strongRecOn with
  | ind i ih =>
    intro h
    rw [ndT_eq, ndT_eq]
    exact ndS_congr (fun hk => h i (Nat.le_refl _) hk) fun j hj => ih j hj fun k hk => h k (by omega)
theorem ndT_0 {R E : Nat → Addr} {N : Nat → Nd} {i : Nat} (h : nkind N i = 0) : ndT R E N i = .root (R (rix (N i).num)) := by rw [ndT_eq]; unfold ndS; rw [if_pos h]
theorem ndT_1 {R E : Nat → Addr} {N : Nat → Nd} {i : Nat} (h : nkind N i = 1) : ndT R E N i = .root (E i) := by rw [ndT_eq]; unfold ndS; rw [if_neg (by omega), if_pos h]
theorem ndT_2 {R E : Nat → Addr} {N : Nat → Nd} {i : Nat} (h : nkind N i = 2) : ndT R E N i = newT R (N i).op (N i).at_ (N i).num := by rw [ndT_eq]; unfold ndS; rw [if_neg (by omega), if_neg (by omega), if_pos h]
theorem ndT_3 {R E : Nat → Addr} {N : Nat → Nd} {i : Nat} (h : nkind N i = 3) : ndT R E N i = underT (N i).op (N i).at_ (ndT R E N (pa N i)) := by rw [ndT_eq]; unfold ndS; rw [if_neg (by omega), if_neg (by omega), if_neg (by omega), if_pos h]
theorem ndT_4 {R E : Nat → Addr} {N : Nat → Nd} {i : Nat} (h : nkind N i = 4) : ndT R E N i = .own (ndT R E N (pa N i)) := by rw [ndT_eq]; unfold ndS; rw [if_neg (by omega), if_neg (by omega), if_neg (by omega), if_neg (by omega), if_pos h]
theorem ndT_5 {R E : Nat → Addr} {N : Nat → Nd} {i : Nat} (h : nkind N i = 5) : ndT R E N i = .shut (ndT R E N (pa N i)) := by rw [ndT_eq]; unfold ndS; rw [if_neg (by omega), if_neg (by omega), if_neg (by omega), if_neg (by omega), if_neg (by omega), if_pos h]
theorem ndT_6 {R E : Nat → Addr} {N : Nat → Nd} {i : Nat} (h : nkind N i = 6) : ndT R E N i = .both (ndT R E N (pa N i)) (ndT R E N (pb N i)) := by rw [ndT_eq]; unfold ndS; rw [if_neg (by omega), if_neg (by omega), if_neg (by omega), if_neg (by omega), if_neg (by omega), if_neg (by omega)]
theorem kinds (N : Nat → Nd) (i : Nat) : nkind N i = 0 ∨ nkind N i = 1 ∨ nkind N i = 2 ∨ nkind N i = 3 ∨ nkind N i = 4 ∨ nkind N i = 5 ∨ nkind N i = 6 := by
  have := nkind_range N i
  omega
def isN : ErrT → Bool
  | .none => true
  | _ => false
theorem isN_new (R : Nat → Addr) (op : ByteArray) (at_ n : Int) : isN (newT R op at_ n) = decide (n = 0) := by
  unfold newT
  split
  · rename_i h; simp [isN, h]
  · rename_i h; simp [isN, h]
theorem isN_under (op : ByteArray) (at_ : Int) (t : ErrT) : isN (underT op at_ t) = isN t := by cases t <;> rfl
/-- a node as it is taken, beyond the first -/
theorem norm_pos (s : Option Addr) (n c i : Nat) (N : Nat → Nd) (w : World) (h : NdR w s n N) (hi : i < n) (hn : n ≤ 12) :
    Calls Tryd.prog 41 #[.slice s n c, .int .i64 (i : Nat)] w fun e w' => ∃ A B : Int, e = .returned (.agg #[.int .i64 (nkind N i), .int .i64 (N i).num, .int .i64 (N i).at_, .int .i64 A, .int .i64 B, .string (N i).op]) ∧ (0 < i → A = (pa N i : Nat) ∧ B = (pb N i : Nat)) ∧ Below w.heap.size w w' := by
  refine (norm_node s n c i N w h hi hn).mono ?_
  rintro e w' ⟨rfl, hb⟩
  exact ⟨_, _, rfl, fun h0 => ⟨(pa_lt h0).1, (pb_lt h0).1⟩, hb⟩
def BoolPost (W : World) (r : Bool) (e : Ending) (w' : World) : Prop := e = .returned (.bool r) ∧ Below W.heap.size W w'
set_option maxHeartbeats 8000000 in
theorem nil_any (R E : Nat → Addr) (s : Option Addr) (n c : Nat) (N : Nat → Nd) (hn : n ≤ 12) : ∀ i, i < n → ∀ w : World, NdR w s n N →
    Calls Tryd.prog 19 #[.slice s n c, .int .i64 (i : Nat)] w (BoolPost w (isN (ndT R E N i))) := by
  intro i
  induction i using Nat.strongRecOn with
  | ind i ih =>
    intro hi w h
    have IH := Lib.hid ih
    have HN := Lib.hid h
    clear ih h
    have hk := kinds N i
    go_enter Tryd.func19, Tryd.ntmps19
    go_wp2_with fail
    refine (norm_pos s n c i N _ HN.out hi hn).mono ?_; rintro e w1 ⟨A, B, rfl, hab, hb1⟩
    obtain ⟨k, hkk⟩ : ∃ k, nkind N i = k := ⟨_, rfl⟩
    have HKK := Lib.hid hkk
    rw [hkk] at hk ⊢
    have HB1 := Lib.hid hb1
    have HAB := Lib.hid hab
    clear hb1 hab hkk
    obtain ⟨nm, hnm⟩ : ∃ nm, (N i).num = nm := ⟨_, rfl⟩
    rw [hnm]
    have HNM := Lib.hid hnm
    clear hnm
    generalize (N i).at_ = atx at *
    generalize (N i).op = opx at *
    rcases hk with rfl | rfl | rfl | rfl | rfl | rfl | rfl
    · have hr : isN (ndT R E N i) = false := by rw [ndT_0 HKK.out]; rfl
      have HR := Lib.hid hr
      clear hr
      go_wp2
      go_ret
      exact ⟨by rw [HR.out]; rfl, balloc HB1.out _⟩
    · have hr : isN (ndT R E N i) = false := by rw [ndT_1 HKK.out]; rfl
      have HR := Lib.hid hr
      clear hr
      go_wp2
      go_ret
      exact ⟨by rw [HR.out]; rfl, balloc HB1.out _⟩
    · have hr : isN (ndT R E N i) = decide (nm = 0) := by rw [ndT_2 HKK.out, isN_new, HNM.out]
      have HR := Lib.hid hr
      clear hr
      by_cases hz : nm = 0
      · have hz2 : (nm == 0) = true := by simp [hz]
        have HZ := Lib.hid hz
        clear hz
        go_wp2
        go_ret
        exact ⟨by rw [HR.out, decide_eq_true HZ.out]; rfl, balloc HB1.out _⟩
      · have hz2 : (nm == 0) = false := by rw [beq_eq_false_iff_ne]; exact hz
        have HZ := Lib.hid hz
        clear hz
        go_wp2
        go_ret
        exact ⟨by rw [HR.out, decide_eq_false HZ.out]; rfl, balloc HB1.out _⟩
    · have hr : isN (ndT R E N i) = isN (ndT R E N (pa N i)) := by rw [ndT_3 HKK.out, isN_under]
      have h0 := kind_pos (N := N) (i := i) (by rw [HKK.out]; omega)
      obtain ⟨rfl, rfl⟩ := HAB.out h0
      have hlt := (pa_lt (N := N) h0).2
      have HR := Lib.hid hr
      clear hr
      go_wp2_with fail
      refine (IH.out (pa N i) hlt (by omega) _ (HN.out.up (balloc HB1.out _))).mono ?_; rintro e w2 ⟨rfl, hb2⟩
      rw [← HR.out]
      go_wp2
      go_ret
      exact ⟨rfl, bstep (balloc HB1.out _) hb2⟩
    · have hr : isN (ndT R E N i) = false := by rw [ndT_4 HKK.out]; rfl
      have HR := Lib.hid hr
      clear hr
      go_wp2
      go_ret
      exact ⟨by rw [HR.out]; rfl, balloc HB1.out _⟩
    · have hr : isN (ndT R E N i) = false := by rw [ndT_5 HKK.out]; rfl
      have HR := Lib.hid hr
      clear hr
      go_wp2
      go_ret
      exact ⟨by rw [HR.out]; rfl, balloc HB1.out _⟩
    · have hr : isN (ndT R E N i) = false := by rw [ndT_6 HKK.out]; rfl
      have HR := Lib.hid hr
      clear hr
      go_wp2
      go_ret
      exact ⟨by rw [HR.out]; rfl, balloc HB1.out _⟩
end Go.Proofs.YtckipboebllkhaaDoor
