/- fault.Inner, Outer, Code over any tree of errors. -/
import Derived.Test.YtckipboebllkhaaDoorFltD
namespace Go.Proofs.YtckipboebllkhaaDoor
open Go.RowKit Go.Extern.Stop Go.Stop Go.Extern
set_option linter.unusedVariables false
set_option maxRecDepth 100000

def inOp (l : List (ByteArray × Int)) : ByteArray := match l.getLast? with | some x => x.1 | none => ByteArray.empty
def inAt (l : List (ByteArray × Int)) : Int := match l.getLast? with | some x => x.2 | none => 0
def inOk (l : List (ByteArray × Int)) : Bool := !l.isEmpty
theorem inOp_snoc (l : List (ByteArray × Int)) (x : ByteArray × Int) : inOp (l ++ [x]) = x.1 := by simp [inOp]
theorem inAt_snoc (l : List (ByteArray × Int)) (x : ByteArray × Int) : inAt (l ++ [x]) = x.2 := by simp [inAt]
theorem inOk_snoc (l : List (ByteArray × Int)) (x : ByteArray × Int) : inOk (l ++ [x]) = true := by simp [inOk]
structure InnerS (B : Nat) (l : List (ByteArray × Int)) (w : World) : Prop where
  c0 : w.cell? ⟨B, 0, none⟩ = some (.string (inOp l))
  c1 : w.cell? ⟨B + 1, 0, none⟩ = some (.int .i64 (inAt l))
  c2 : w.cell? ⟨B + 1 + 1, 0, none⟩ = some (.bool (inOk l))
  f0 : w.frozen? ⟨B, 0, none⟩ = false
  f1 : w.frozen? ⟨B + 1, 0, none⟩ = false
  f2 : w.frozen? ⟨B + 1 + 1, 0, none⟩ = false
theorem cnF {w : World} {g i : Nat} {cs : Array Value} {e : TypeId} {v : Value} (hg : g = w.heap.size) (h : cs[i]? = some v) : (w.alloc (.cells cs e)).cell? ⟨g, i, none⟩ = some v := by subst hg; simp [h]
theorem frF {w : World} {g i : Nat} {cs : Array Value} {e : TypeId} (hg : g = w.heap.size) : (w.alloc (.cells cs e)).frozen? ⟨g, i, none⟩ = false := by subst hg; simp
theorem frA {w : World} {g i : Nat} {o : Obj} (hg : g < w.heap.size) (h : w.frozen? ⟨g, i, none⟩ = false) : (w.alloc o).frozen? ⟨g, i, none⟩ = false := by rw [World.frozen?_alloc_old _ _ _ (Nat.ne_of_lt hg)]; exact h
theorem inner_end {w0 w : World} {B gf : Nat} {l : List (ByteArray × Int)} {op : ByteArray} {at_ : Int} {v0 v1 v2 : Value} (c0 : w.cell? ⟨B, 0, none⟩ = some v0) (c1 : w.cell? ⟨B + 1, 0, none⟩ = some v1) (c2 : w.cell? ⟨B + 1 + 1, 0, none⟩ = some v2)
    (f0 : w.frozen? ⟨B, 0, none⟩ = false) (f1 : w.frozen? ⟨B + 1, 0, none⟩ = false) (f2 : w.frozen? ⟨B + 1 + 1, 0, none⟩ = false) (hB : w0.heap.size ≤ B) (hgf : B + 1 + 1 < gf) (hb : Below w0.heap.size w0 w) :
    EachPost (InnerS B) w0 w gf (l ++ [(op, at_)]) (.returned (.tuple #[])) (((w.setCell ⟨B, 0, none⟩ (.string op)).setCell ⟨B + 1, 0, none⟩ (.int .i64 at_)).setCell ⟨B + 1 + 1, 0, none⟩ (.bool true)) := by
  refine ⟨rfl, ⟨?_, ?_, ?_, ?_, ?_, ?_⟩, ((hb.setCell (p := ⟨B, 0, none⟩) hB _).setCell (p := ⟨B + 1, 0, none⟩) (Nat.le_succ_of_le hB) _).setCell (p := ⟨B + 1 + 1, 0, none⟩) (Nat.le_succ_of_le (Nat.le_succ_of_le hB)) _, ?_⟩
  · rw [inOp_snoc]
    exact cell_set_far (cell_set_far (World.cell?_setCell_same' _ _ _ (by rw [c0]; rfl)) (by omega)) (by omega)
  · rw [inAt_snoc]
    exact cell_set_far (World.cell?_setCell_same' _ _ _ (by rw [cell_set_far c1 (by omega)]; rfl)) (by omega)
  · rw [inOk_snoc]
    exact World.cell?_setCell_same' _ _ _ (by rw [cell_set_far (cell_set_far c2 (by omega)) (by omega)]; rfl)
  · simp only [World.frozen?_setCell]; exact f0
  · simp only [World.frozen?_setCell]; exact f1
  · simp only [World.frozen?_setCell]; exact f2
  · rw [Below.heap_setCell _ _ _ _ (by show gf ≠ B + 1 + 1; omega), Below.heap_setCell _ _ _ _ (by show gf ≠ B + 1; omega), Below.heap_setCell _ _ _ _ (by show gf ≠ B; omega)]
theorem inner_set {w0 w : World} {B : Nat} {op : ByteArray} {at_ : Int} {ok : Bool} {v0 v1 v2 : Value} (c0 : w.cell? ⟨B, 0, none⟩ = some v0) (c1 : w.cell? ⟨B + 1, 0, none⟩ = some v1) (c2 : w.cell? ⟨B + 1 + 1, 0, none⟩ = some v2)
    (hB : w0.heap.size ≤ B) (hb : Below w0.heap.size w0 w) :
    ∃ w3, ((w.setCell ⟨B, 0, none⟩ (.string op)).setCell ⟨B + 1, 0, none⟩ (.int .i64 at_)).setCell ⟨B + 1 + 1, 0, none⟩ (.bool ok) = w3 ∧ w3.cell? ⟨B, 0, none⟩ = some (.string op) ∧ w3.cell? ⟨B + 1, 0, none⟩ = some (.int .i64 at_) ∧ w3.cell? ⟨B + 1 + 1, 0, none⟩ = some (.bool ok) ∧ Below w0.heap.size w0 w3 := by
  refine ⟨_, rfl, ?_, ?_, ?_, ((hb.setCell (p := ⟨B, 0, none⟩) hB _).setCell (p := ⟨B + 1, 0, none⟩) (Nat.le_succ_of_le hB) _).setCell (p := ⟨B + 1 + 1, 0, none⟩) (Nat.le_succ_of_le (Nat.le_succ_of_le hB)) _⟩
  · exact cell_set_far (cell_set_far (World.cell?_setCell_same' _ _ _ (by rw [c0]; rfl)) (by omega)) (by omega)
  · exact cell_set_far (World.cell?_setCell_same' _ _ _ (by rw [cell_set_far c1 (by omega)]; rfl)) (by omega)
  · exact World.cell?_setCell_same' _ _ _ (by rw [cell_set_far (cell_set_far c2 (by omega)) (by omega)]; rfl)
theorem EachPost.drew {S : List (ByteArray × Int) → World → Prop} {w0 w w' : World} {gf : Nat} {l : List (ByteArray × Int)} {e : Ending} (h : EachPost S w0 w gf l e w') (hS : S l w' → S l w'.drew) : EachPost S w0 w gf l e w'.drew := ⟨h.1, hS h.2.1, Below.drew h.2.2.1, h.2.2.2⟩
set_option maxHeartbeats 4000000 in
theorem inner_each (w0 w : World) (B gf g : Nat) (l : List (ByteArray × Int)) (op : ByteArray) (at_ : Int) (x : Value) (hs : InnerS B l w) (hB : w0.heap.size ≤ B) (hgf : B + 1 + 1 < gf) (hb : Below w0.heap.size w0 w) (hg : w0.heap[g]? = some (faultObj op at_ x)) :
    Calls Tryd.prog 46 #[.pointer (some ⟨g, 0, none⟩), .pointer (some ⟨B, 0, none⟩), .pointer (some ⟨B + 1, 0, none⟩), .pointer (some ⟨B + 1 + 1, 0, none⟩)] w (EachPost (InnerS B) w0 w gf (l ++ [(op, at_)])) := by
  obtain ⟨c0, c1, c2, f0, f1, f2⟩ := hs
  have x0 := cpF hb (cell_fault hg).1
  have x1 := cpF hb (cell_fault hg).2.1
  have hgl : g < w0.heap.size := (Array.getElem?_eq_some_iff.1 hg).1
  have hg0 : g ≠ B := by omega
  have hg1 : g ≠ B + 1 := by omega
  have hg2 : g ≠ B + 1 + 1 := by omega
  generalize inOp l = o0 at *
  generalize inAt l = o1 at *
  generalize inOk l = o2 at *
  have HB := Lib.hid hb
  clear hb hg
  go_enter Tryd.func46, Tryd.ntmps46
  go_wp2_with fail
  have HE := Lib.hid (inner_end (l := l) (op := op) (at_ := at_) c0 c1 c2 f0 f1 f2 hB hgf HB.out)
  go_region_law (fail)
  all_goals
    go_end0
    first
      | exact HE.out
      | exact HE.out.drew fun h => ⟨h.c0, h.c1, h.c2, h.f0, h.f1, h.f2⟩
set_option maxHeartbeats 4000000 in
theorem inner_all (t : ErrT) (v : Value) (w : World) (hv : TR w t v) (hET : ErrType w) (hl : (faultsF t).length ≤ 1000000) :
    Calls Tryd.prog 23 #[v] w fun e w' => e = .returned (.tuple #[.string (inOp (faultsF t)), .int .i64 (inAt (faultsF t)), .bool (inOk (faultsF t))]) ∧ Below w.heap.size w w' := by
  have eg : ∀ args w, (callFunc 46 args).run Tryd.prog w = .ok (.enter 46 args) w := enters_of Tryd.func46 (by kernel_rfl) rfl
  have EG := Lib.hid eg; clear eg
  have hmf : ∀ (fn : Fn) (first cap : Array Value) (w : World), (Instr.makeFunc fn first cap).run Tryd.prog w = .ok (.func fn first cap) w := fun _ _ _ _ => rfl
  obtain ⟨B, hB⟩ : ∃ B, w.heap.size = B := ⟨_, rfl⟩
  obtain ⟨W1, hW1⟩ : ∃ W1, ((w.alloc (.cells #[.string { data := #[] }] 9)).alloc (.cells #[.int .i64 0] 3)).alloc (.cells #[.bool false] 4) = W1 := ⟨_, rfl⟩
  have h2 : W1.heap.size = B + 1 + 1 + 1 := by rw [← hW1, ← hB]; simp
  have h3 : Below w.heap.size w W1 := by rw [← hW1]; exact balloc (balloc (balloc (bnil w) _) _) _
  have h1 : InnerS B [] W1 := by
    rw [← hW1, ← hB]
    exact ⟨al000 (al000 (cnF rfl rfl)), al000 (cnF (by simp) rfl), cnF (by simp) rfl, frA (by simp; omega) (frA (by simp) (frF rfl)), frA (by simp) (frF (by simp)), frF (by simp)⟩
  have HW := Lib.hid hW1
  clear hW1
  have hrun : Calls Tryd.prog 39 #[v, .func (.func 46) #[] #[.pointer (some ⟨B, 0, none⟩), .pointer (some ⟨B + 1, 0, none⟩), .pointer (some ⟨B + 1 + 1, 0, none⟩)]] W1 fun e w' => e = .returned (.tuple #[]) ∧ InnerS B (faultsF t) w' ∧ Below w.heap.size w w' :=
    faults_any 46 #[.pointer (some ⟨B, 0, none⟩), .pointer (some ⟨B + 1, 0, none⟩), .pointer (some ⟨B + 1 + 1, 0, none⟩)] (InnerS B) t v w W1 hv h3 hET EG.out h1
      (fun l w1 w2 hs hb => ⟨cpF hb hs.c0, cpF hb hs.c1, cpF hb hs.c2, by rw [hb.frozen (World.block_lt_of_cell? _ _ hs.c0)]; exact hs.f0, by rw [hb.frozen (World.block_lt_of_cell? _ _ hs.c1)]; exact hs.f1, by rw [hb.frozen (World.block_lt_of_cell? _ _ hs.c2)]; exact hs.f2⟩)
      (fun l w1 u hs => ⟨cell_set_far hs.c0 (by omega), cell_set_far hs.c1 (by omega), cell_set_far hs.c2 (by omega), by rw [World.frozen?_setCell]; exact hs.f0, by rw [World.frozen?_setCell]; exact hs.f1, by rw [World.frozen?_setCell]; exact hs.f2⟩)
      (fun l op at_ x g w1 hs hln hlt hb hg => inner_each w w1 B W1.heap.size g l op at_ x hs (by omega) (by omega) hb hg)
  have HR := Lib.hid hrun
  clear hrun h1 h2 h3 hv hET hl
  go_enter Tryd.func23, Tryd.ntmps23
  go_wp2_with fail
  rw [HW.out]
  try simp only [hB]
  refine HR.out.mono ?_; rintro e w2 ⟨rfl, ⟨c0, c1, c2, f0, f1, f2⟩, hb2⟩
  go_wp2_with fail
  have hset := inner_set (op := inOp (faultsF t)) (at_ := inAt (faultsF t)) (ok := inOk (faultsF t)) c0 c1 c2 (show w.heap.size ≤ B by omega) hb2
  obtain ⟨w3, e3, d0, d1, d2, hb3⟩ := hset
  have HB3 := Lib.hid hb3
  have E3 := Lib.hid e3
  clear hb3 e3
  go_region_law (fail)
  all_goals
    rw [E3.out]
    go_wp2
    refine bodyPost_ret (v := .tuple #[.string (inOp (faultsF t)), .int .i64 (inAt (faultsF t)), .bool (inOk (faultsF t))]) (by simp [results, Tryd.results23, go_sem, d0, d1, d2]) rfl ?_
    first
      | exact ⟨rfl, HB3.out⟩
      | exact ⟨rfl, Below.drew HB3.out⟩
def outOp : Option (ByteArray × Int × ErrT) → ByteArray
  | some x => x.1
  | none => ByteArray.empty
def outAt : Option (ByteArray × Int × ErrT) → Int
  | some x => x.2.1
  | none => 0
def outOk : Option (ByteArray × Int × ErrT) → Bool
  | some _ => true
  | none => false
set_option maxHeartbeats 4000000 in
/-- the outermost Fault -/
theorem outer_all (t : ErrT) (v : Value) (w : World) (hv : TR w t v) (hET : ErrType w) :
    Calls Tryd.prog 22 #[v] w fun e w' => e = .returned (.tuple #[.string (outOp (firstF t)), .int .i64 (outAt (firstF t)), .bool (outOk (firstF t))]) ∧ Below w.heap.size w w' := by
  obtain ⟨B, hB⟩ : ∃ B, w.heap.size = B := ⟨_, rfl⟩
  obtain ⟨W1, hW1⟩ : ∃ W1, w.alloc (.cells #[.pointer none] 57) = W1 := ⟨_, rfl⟩
  have h3 : Below w.heap.size w W1 := by rw [← hW1]; exact balloc (bnil w) _
  have hc1 : W1.cell? ⟨B, 0, none⟩ = some (.pointer none) := by rw [← hW1, ← hB]; simp
  have hf1 : W1.frozen? ⟨B, 0, none⟩ = false := by rw [← hW1, ← hB]; simp
  have HR := Lib.hid (as_all w ⟨B, 0, none⟩ _ (by show w.heap.size ≤ B; omega) t v W1 hv h3 hET hc1 hf1)
  have HC := Lib.hid (And.intro hc1 h3)
  have HW := Lib.hid hW1
  clear hW1 h3 hc1 hf1 hv hET
  go_enter Tryd.func22, Tryd.ntmps22
  go_wp2_with fail
  rw [HW.out]
  try simp only [hB]
  refine HR.out.mono ?_; rintro e w2 h
  rcases h with ⟨hn, rfl, hb2⟩ | ⟨op, at_, s, g, x, wm, hsm, rfl, hg, hts, hbm, rfl⟩
  · have HN := Lib.hid hn
    clear hn
    have HB2 := Lib.hid hb2
    clear hb2
    go_wp2
    go_ret3
    exact ⟨by rw [HN.out]; rfl, HC.out.2.trans (HB2.out.mono HC.out.2.size)⟩
  · have HSM := Lib.hid hsm
    obtain ⟨w3, h3⟩ : ∃ w3, wm.setCell ⟨B, 0, none⟩ (.pointer (some ⟨g, 0, none⟩)) = w3 := ⟨_, rfl⟩
    have c3 : w3.cell? ⟨B, 0, none⟩ = some (.pointer (some ⟨g, 0, none⟩)) := by rw [← h3]; exact World.cell?_setCell_same' _ _ _ (by rw [cpF hbm HC.out.1]; rfl)
    have hb3 : Below w.heap.size w w3 := by rw [← h3]; exact (HC.out.2.trans (hbm.mono HC.out.2.size)).setCell (p := ⟨B, 0, none⟩) (by show w.heap.size ≤ B; omega) _
    have x0 := cpF hb3 (cell_fault hg).1
    have x1 := cpF hb3 (cell_fault hg).2.1
    rw [h3]
    have HB3 := Lib.hid hb3
    clear h3 hbm hg hts hsm hb3
    go_wp2_with fail
    go_quiet (fail)
    go_wp2
    go_ret3
    exact ⟨by rw [HSM.out]; rfl, bdrewN HB3.out _⟩

/-! ### Code -/
/-- the first number, from n on, of m -/
def codeG (f : Nat → Bool) : Nat → Nat → Nat
  | 0, _ => 99
  | m + 1, n => if f n = true then n else codeG f m (n + 1)
def codeF (R : Nat → Addr) : ErrT → Nat
  | .none => 0
  | t => codeG (fun n => finds (R (rix (n : Int))) t) 11 1
theorem codeF_some (R : Nat → Addr) {t : ErrT} (h : t ≠ .none) : codeF R t = codeG (fun n => finds (R (rix (n : Int))) t) 11 1 := by
  cases t with
  | none => exact absurd rfl h
  | _ => rfl
theorem rix_ltF (n : Int) : rix n < 12 := by
  unfold rix
  repeat' split
  all_goals omega
set_option maxHeartbeats 4000000 in
theorem code_all (R : Nat → Addr) (t : ErrT) (v : Value) (w : World) (hv : TR w t v) (hE : Sent w R) :
    Calls Tryd.prog 10 #[v] w fun e w' => e = .returned (.int .i64 (codeF R t : Nat)) ∧ Below w.heap.size w w' := by
  rcases hv.shape with rfl | ⟨ty, p, rfl⟩
  · have ht : t = .none := hv.inj (t' := .none) rfl
    subst ht
    clear hv hE
    go_enter Tryd.func10, Tryd.ntmps10
    go_wp2
    go_ret
    exact ⟨rfl, bnil w⟩
  · have hne : t ≠ .none := fun e => by subst e; exact absurd hv (by simp [TR])
    have hcd : codeF R t = codeG (fun n => finds (R (rix (n : Int))) t) 11 1 := codeF_some R hne
    have HCD := Lib.hid hcd
    have HV := Lib.hid hv
    have HE := Lib.hid hE
    clear hne hcd hv hE
    go_enter Tryd.func10, Tryd.ntmps10
    go_wp2_with fail
    go_loopw [3] (fun nv wr => ∃ k : Nat, k ≤ 11 ∧ nv = .int .i64 (k + 1 : Nat) ∧ codeF R t = codeG (fun n => finds (R (rix (n : Int))) t) (11 - k) (k + 1) ∧ Below w.heap.size w wr) (fun nv _ => 12 - (intOf nv).toNat)
    case atStart => exact ⟨0, by omega, rfl, HCD.out, bnil w⟩
    case round =>
      clear HCD
      obtain ⟨k, hk, rfl, hcd, hb⟩ := hrel
      have HCD := Lib.hid hcd
      have HB := Lib.hid hb
      clear hcd hb
      obtain ⟨n, hn⟩ : ∃ n, k + 1 = n := ⟨_, rfl⟩
      have HN := Lib.hid hn
      rw [hn]
      have hn0 : 1 ≤ n := by omega
      have hn12 : n ≤ 12 := by omega
      have hk1 : k = n - 1 := by omega
      subst hk1
      clear hn hk
      by_cases hin : n ≤ 11
      · have i1 : (n : Int) ≤ 11 := by omega
        go_wp2_with fail
        refine (root_any n _ R (HE.out.up HB.out).glob).mono ?_; rintro e w1 ⟨rfl, rfl⟩
        go_wp2_with fail
        obtain ⟨c, ty2, hrow⟩ := (HE.out.up HB.out).row _ (rix_ltF (n : Int))
        refine (is_all _ c ty2 t _ _ (HV.out.up HB.out) hrow).mono ?_; rintro e w2 ⟨rfl, hb2⟩
        have HB2 := Lib.hid (HB.out.trans (hb2.mono HB.out.size))
        clear hb2 hrow
        have hcn : codeF R t = if finds (R (rix (n : Int))) t = true then n else codeG (fun n => finds (R (rix (n : Int))) t) (11 - n) (n + 1) := by
          have := HCD.out
          rw [show 11 - (n - 1) = 11 - n + 1 from by omega, show n - 1 + 1 = n from by omega] at this
          exact this
        obtain ⟨b, hb⟩ : ∃ b, finds (R (rix (n : Int))) t = b := ⟨_, rfl⟩
        rw [hb] at hcn ⊢
        have HCN := Lib.hid hcn
        clear hcn hb
        have iw : IntKind.i64.wrap ((n : Int) + 1) = ((n + 1 : Nat) : Int) := by rw [IntWalk.i64_in _ (by omega)]; rfl
        cases b with
        | true =>
          go_wp2
          go_ret
          exact ⟨by rw [HCN.out]; rfl, HB2.out⟩
        | false =>
          go_wp2
          go_roundw
          case rel => exact ⟨n, hin, rfl, HCN.out, HB2.out⟩
          case measure => simp [intOf]; omega
      · have i1 : ¬ (n : Int) ≤ 11 := by omega
        have hz : codeF R t = 99 := by
          rw [HCD.out, show 11 - (n - 1) = 0 from by omega]; rfl
        have HZ := Lib.hid hz
        clear hz
        go_wp2
        go_ret
        exact ⟨by rw [HZ.out]; rfl, HB.out⟩
end Go.Proofs.YtckipboebllkhaaDoor
