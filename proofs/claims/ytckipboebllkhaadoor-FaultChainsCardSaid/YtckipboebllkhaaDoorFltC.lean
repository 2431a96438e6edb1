/- errors.As and fault.faults over any tree of errors. -/
import Derived.Test.YtckipboebllkhaaDoorFltB
namespace Go.Proofs.YtckipboebllkhaaDoor
open Go.RowKit Go.Extern.Stop Go.Stop Go.Extern
set_option linter.unusedVariables false
set_option maxRecDepth 100000

set_option maxHeartbeats 8000000 in
theorem as_all (w0 : World) (tt : Addr) (old : Value) (hlt : w0.heap.size ≤ tt.block) (t : ErrT) (v : Value) (w : World) (hv : TR w0 t v) (hbw : Below w0.heap.size w0 w) (hET : ErrType w0)
    (ht0 : w.cell? tt = some old) (hf0 : w.frozen? tt = false) :
    Calls Tryd.prog 26 #[v, .iface 59 (.pointer (some tt))] w (AsPost w0 w tt (firstF t)) := by
  have hg := hET.up hbw
  clear hET
  rcases hv.shape with rfl | ⟨ty, pv, rfl⟩
  · have ht : t = .none := hv.inj (t' := .none) rfl
    subst ht
    clear ht0 hf0 hg
    go_enter Tryd.func26, Tryd.ntmps26
    go_wp2
    go_ret
    exact .inl ⟨rfl, rfl, bnil w⟩
  have hne : t ≠ .none := fun e => by subst e; exact absurd hv (by simp [TR])
  have h6 := f_val
  have h7 := f_type
  have h8 := f_nil
  have h27 := f_kind
  have h37 := f_elemT
  have h38 := f_impl
  have f6 := valueOfPP
  have f7 := typePP
  have mK := methodKind
  have mE := methodElem
  have mI := methodImplements
  have k27 := kindPP
  have k25 := kindP
  have e27 := elemPP
  have i25 := implementsP
  unfold ErrType at hg
  have hlt2 : 1 < w.heap.size := World.block_lt_of_cell? _ _ hg
  have htl : tt.block < w.heap.size := World.block_lt_of_cell? _ _ ht0
  have n8 := isNilPP ⟨w.heap.size, 0, none⟩ tt ((w.alloc (.cells #[.pointer (some tt)] 59)).alloc (.cells #[.pointer (some ⟨16, 59, none⟩), .pointer (some ⟨w.heap.size, 0, none⟩), .int .u64 150] 103)) (by simp)
  have hg2 : ((w.alloc (.cells #[.pointer (some tt)] 59)).alloc (.cells #[.pointer (some ⟨16, 59, none⟩), .pointer (some ⟨w.heap.size, 0, none⟩), .int .u64 150] 103)).cell? ⟨1, 0, none⟩ = some (.iface 130 (.agg #[.pointer (some ⟨16, 26, none⟩)])) := by
    rw [World.cell?_alloc_lt _ _ ⟨1, 0, none⟩ (by simp; omega), World.cell?_alloc_lt _ _ ⟨1, 0, none⟩ hlt2]; exact hg
  have hb2 : Below w.heap.size w ((w.alloc (.cells #[.pointer (some tt)] 59)).alloc (.cells #[.pointer (some ⟨16, 59, none⟩), .pointer (some ⟨w.heap.size, 0, none⟩), .int .u64 150] 103)) := balloc (balloc (bnil w) _) _
  have hcall := as_tree w0 tt ⟨w.heap.size, 0, none⟩ old hlt (sz t) t (Nat.le_refl _) (.iface ty pv) ((w.alloc (.cells #[.pointer (some tt)] 59)).alloc (.cells #[.pointer (some ⟨16, 59, none⟩), .pointer (some ⟨w.heap.size, 0, none⟩), .int .u64 150] 103)) hv hne (hbw.trans (hb2.mono hbw.size)) (cpF hb2 ht0) (by rw [hb2.frozen htl]; exact hf0) (by simp)
  have HC := Lib.hid hcall
  have HB2 := Lib.hid hb2
  clear hcall hb2 hv hbw
  go_enter Tryd.func26, Tryd.ntmps26
  go_wp2_with fail
  refine HC.out.mono ?_; rintro e w' h
  have hH : AsPost w0 w tt (firstF t) e w' := by
    rcases h with ⟨h1, h2, h3⟩ | ⟨op, at_, s, g, x, wm, h1, h2, h3, h4, h5, h6⟩
    · exact .inl ⟨h1, h2, HB2.out.trans (h3.mono HB2.out.size)⟩
    · exact .inr ⟨op, at_, s, g, x, wm, h1, h2, h3, h4, HB2.out.trans (h5.mono HB2.out.size), h6⟩
  clear h
  obtain ⟨b, rfl⟩ : ∃ b, e = .returned (.bool b) := by
    rcases hH with ⟨_, h, _⟩ | ⟨_, _, _, _, _, _, _, h, _⟩
    · exact ⟨_, h⟩
    · exact ⟨_, h⟩
  have HH := Lib.hid hH
  clear hH
  go_wp2
  go_ret
  exact HH.out

/-! ### the Faults of an error -/
def faultsF : ErrT → List (ByteArray × Int)
  | .none => []
  | .root _ => []
  | .fault op at_ t => (op, at_) :: faultsF t
  | .own t => faultsF t
  | .shut _ => []
  | .both a b => if firstF a = none then faultsF b else faultsF a
theorem faultsF_none : ∀ {t : ErrT}, firstF t = none → faultsF t = []
  | .none, _ => rfl
  | .root _, _ => rfl
  | .fault _ _ _, h => by cases h
  | .own t, h => faultsF_none (t := t) h
  | .shut _, _ => rfl
  | .both a b, h => by
    simp only [firstF, Option.or_eq_none_iff] at h
    show (if firstF a = none then faultsF b else faultsF a) = []
    rw [if_pos h.1]
    exact faultsF_none h.2
theorem faultsF_some : ∀ {t : ErrT} {op : ByteArray} {at_ : Int} {s : ErrT}, firstF t = some (op, at_, s) → faultsF t = (op, at_) :: faultsF s ∧ sz s < sz t
  | .none, _, _, _, h => by cases h
  | .root _, _, _, _, h => by cases h
  | .fault o a u, _, _, _, h => by cases h; exact ⟨rfl, Nat.lt_succ_self _⟩
  | .own t, _, _, _, h => by
    have := faultsF_some (t := t) h
    exact ⟨this.1, Nat.lt_succ_of_lt this.2⟩
  | .shut _, _, _, _, h => by cases h
  | .both a b, op, at_, s, h => by
    show (if firstF a = none then faultsF b else faultsF a) = _ ∧ sz s < sz a + sz b + 1
    simp only [firstF] at h
    cases ha : firstF a with
    | none =>
      rw [ha] at h
      rw [if_pos rfl]
      have := faultsF_some (t := b) h
      exact ⟨this.1, by omega⟩
    | some z =>
      rw [ha] at h
      rw [if_neg (by simp)]
      have := faultsF_some (t := a) (ha.trans h)
      exact ⟨this.1, by omega⟩

/-- what a call back for one Fault does: the state S goes on by one, the tree and the variable f stay -/
def EachPost (S : List (ByteArray × Int) → World → Prop) (w0 w : World) (gf : Nat) (l : List (ByteArray × Int)) (e : Ending) (w' : World) : Prop :=
  e = .returned (.tuple #[]) ∧ S l w' ∧ Below w0.heap.size w0 w' ∧ w'.heap[gf]? = w.heap[gf]?
set_option maxHeartbeats 8000000 in
theorem faults_any (F : Nat) (cap : Array Value) (S : List (ByteArray × Int) → World → Prop) (t : ErrT) (v : Value) (w0 W : World) (hv : TR w0 t v) (hbW : Below w0.heap.size w0 W) (hET : ErrType w0)
    (hF : ∀ args w, (callFunc F args).run Tryd.prog w = .ok (.enter F args) w) (h0 : S [] W)
    (hup : ∀ l w w', S l w → Below w.heap.size w w' → S l w') (hset : ∀ l w u, S l w → S l (w.setCell ⟨W.heap.size, 0, none⟩ u))
    (hC : ∀ l op at_ x g w, S l w → l.length + 1 ≤ (faultsF t).length → W.heap.size < w.heap.size → Below w0.heap.size w0 w → w0.heap[g]? = some (faultObj op at_ x) →
      Calls Tryd.prog F (#[.pointer (some ⟨g, 0, none⟩)] ++ cap) w (EachPost S w0 w W.heap.size (l ++ [(op, at_)]))) :
    Calls Tryd.prog 39 #[v, .func (.func F) #[] cap] W fun e w' => e = .returned (.tuple #[]) ∧ S (faultsF t) w' ∧ Below w0.heap.size w0 w' := by
  have HUP := Lib.hid hup
  have HSET := Lib.hid hset
  have HC := Lib.hid hC
  have HB := Lib.hid hbW
  have HET := Lib.hid hET
  have H0 := Lib.hid h0
  clear hup hset hC hbW hET h0
  go_enter Tryd.func39, Tryd.ntmps39
  go_wp2_with fail
  obtain ⟨gf, hgf⟩ : ∃ gf, W.heap.size = gf := ⟨_, rfl⟩
  obtain ⟨W1, hW1⟩ : ∃ W1, W.alloc (.cells #[.pointer none] 57) = W1 := ⟨_, rfl⟩
  rw [hgf] at HSET HC
  have hbA : Below W.heap.size W W1 := by rw [← hW1]; exact balloc (bnil W) _
  have hcA : W1.cell? ⟨gf, 0, none⟩ = some (.pointer none) := by rw [← hW1, ← hgf]; simp
  have hfA : W1.frozen? ⟨gf, 0, none⟩ = false := by rw [← hW1, ← hgf]; simp
  have HS1 := Lib.hid (HUP.out _ _ _ H0.out hbA)
  have HB1 := Lib.hid (HB.out.trans (hbA.mono HB.out.size))
  have HC1 := Lib.hid (And.intro hcA hfA)
  have HGL : Hid (w0.heap.size ≤ gf) := by show _ ≤ _; rw [← hgf]; exact HB.out.size
  rw [hW1]
  try simp only [hgf]
  clear hbA hcA hfA hW1 hgf H0
  go_loopw [0] (fun v wr => ∃ t' done fv, TR w0 t' v ∧ faultsF t = done ++ faultsF t' ∧ S done wr ∧ Below w0.heap.size w0 wr ∧ wr.cell? ⟨gf, 0, none⟩ = some fv ∧ wr.frozen? ⟨gf, 0, none⟩ = false) (fun v _ => tsz w0 v)
  case atStart => exact ⟨t, [], _, hv, rfl, HS1.out, HB1.out, HC1.out.1, HC1.out.2⟩
  case round =>
    clear hv
    obtain ⟨t', done, fv, hv, hdn, hs, hb, hc, hf⟩ := hrel
    have HD := Lib.hid (tsz_eq hv)
    have HDN := Lib.hid hdn
    have HS := Lib.hid hs
    have HBR := Lib.hid hb
    have HCF := Lib.hid (And.intro hc hf)
    have HV := Lib.hid hv
    clear hv hdn hs hb hc hf
    go_wp2_with fail
    refine (as_all w0 ⟨gf, 0, none⟩ fv HGL.out t' _ _ HV.out HBR.out HET.out HCF.out.1 HCF.out.2).mono ?_; rintro e w2 h
    rcases h with ⟨hn, rfl, hb2⟩ | ⟨op, at_, s, g, x, wm, hsm, rfl, hg, hts, hbm, rfl⟩
    · have hend : faultsF t = done := by rw [HDN.out, faultsF_none hn, List.append_nil]
      have HEND := Lib.hid hend
      have HB2 := Lib.hid hb2
      clear hn hend hb2
      go_wp2
      go_end0
      exact ⟨by first | rfl | skip, by rw [HEND.out]; exact HUP.out _ _ _ HS.out HB2.out, HBR.out.trans (HB2.out.mono HBR.out.size)⟩
    · have hfs := faultsF_some hsm
      have hln : done.length + 1 ≤ (faultsF t).length := by rw [HDN.out, hfs.1]; simp
      have HLN := Lib.hid hln
      clear hln
      obtain ⟨w3, h3⟩ : ∃ w3, wm.setCell ⟨gf, 0, none⟩ (.pointer (some ⟨g, 0, none⟩)) = w3 := ⟨_, rfl⟩
      have c3 : w3.cell? ⟨gf, 0, none⟩ = some (.pointer (some ⟨g, 0, none⟩)) := by rw [← h3]; exact World.cell?_setCell_same' _ _ _ (by rw [cpF hbm HCF.out.1]; rfl)
      have z3 : w3.frozen? ⟨gf, 0, none⟩ = false := by rw [← h3, World.frozen?_setCell, hbm.frozen (World.block_lt_of_cell? _ _ HCF.out.1)]; exact HCF.out.2
      have hb3 : Below w0.heap.size w0 w3 := by rw [← h3]; exact (HBR.out.trans (hbm.mono HBR.out.size)).setCell (p := ⟨gf, 0, none⟩) HGL.out _
      have hs3 : S done w3 := by rw [← h3]; exact HSET.out _ _ _ (HUP.out _ _ _ HS.out hbm)
      have hlt3 : gf < w3.heap.size := World.block_lt_of_cell? _ _ c3
      rw [h3]
      clear h3 hbm
      have HS3 := Lib.hid (And.intro hs3 (And.intro hlt3 hb3))
      have HX := Lib.hid (And.intro hfs (And.intro hg hts))
      have HZ3 := Lib.hid z3
      have HSM := Lib.hid hsm
      clear hs3 hlt3 hb3 hfs hg hts z3 hsm
      go_wp2_with fail
      refine (HC.out done op at_ x g _ HS3.out.1 HLN.out HS3.out.2.1 HS3.out.2.2 HX.out.2.1).mono ?_; rintro e w4 ⟨rfl, hs4, hb4, hgf4⟩
      have c4 : w4.cell? ⟨gf, 0, none⟩ = some (.pointer (some ⟨g, 0, none⟩)) := by rw [World.cell?_of_block (w := w3) hgf4]; exact c3
      have z4 : w4.frozen? ⟨gf, 0, none⟩ = false := by rw [World.frozen?_of_block (w := w3) hgf4]; exact HZ3.out
      have hx4 : w4.cell? ⟨g, 2, none⟩ = some x := cpF hb4 (cell_fault HX.out.2.1).2.2
      have HS4 := Lib.hid (And.intro hs4 (And.intro hb4 z4))
      have HC4 := Lib.hid c4
      clear hs4 hb4 hgf4 z4 c3
      go_wp2
      go_roundw
      case rel => exact ⟨s, done ++ [(op, at_)], _, HX.out.2.2, by rw [HDN.out, HX.out.1.1, List.append_assoc]; rfl, HS4.out.1, HS4.out.2.1, HC4.out, HS4.out.2.2⟩
      case measure => exact Nat.lt_of_le_of_lt (Nat.le_of_eq (tsz_eq (t := s) (show TR w0 s x from HX.out.2.2))) (by rw [HD.out]; exact HX.out.1.2)
end Go.Proofs.YtckipboebllkhaaDoor
