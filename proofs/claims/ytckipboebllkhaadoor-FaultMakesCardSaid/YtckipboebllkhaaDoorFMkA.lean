/- What a Fault over one of the errors says. -/
import Derived.Test.YtckipboebllkhaaDoorFltF
import Derived.Test.YtckipboebllkhaaDoorShelf
import Derived.Lib.ItoaLen
import Derived.Deep.RegionWith
import Derived.Deep.RegionHeld3
namespace Go.Proofs.YtckipboebllkhaaDoor
open Go.RowKit Go.Extern.Stop Go.Stop Go.Extern Go.Sort
set_option linter.unusedVariables false
set_option maxRecDepth 100000

theorem bgrow (w : World) (q : Nat) (os : Array Obj) : Below w.heap.size w (grow (w.drewN q) os) :=
  ⟨rfl, rfl, rfl, by simp [grow], fun i hi => by
    show ((w.drewN q).heap ++ os)[i]? = _
    rw [Array.getElem?_append_left (by show i < w.heap.size; omega)]
    rfl⟩
def Tab (w : World) : Prop := Lib.TabIs Tryd.prog w "internal/strconv.uint64pow10" .u64 Lib.pow10Tab
theorem Tab.up {w w' : World} (h : Tab w) (hb : Below w.heap.size w w') : Tab w' := by
  unfold Tab Lib.TabIs World.var? at *
  cases hg : Tryd.prog.globalNamed "internal/strconv.uint64pow10" with
  | none => rw [hg] at h; exact h
  | some g =>
    rw [hg] at h
    simp only [Option.bind_some] at h ⊢
    cases hh : w.heap[g]? with
    | none => rw [hh] at h; cases h
    | some o =>
      rw [hb.block g (Array.getElem?_eq_some_iff.1 hh).1]
      exact h
/-- what a Fault over one of the errors says -/
def faultText (op : ByteArray) (at_ : Int) (tx : ByteArray) : ByteArray := (op ++ ⟨#[32]⟩ ++ ⟨(Lib.itoa at_).toArray⟩) ++ (⟨#[58, 32]⟩ ++ tx)
theorem methodErrorE (v : Value) (w : World) : (Go.method 291 126 v "Error").run Tryd.prog w = .ok (120, v) w := by kernel_rfl
theorem methodErrorF (v : Value) (w : World) : (Go.method 291 57 v "Error").run Tryd.prog w = .ok (115, v) w := by kernel_rfl
set_option maxHeartbeats 4000000 in
theorem fault_error (g : Nat) (op tx : ByteArray) (at_ : Int) (a : Addr) (w : World) (hg : w.heap[g]? = some (faultObj op at_ (.iface 126 (.pointer (some a))))) (ha : w.cell? a = some (.string tx)) (hT : Tab w)
    (h0 : -9223372036854775808 ≤ at_) (h1 : at_ ≤ 9223372036854775807) (hop : op.size ≤ 140737488355328) (htx : tx.size ≤ 1000) :
    Calls Tryd.prog 115 #[.pointer (some ⟨g, 0, none⟩)] w fun e w' => e = .returned (.string (faultText op at_ tx)) ∧ Below w.heap.size w w' := by
  obtain ⟨c0, c1, c2⟩ := cell_fault hg
  have mE := methodErrorE
  have hil := Lib.itoa_length_le at_ h0 h1
  have hsz : (⟨(Lib.itoa at_).toArray⟩ : ByteArray).size ≤ 21 := by show ((Lib.itoa at_).toArray).size ≤ 21; simpa using hil
  have HI : Hid (∀ w' : World, Below w.heap.size w w' → Calls Tryd.prog 28 #[.int .i64 at_] w' fun e w2 => e = .returned (.string ⟨(Lib.itoa at_).toArray⟩) ∧ ∃ k os, w2 = grow (w'.drewN k) os) := fun w' hb => Tryd.strconv_Itoa at_ h0 h1 w' (hT.up hb)
  have hfe : faultText op at_ tx = (op ++ ⟨#[32]⟩ ++ ⟨(Lib.itoa at_).toArray⟩) ++ (⟨#[58, 32]⟩ ++ tx) := rfl
  have HFE := Lib.hid hfe
  clear hg hil hT h0 h1 hfe
  generalize faultText op at_ tx = ft at *
  generalize (⟨(Lib.itoa at_).toArray⟩ : ByteArray) = it at *
  go_enter Tryd.func115, Tryd.ntmps115
  go_wp2_with fail
  go_region_with (first
    | (go_at_call 28; refine (HI.out _ (Below.drew (bnil w))).mono ?_; rintro e w5 ⟨rfl, q5, os5, h5⟩; have HB5 := Lib.hid (show Below w.heap.size w w5 by rw [h5]; exact (Below.drew (bnil w)).trans ((bgrow w.drew q5 os5).mono (Nat.le_refl _))); clear h5; have d0 := cpF HB5.out c0; have d1 := cpF HB5.out c1; have d2 := cpF HB5.out c2; have da := cpF HB5.out ha))
  all_goals
    go_wp2
    go_ret
    exact ⟨by rw [HFE.out]; rfl, HB5.out⟩

end Go.Proofs.YtckipboebllkhaaDoor
