/- The contract of edenlaw23.awake. -/
import Derived.Test.YtllngchcomiglaaDoorSame23
import Derived.WalkKit
import Derived.Deep.QuietTactic
import Derived.BigQuiet
import Derived.Lib.Hide
import Derived.Lib.SlBytesConst
namespace Go.Proofs.YtllngchcomiglaaDoor
open Go.RowKit
set_option linter.unusedVariables false
set_option maxRecDepth 100000


set_option maxHeartbeats 2000000 in
theorem awake_any (W : World) (R : Nat → Addr) (hG : Glob W R) :
    Calls Tryd.prog 8 #[] W fun e w' => e = .returned (.bool true) ∧ Below W.heap.size W w' := by
  have HG := Lib.hid hG; clear hG
  have hs : (strOfNums [69, 68, 2, 1, 1, 7, 0, 0, 0, 3]).toList = [69, 68, 2, 1, 1, 7, 0, 0, 0, 3] := by rw [ByteArray.toList_eq]; rfl
  have kc := fun (w : World) (C : Array Value) (n c : Nat) => Lib.run_convert_bytes_const (P := Tryd.prog) w 24 5 C n c Tryd.underlying24 Tryd.underlying5
  go_enter Tryd.func8, Tryd.ntmps8
  go_wp2_with (first
    | (go_at_call 9; refine (encode_ok 2 1 _ _ [(1, 7, 0), (0, 0, 3)] _ (rd_new rfl rfl) (by decide) (by decide) (by decide) (by decide) (by decide) (by decide)).mono ?_; rintro e w1 ⟨a1, c1, rfl, hown1, hb1⟩)
    | (go_at_call 10; refine (decode_ok _ _ _ [69, 68, 2, 1, 1, 7, 0] _ R (((HG.out.alloc _).below hb1 (Nat.le_refl _)).alloc _) rfl (rd_new rfl rfl) (by decide) (by decide) 2 1 [(1, 7, 0)] (by kernel_rfl)).mono ?_; rintro e w2 ⟨a2, c2, rfl, hown2, hb2⟩;
        have hR1 : Rd w2 a1 10 1 ([69, 68, 2, 1, 1, 7, 0, 0, 0, 3].map (Value.int .u8)) := ((((owns_rd hown1).2).below ((Below.refl _ _).alloc (Nat.le_refl _) _) (Nat.le_refl _)).below hb2 (Nat.le_refl _));
        have cv := conv_str Tryd.underlying24 Tryd.underlying5 Tryd.underlying9 (c := c1) hR1;
        obtain ⟨b, o, rfl, hbo, hcell⟩ := (owns_rd hown2).2.2.resolve_left (by decide);
        have x0 : w2.cell? ⟨b, o, none⟩ = some (.int .i64 1) := hcell 0 _ rfl; have x1 := hcell 1 _ rfl; have x2 := hcell 2 _ rfl; clear hcell))
  go_ret
  refine ⟨rfl, ?_⟩
  exact bstep (balloc (bstep (balloc (bnil _) _) hb1) _) hb2
end Go.Proofs.YtllngchcomiglaaDoor
