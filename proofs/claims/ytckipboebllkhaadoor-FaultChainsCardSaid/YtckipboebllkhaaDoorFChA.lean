/- edenref01.Norm: a node as it is taken. -/
import Derived.Test.YtckipboebllkhaaDoorFltF
import Derived.Deep.LoopGhost
namespace Go.Proofs.YtckipboebllkhaaDoor
open Go.RowKit Go.Extern.Stop Go.Stop Go.Extern
set_option linter.unusedVariables false
set_option maxRecDepth 100000

structure Nd where
  kind : Int
  num : Int
  at_ : Int
  a : Int
  b : Int
  op : ByteArray
/-- a slice of nodes reads as these -/
def NdR (w : World) (s : Option Addr) (n : Nat) (N : Nat → Nd) : Prop :=
  n = 0 ∨ ∃ b o, s = some ⟨b, o, none⟩ ∧ b < w.heap.size ∧ ∀ j, j < n → w.cell? ⟨b, o + j * 6, none⟩ = some (.int .i64 (N j).kind) ∧ w.cell? ⟨b, o + j * 6 + 1, none⟩ = some (.int .i64 (N j).num) ∧ w.cell? ⟨b, o + j * 6 + 2, none⟩ = some (.int .i64 (N j).at_) ∧ w.cell? ⟨b, o + j * 6 + 3, none⟩ = some (.int .i64 (N j).a) ∧ w.cell? ⟨b, o + j * 6 + 4, none⟩ = some (.int .i64 (N j).b) ∧ w.cell? ⟨b, o + j * 6 + 5, none⟩ = some (.string (N j).op)
theorem NdR.up {w w' : World} {s : Option Addr} {n : Nat} {N : Nat → Nd} (h : NdR w s n N) (hb : Below w.heap.size w w') : NdR w' s n N := by
  rcases h with h | ⟨b, o, h1, h2, h3⟩
  · exact .inl h
  · refine .inr ⟨b, o, h1, Nat.lt_of_lt_of_le h2 hb.size, fun j hj => ?_⟩
    obtain ⟨c0, c1, c2, c3, c4, c5⟩ := h3 j hj
    exact ⟨cpF hb c0, cpF hb c1, cpF hb c2, cpF hb c3, cpF hb c4, cpF hb c5⟩
theorem NdR.take {w : World} {s : Option Addr} {n k : Nat} {N : Nat → Nd} (h : NdR w s n N) (hk : k ≤ n) : NdR w s k N := by
  rcases h with h | ⟨b, o, h1, h2, h3⟩
  · exact .inl (by omega)
  · exact .inr ⟨b, o, h1, h2, fun j hj => h3 j (by omega)⟩
def nkind (N : Nat → Nd) (i : Nat) : Int := if 2 < ((N i).kind.tmod 7 + 7) % 7 ∧ i = 0 then 1 else ((N i).kind.tmod 7 + 7) % 7
def nplace (x : Int) (i : Nat) : Int := if 0 < i then (x.tmod i + i) % i else x
theorem nplace_lt {x : Int} {i : Nat} (h : 0 < i) : ∃ j : Nat, nplace x i = j ∧ j < i := by
  unfold nplace
  rw [if_pos h]
  have h1 := Int.emod_nonneg (x.tmod i + i) (show (i : Int) ≠ 0 by omega)
  have h2 := Int.emod_lt_of_pos (x.tmod i + i) (show (0 : Int) < (i : Int) by omega)
  exact ⟨((x.tmod i + i) % i).toNat, by omega, by omega⟩
theorem nkind_range (N : Nat → Nd) (i : Nat) : 0 ≤ nkind N i ∧ nkind N i < 7 := by
  unfold nkind
  split <;> omega
theorem nkind_zero (N : Nat → Nd) : nkind N 0 ≤ 2 := by
  unfold nkind
  split
  · omega
  · rename_i h
    omega
def ndV (N : Nat → Nd) (i : Nat) : Value := .agg #[.int .i64 (nkind N i), .int .i64 (N i).num, .int .i64 (N i).at_, .int .i64 (nplace (N i).a i), .int .i64 (nplace (N i).b i), .string (N i).op]
set_option maxHeartbeats 8000000 in
theorem norm_node (s : Option Addr) (n c i : Nat) (N : Nat → Nd) (w : World) (h : NdR w s n N) (hi : i < n) (hn : n ≤ 12) :
    Calls Tryd.prog 41 #[.slice s n c, .int .i64 (i : Nat)] w fun e w' => e = .returned (ndV N i) ∧ Below w.heap.size w w' := by
  have q1 := Int.lt_tmod_of_pos (N i).kind (show (0 : Int) < 7 by omega)
  have q2 := Int.tmod_lt_of_pos (N i).kind (show (0 : Int) < 7 by omega)
  rcases h with h | ⟨b, o, rfl, hb, hx⟩
  · omega
  obtain ⟨c0, c1, c2, c3, c4, c5⟩ := hx i hi
  clear hx
  have i0 : (0 : Int) ≤ (i : Int) := by omega
  have i1 : (i : Int) < (n : Int) := by omega
  have hnk : nkind N i = if 2 < ((N i).kind.tmod 7 + 7) % 7 ∧ i = 0 then 1 else ((N i).kind.tmod 7 + 7) % 7 := rfl
  have w7 : IntKind.i64.wrap ((N i).kind.tmod 7 + 7) = (N i).kind.tmod 7 + 7 := IntWalk.i64_in _ (by omega)
  obtain ⟨K, hK⟩ : ∃ K, ((N i).kind.tmod 7 + 7) % 7 = K := ⟨_, rfl⟩
  rw [hK] at hnk
  have HK := Lib.hid hK
  obtain ⟨A, hA⟩ : ∃ A, nplace (N i).a i = A := ⟨_, rfl⟩
  obtain ⟨B, hB⟩ : ∃ B, nplace (N i).b i = B := ⟨_, rfl⟩
  have HE : Hid (∀ k, nkind N i = k → ndV N i = .agg #[.int .i64 k, .int .i64 (N i).num, .int .i64 (N i).at_, .int .i64 A, .int .i64 B, .string (N i).op]) := fun k hk => by unfold ndV; rw [hk, hA, hB]
  obtain ⟨nd, hnd⟩ : ∃ nd, ndV N i = nd := ⟨_, rfl⟩
  rw [hnd] at HE ⊢
  have HNK : Hid (nkind N i = if 2 < K ∧ i = 0 then 1 else K) := hnk
  have e77 : ((N i).kind.tmod 7 + 7) % 7 = K := hK
  clear hnk hnd
  generalize (N i).kind = kx at *
  generalize (N i).a = ax at *
  generalize (N i).b = bx at *
  by_cases hi0 : i = 0
  · have hA2 : ax = A := by rw [← hA]; unfold nplace; rw [if_neg (by omega)]
    have hB2 : bx = B := by rw [← hB]; unfold nplace; rw [if_neg (by omega)]
    have b0 : ((i : Int) == 0) = true := by simp [hi0]
    have b1 : ¬ (0 : Int) < (i : Int) := by omega
    clear hA hB
    subst hA2 hB2
    by_cases hk2 : 2 < K
    · have hf := HE.out 1 (by rw [HNK.out, if_pos ⟨hk2, hi0⟩])
      have HF := Lib.hid hf
      clear hf hi0 HE HNK HK hK
      go_enter Tryd.func41, Tryd.ntmps41
      go_wp2
      refine bodyPost_ret (v := .agg #[.int .i64 1, .int .i64 (N i).num, .int .i64 (N i).at_, .int .i64 ax, .int .i64 bx, .string (N i).op]) (by simp [results, Tryd.results41, go_sem]) rfl ?_
      exact ⟨by rw [HF.out], balloc (balloc (bnil w) _) _⟩
    · have hf := HE.out K (by rw [HNK.out, if_neg (fun h => hk2 h.1)])
      have HF := Lib.hid hf
      clear hf hi0 HE HNK HK hK
      go_enter Tryd.func41, Tryd.ntmps41
      go_wp2
      refine bodyPost_ret (v := .agg #[.int .i64 K, .int .i64 (N i).num, .int .i64 (N i).at_, .int .i64 ax, .int .i64 bx, .string (N i).op]) (by simp [results, Tryd.results41, go_sem]) rfl ?_
      exact ⟨by rw [HF.out], balloc (balloc (bnil w) _) _⟩
  · have hA2 : (ax.tmod i + i) % i = A := by rw [← hA]; unfold nplace; rw [if_pos (by omega)]
    have hB2 : (bx.tmod i + i) % i = B := by rw [← hB]; unfold nplace; rw [if_pos (by omega)]
    have b0 : ((i : Int) == 0) = false := by rw [beq_eq_false_iff_ne]; omega
    have b1 : (0 : Int) < (i : Int) := by omega
    have b2 : (i : Int) ≠ 0 := by omega
    have r1 := Int.lt_tmod_of_pos ax b1
    have r2 := Int.tmod_lt_of_pos ax b1
    have r3 := Int.lt_tmod_of_pos bx b1
    have r4 := Int.tmod_lt_of_pos bx b1
    have wA : IntKind.i64.wrap (ax.tmod i + i) = ax.tmod i + i := IntWalk.i64_in _ (by omega)
    have wB : IntKind.i64.wrap (bx.tmod i + i) = bx.tmod i + i := IntWalk.i64_in _ (by omega)
    clear hA hB
    have hf := HE.out K (by rw [HNK.out, if_neg (fun h => hi0 h.2)])
    have HF := Lib.hid hf
    clear hf hi0 HE HNK HK hK
    by_cases hk2 : 2 < K
    · go_enter Tryd.func41, Tryd.ntmps41
      go_wp2
      refine bodyPost_ret (v := .agg #[.int .i64 K, .int .i64 (N i).num, .int .i64 (N i).at_, .int .i64 A, .int .i64 B, .string (N i).op]) (by simp [results, Tryd.results41, go_sem]) rfl ?_
      exact ⟨by rw [HF.out], balloc (balloc (bnil w) _) _⟩
    · go_enter Tryd.func41, Tryd.ntmps41
      go_wp2
      refine bodyPost_ret (v := .agg #[.int .i64 K, .int .i64 (N i).num, .int .i64 (N i).at_, .int .i64 A, .int .i64 B, .string (N i).op]) (by simp [results, Tryd.results41, go_sem]) rfl ?_
      exact ⟨by rw [HF.out], balloc (balloc (bnil w) _) _⟩
end Go.Proofs.YtckipboebllkhaaDoor
