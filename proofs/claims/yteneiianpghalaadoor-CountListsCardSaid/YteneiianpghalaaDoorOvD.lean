/- overlap.Before: how many it tells. -/
import Derived.Test.YteneiianpghalaaDoorOvC
import Derived.Test.YteneiianpghalaaDoorWordE
import Derived.Deep.OwnRows
namespace Go.Proofs.YteneiianpghalaaDoor
open Go.RowKit
set_option linter.unusedVariables false
set_option maxRecDepth 100000

theorem on_all (V : World) (B k r T cT n cw M gd ga N : Nat) (aT aw : Option Addr) (gr : Nat → Nat) (tb wl : List Int)
    (k1 : 1 ≤ k) (k4 : k ≤ 4) (hN0 : 0 < N) (hTN : T = N * k) (hT256 : T ≤ 256) (hTc : T ≤ cT) (hn : n ≤ 256) (hM : M ≤ 256) (hVB : V.heap.size = B) (hTV : RK .i64 V aT T tb) (hWV : RK .i64 V aw n wl) (hy : DLay B gd ga n gr) :
    ∀ (d i : Nat), i + d = n → ∀ (W : World) (D : Nat → Nat → Bool) (ax : Option Addr) (nx cx u : Nat) (al : Option Addr) (L cl : Nat), u < N → nx + d ≤ 1000 → L ≤ M → Below B V W → B ≤ W.heap.size → DState W B k r aT T cT aw n cw M gd ga N gr D al L cl false → XOwn W B ax nx cx → (∀ i u, i < n → u < N → D i u = true → wayL k N tb (wl.drop i) u = 0) →
      Calls Tryd.prog 62 #[.pointer (some ⟨gd, 0, none⟩), .slice ax nx cx, .int .i64 u, .int .i64 i] W (OnPost B k r T cT n cw M gd ga N aT aw gr tb wl ax nx cx W al L cl (wayL k N tb (wl.drop i) u)) := by
  intro d
  induction d with
  | zero =>
    intro i hi W D ax nx cx u al L cl hu hnx hLM hbV hB hd hx hD
    obtain rfl : i = n := by omega
    have hwl := hWV.len
    have e : wayL k N tb (wl.drop i) u = 1 := by rw [hwl]; exact wayL_end u
    rw [e]
    exact on_leaf B k r T cT i cw M gd ga N aT aw gr tb wl D ax nx cx u W al L cl hn hM hLM (by omega) hB hy hd hx hD
  | succ d ih =>
    intro i hi W D ax nx cx u al L cl hu hnx hLM hbV hB hd hx hD
    refine on_step V B k r T cT n cw M gd ga N aT aw gr tb wl D ax nx cx u i W al L cl k1 k4 hN0 hTN hT256 hTc hn (by omega) hu hM hLM (by omega) hVB hTV hWV hbV hB hy hd hx hD ?_
    intro W' D' ax' cx' u' al' L' cl' hu' hL' hb' hB' hd' hx' hD'
    exact ih (i + 1) (by omega) W' D' ax' (nx + 1) cx' u' al' L' cl' hu' (by omega) hL' hb' hB' hd' hx' hD'

/-- the next word, of whatever numbers -/
theorem next_whatever (k : Int) (a : Option Addr) (n c : Nat) (l : List Int) (W : World) (R : Nat → Addr) (hG : Glob W R) (hR : RK .i64 W a n l) (hm : n ≤ 1000) (hnc : n ≤ c) (hcm : c ≤ maxLen) (hcap : a = none → c = 0) :
    Calls Tryd.prog 19 #[.int .i64 k, .slice a n c] W fun e w' => Below W.heap.size W w' ∧ ((∃ g, e = .returned (.tuple #[.slice none 0 0, .iface 120 (.pointer (some ⟨g, 0, none⟩))])) ∨ ∃ a' n' c', e = .returned (.tuple #[.slice a' n' c', .nilIface]) ∧ n' ≤ n + 1 ∧ XOwn w' W.heap.size a' n' c') := by
  cases he : chkErr k l with
  | some x =>
    refine (next_err0 k a n c l W R hG hR (by unfold maxLen; omega) x he).mono ?_
    rintro e w' ⟨g, rfl, _, hb⟩
    exact ⟨hb, .inl ⟨g, rfl⟩⟩
  | none =>
    rcases lastUp_or k l with ⟨j, hj⟩ | hno
    · refine (next_up k a n c l W R hG hR (by omega) hnc hcap he j hj).mono ?_
      rintro e w' ⟨a', c', rfl, ho, hb⟩
      exact ⟨hb, .inr ⟨a', n, c', rfl, by omega, _, ho⟩⟩
    · refine (next_all k a n c l W R hG hR (by omega) hnc hcap he hno).mono ?_
      rintro e w' ⟨h1, _⟩
      obtain ⟨a', c', rfl, ho, hb⟩ := h1 (by omega)
      exact ⟨hb, .inr ⟨a', n + 1, c', rfl, Nat.le_refl _, _, ho⟩⟩
end Go.Proofs.YteneiianpghalaaDoor
