/- Plain: the search for a way, look by look; how long the ways back are. Package twins: meet. Package pairs: Words along a way. -/
import Derived.Test.YtiglilecmieelaaGreatDoorEdnS
import Derived.Test.YtiglilecmieelaaGreatDoorGraX
import Derived.Test.YtiglilecmieelaaGreatDoorTwA
import Derived.Test.YtiglilecmieelaaGreatDoorRepA
import Derived.Deep.LoopGhost
import Derived.Test.YtiglilecmieelaaGreatDoorIdx
import Derived.Deep.RegionHeld3
namespace Go.Proofs.YtiglilecmieelaaGreatDoor
set_option linter.unusedVariables false

theorem diag_succ (N u : Nat) : ((List.range (u + 1)).map fun u => u * N + u) = ((List.range u).map fun u => u * N + u) ++ [u * N + u] := by
  rw [List.range_succ, List.map_append]; rfl
section
variable {k N : Nat} {lab : Nat → Nat}
theorem scan_take {v j : Nat} {l : List Nat} {s : List Int × List Nat} (h : j < l.length) : scanM N v (l.take (j + 1)) s = stepM N v (scanM N v (l.take j) s) (l.getD j 0) := by
  unfold scanM
  rw [List.take_succ_eq_append_getElem h, List.foldl_append, List.getD_eq_getElem?_getD, List.getElem?_eq_getElem h]
  rfl
/-- the ways back are no longer than the queue -/
def CB (k N : Nat) (lab : Nat → Nat) (s : List Int × List Nat) : Prop := ∀ u ∈ s.2, ∃ l, Ch N (PE k N lab) s.1 u l ∧ l.length ≤ s.2.length
theorem cb_start : CB k N lab (List.replicate (N * N) (-1), diagL N) := by
  have h0 : ∀ t, (List.replicate (N * N) (-1 : Int)).getD t (-1) = -1 := fun t => by
    rw [List.getD_eq_getElem?_getD, List.getElem?_replicate]
    split <;> rfl
  intro u hu
  have hu' : u ∈ diagL N := hu
  refine ⟨[u], .root (diag_not hu') ?_, ?_⟩
  · show List.getD _ u (-1) < 0
    rw [h0]; decide
  · show 1 ≤ (diagL N).length
    exact List.length_pos_of_mem hu'
theorem cb_step (hN : 0 < N) {s : List Int × List Nat} (hI : MInv k N lab s) (h : CB k N lab s) {v t : Nat} (hv : v ∈ s.2) (hpe : PE k N lab v t = true) : CB k N lab (stepM N v s t) := by
  unfold stepM
  by_cases hc : Off N t ∧ s.1.getD t (-1) < 0
  · rw [if_pos hc]
    have ht := pe_lt hN hpe
    intro u hu
    have keep : ∀ w ∈ s.2, ∃ l, Ch N (PE k N lab) (s.1.set t (v : Int)) w l ∧ l.length ≤ s.2.length := fun w hw => by
      obtain ⟨l, hl, h2⟩ := h w hw
      exact ⟨l, ch_set hc.1 hc.2 hl, h2⟩
    have hlen : (s.2 ++ [t]).length = s.2.length + 1 := by simp
    rcases List.mem_append.1 hu with h' | h'
    · obtain ⟨l, hl, h2⟩ := keep u h'
      exact ⟨l, hl, by show _ ≤ (s.2 ++ [t]).length; omega⟩
    · rw [List.mem_singleton.1 h']
      obtain ⟨l, hl, h2⟩ := keep v hv
      refine ⟨t :: l, .link ?_ hpe hl, by show _ ≤ (s.2 ++ [t]).length; rw [List.length_cons]; omega⟩
      rw [getD_set, if_pos ⟨rfl, by rw [hI.len]; exact ht⟩]
  · rw [if_neg hc]; exact h
theorem cb_scan (hN : 0 < N) {v : Nat} : ∀ {l : List Nat} {s : List Int × List Nat}, MInv k N lab s → CB k N lab s → v ∈ s.2 → (∀ t ∈ l, PE k N lab v t = true) → CB k N lab (scanM N v l s)
  | [], s, _, h, _, _ => h
  | t :: l, s, hI, h, hv, hp => cb_scan hN (l := l) (s := stepM N v s t) (minv_step hN hI hv (hp t (List.mem_cons_self ..))) (cb_step hN hI h hv (hp t (List.mem_cons_self ..))) (stepM_mem hv) fun u hu => hp u (List.mem_cons_of_mem _ hu)
theorem mrun_cb {g : Nat → List Nat} (hN : 0 < N) (hg : ∀ v, v < N * N → ∀ t, t ∈ g v ↔ PE k N lab v t = true) {i : Nat} {s : List Int × List Nat} (h : MRun N g i s) : CB k N lab s := by
  induction h with
  | start => exact cb_start
  | @next i s hrun hi hh ih =>
    obtain ⟨hI, _, _⟩ := mrun_inv hN hg hrun
    have hv := getD_mem hi
    exact cb_scan hN hI ih hv fun t ht => (hg _ (minv_que_lt hN hI _ hv) t).1 ht
/-- no look so far came to an end on the diagonal -/
def NoHit (N v : Nat) (l : List Nat) (j : Nat) : Prop := Off N v → ∀ m, m < j → Off N (l.getD m 0)
theorem nohit_zero (N v : Nat) (l : List Nat) : NoHit N v l 0 := fun _ m hm => absurd hm (by omega)
theorem nohit_succ {v j : Nat} {l : List Nat} (h : NoHit N v l j) (h2 : Off N v → Off N (l.getD j 0)) : NoHit N v l (j + 1) := fun ho m hm => by
  rcases Nat.lt_succ_iff_lt_or_eq.1 hm with h3 | rfl
  · exact h ho m h3
  · exact h2 ho
theorem nohit_end {v : Nat} {l : List Nat} (h : NoHit N v l l.length) : hitM N v l = false := by
  unfold hitM
  by_cases ho : Off N v
  · rw [Bool.and_eq_false_iff]
    right
    rw [List.any_eq_false]
    intro t ht
    obtain ⟨j, hj, rfl⟩ := List.getElem_of_mem ht
    have := h ho j hj
    rw [List.getD_eq_getElem?_getD, List.getElem?_eq_getElem hj] at this
    simpa using this
  · rw [decide_eq_false ho, Bool.false_and]
/-- the rest of a way back: behind its end stands a number below 0 -/
def ChN (N : Nat) (E : Nat → Nat → Bool) (came : List Int) (z : Int) : List Nat → Prop
  | [] => z < 0
  | x :: l => z = (x : Int) ∧ Ch N E came x (x :: l)
theorem chN_of {E : Nat → Nat → Bool} {came : List Int} {x : Nat} {l : List Nat} (h : Ch N E came x l) : ChN N E came x l := by
  obtain ⟨_, l', rfl⟩ := ch_way h
  exact ⟨rfl, h⟩
theorem chN_next {E : Nat → Nat → Bool} {came : List Int} {z : Int} {x : Nat} {l : List Nat} (h : ChN N E came z (x :: l)) : ChN N E came (came.getD x (-1)) l := by
  obtain ⟨_, h2⟩ := h
  cases h2 with
  | root h1 h3 => exact h3
  | link e he h3 => rw [e]; exact chN_of h3
end
end Go.Proofs.YtiglilecmieelaaGreatDoor
namespace Go.Proofs.YtiglilecmieelaaGreatDoor
open Go.RowKit
set_option linter.unusedVariables false
set_option maxRecDepth 100000

/-- numbers as cells -/
def natV (l : List Nat) : List Value := l.map fun x : Nat => Value.int .i64 (x : Int)
theorem natV_app (l : List Nat) (x : Nat) : natV (l ++ [x]) = natV l ++ [.int .i64 (x : Int)] := by simp [natV]
theorem natV_map (l : List Nat) : natV l = (l.map fun x : Nat => (x : Int)).map (Value.int .i64) := by simp [natV]
theorem natV_len (l : List Nat) : (natV l).length = l.length := by simp [natV]
theorem natV_at {l : List Nat} {i : Nat} (h : i < l.length) : (natV l)[i]? = some (.int .i64 ((l.getD i 0 : Nat) : Int)) := by
  simp [natV, h]
theorem ints_at {l : List Int} {i : Nat} (d : Int) (h : i < l.length) : (l.map (Value.int .i64))[i]? = some (.int .i64 (l.getD i d)) := by
  simp [h]
theorem rep_neg (M : Nat) : repL [-1] M = List.replicate M (-1) := by
  apply List.ext_getElem
  · simp [repL]
  · intro i h1 h2
    simp [repL, Nat.mod_one]
/-- what the search keeps in memory -/
structure MSt (w : World) (B gc cc hq M : Nat) (s : List Int × List Nat) (aq : Option Addr) (nq cq : Nat) : Prop where
  came : w.ownsRow B 3 1 (.slice (some ⟨gc, 0, none⟩) M cc) M (s.1.map (Value.int .i64))
  que : w.ownsRow hq 3 1 (.slice aq nq cq) nq (natV s.2)
  lt : gc < hq
  size : hq ≤ w.heap.size
theorem MSt.up {w w' : World} {B gc cc hq M : Nat} {s : List Int × List Nat} {aq : Option Addr} {nq cq : Nat} (h : MSt w B gc cc hq M s aq nq cq) (hb : Below w.heap.size w w') : MSt w' B gc cc hq M s aq nq cq :=
  ⟨owns_up h.came hb, owns_up h.que hb, h.lt, Nat.le_trans h.size hb.size⟩
theorem MSt.len {w : World} {B gc cc hq M : Nat} {s : List Int × List Nat} {aq : Option Addr} {nq cq : Nat} (h : MSt w B gc cc hq M s aq nq cq) : nq = s.2.length ∧ s.1.length = M := by
  have h1 := h.que.1
  have h2 := h.came.1
  rw [natV_len] at h1
  simp at h2
  omega
theorem MSt.cell {w : World} {B gc cc hq M : Nat} {s : List Int × List Nat} {aq : Option Addr} {nq cq : Nat} (h : MSt w B gc cc hq M s aq nq cq) {t : Nat} (ht : t < M) : w.cell? ⟨gc, t, none⟩ = some (.int .i64 (s.1.getD t (-1))) ∧ w.frozen? ⟨gc, t, none⟩ = false :=
  ⟨(h.came.cellAt t (by omega)).trans (ints_at (-1) (by have := h.len.2; omega)), h.came.frozenAt t⟩
/-- a look that goes on: a mark, and one more in the queue -/
theorem MSt.mark {w w' : World} {B gc cc hq M N v t : Nat} {s : List Int × List Nat} {aq a' : Option Addr} {nq cq c' : Nat} (h : MSt w B gc cc hq M s aq nq cq) (hc : Off N t ∧ s.1.getD t (-1) < 0)
    (ha : Appended hq 3 1 (w.setCell ⟨gc, t, none⟩ (.int .i64 v)) w' (.slice aq nq cq) (.slice a' (nq + 1) c') nq 1 (natV s.2) [.int .i64 t]) : MSt w' B gc cc hq M (stepM N v s t) a' (nq + 1) c' := by
  have h1 := own_set h.came t (.int .i64 (v : Int))
  rw [← List.map_set] at h1
  unfold stepM
  rw [if_pos hc]
  refine ⟨own_hp h1 fun b hb => ?_, ?_, h.lt, Nat.le_trans h.size (by have := ha.grew; simpa [World.setCell] using this)⟩
  · have e : b = gc := by simpa [Value.ownBlock] using hb.symm
    subst e
    exact ha.below.block _ h.lt
  · have h2 := ha.own
    rw [← natV_app] at h2
    exact h2
theorem MSt.que_set {w : World} {B gc cc hq M t : Nat} {s : List Int × List Nat} {aq : Option Addr} {nq cq : Nat} (h : MSt w B gc cc hq M s aq nq cq) (u : Value) : (w.setCell ⟨gc, t, none⟩ u).ownsRow hq 3 1 (.slice aq nq cq) nq (natV s.2) :=
  own_set_other h.que (fun e => by have h1 := (h.que.lt gc e).1; have h2 := h.lt; omega) u
theorem adjI_at (k N : Nat) (tb : List Int) (v : Nat) {j : Nat} (h : j < (adjF k N (labT tb) v).length) : ((adjI k N tb v).map (Value.int .i64))[j]? = some (.int .i64 (((adjF k N (labT tb) v).getD j 0 : Nat) : Int)) := by
  simp [adjI, h]
theorem own_leC {w : World} {base sz n c : Nat} {e : TypeId} {a : Option Addr} {cs : List Value} (h : w.ownsRow base e sz (.slice a n c) n cs) : n ≤ c := by
  rcases h.2 with ⟨h1, _⟩ | ⟨g, cap, cur, h1, _, _, h3, _⟩
  · cases h1; exact Nat.le_refl _
  · cases h1; exact h3
theorem meet_two {k N : Nat} {lab : Nat → Nat} {g : Nat → List Nat} {way : List Nat} (h : MeetRes k N lab g way) : way = [] ∨ 2 ≤ way.length := by
  rcases h with ⟨rfl, _⟩ | ⟨i, s, j, l, _, _, _, _, _, _, hch, rfl⟩
  · exact .inl rfl
  · obtain ⟨_, l', rfl⟩ := ch_way hch
    exact .inr (by simp)
theorem off_bne (N v : Nat) : (((v / N : Nat) : Int) != ((v % N : Nat) : Int)) = decide (Off N v) := by
  by_cases h : Off N v
  · rw [decide_eq_true h]
    unfold Off at h
    have h2 : ((v / N : Nat) : Int) ≠ ((v % N : Nat) : Int) := by omega
    simpa using h2
  · rw [decide_eq_false h]
    unfold Off at h
    have h2 : v / N = v % N := by omega
    rw [h2]; simp
theorem off_beq (N v : Nat) : (((v / N : Nat) : Int) == ((v % N : Nat) : Int)) = !decide (Off N v) := by
  rw [← off_bne]; simp [bne]
set_option maxHeartbeats 8000000 in
theorem meet_run (k N M gG : Nat) (tb : List Int) (W : World) (B0 : Nat) (hg : GraphR W B0 gG k N tb) (hM : N * N = M) (hN0 : 0 < N) (hN128 : N ≤ 128) :
    Calls Tryz.prog 14 #[.slice (some ⟨gG, 0, none⟩) M M] W fun e w' => ∃ (way : List Nat) (a : Option Addr) (n c : Nat), e = .returned (.slice a n c) ∧ MeetRes k N (labT tb) (adjF k N (labT tb)) way ∧ RK .i64 w' a n (way.map fun x : Nat => (x : Int)) ∧ n ≤ c ∧ n ≤ 20000 ∧ Below W.heap.size W w' := by
  have hM2 : M ≤ 16384 := by rw [← hM]; exact Nat.le_trans (Nat.mul_le_mul hN128 hN128) (by decide)
  have hM0 : 0 < M := by rw [← hM]; exact Nat.mul_pos hN0 hN0
  have HTN := Lib.hid (tnodes_ok N M W hM hN0 (by omega))
  have HM := Lib.hid hM
  have HGR : Hid (∃ rw_, RR W B0 gG M 22 3 1 rw_ (cntG k N tb M) (csG k N tb M)) := by
    show ∃ _, _
    obtain ⟨rw_, h⟩ := hg
    rw [hM] at h
    exact ⟨rw_, h⟩
  have HADJ : Hid (∀ v, v < N * N → ∀ t, t ∈ adjF k N (labT tb) v ↔ PE k N (labT tb) v t = true) := fun v _ t => adjF_mem hN0 v t
  clear hM hg
  obtain ⟨w1, hw1⟩ : ∃ w1, W.alloc (.cells #[.int .i64 (-1)] 3) = w1 := ⟨_, rfl⟩
  have hb1 : Below W.heap.size W w1 := by rw [← hw1]; exact balloc (bnil W) _
  have hr1 : RK .i64 w1 (some ⟨W.heap.size, 0, none⟩) 1 [-1] := by rw [← hw1]; exact rk_new rfl rfl rfl
  have HRP := Lib.hid (repeat_any (some ⟨W.heap.size, 0, none⟩) 1 1 M [-1] w1 hr1 (by decide) (by decide) (by omega))
  have HB1 := Lib.hid hb1
  have HW1 := Lib.hid hw1
  clear hb1 hr1 hw1
  go_enter Tryz.func14, Tryz.ntmps14
  go_wp2_with fail
  refine HTN.out.mono ?_; rintro e w' ⟨rfl, rfl⟩
  go_wp2_with fail
  rw [HW1.out]
  refine HRP.out.mono ?_; rintro e w2 ⟨a2, c2, rfl, ho2, hb2⟩
  rw [Nat.one_mul, rep_neg] at ho2
  rw [Nat.one_mul]
  obtain ⟨gc, rfl, hgc1, hgc2⟩ := own_form ho2 hM0
  have HBW2 : Hid (Below w'.heap.size w' w2) := bstep HB1.out hb2
  have HO2 : Hid (w2.ownsRow w'.heap.size 3 1 (.slice (some ⟨gc, 0, none⟩) M c2) M ((List.replicate M (-1)).map (Value.int .i64))) := owns_base ho2 HB1.out.size
  clear ho2 hb2 hgc1
  obtain ⟨hq, hhq⟩ : ∃ hq, w2.heap.size = hq := ⟨_, rfl⟩
  have HQ := Lib.hid hhq
  rw [hhq] at hgc2
  clear hhq
  go_wp2_with fail
  go_loopw [5, 22] (fun qv iv wr => ∃ (u : Nat) (aq : Option Addr) (cq : Nat), u ≤ N ∧ iv = .int .i64 u ∧ qv = .slice aq u cq ∧ wr.ownsRow hq 3 1 (.slice aq u cq) u (natV ((List.range u).map fun u => u * N + u)) ∧ Below hq w2 wr) (fun _ iv _ => N - (intOf iv).toNat)
  case atStart => exact ⟨0, none, 0, Nat.zero_le _, rfl, rfl, World.ownsRow_nil _ _ _ _, by rw [← HQ.out]; exact bnil w2⟩
  case round =>
    obtain ⟨u, aq, cq, hu, rfl, rfl, hoq, hb⟩ := hrel
    have hsz : hq ≤ wr.heap.size := by have := hb.size; rw [HQ.out] at this; exact this
    have HOQ := Lib.hid hoq
    have HBQ := Lib.hid hb
    clear hoq hb
    by_cases hlt : u < N
    · have q0 : (u : Int) < (N : Int) := by omega
      obtain ⟨P, hP⟩ : ∃ P, u * N = P := ⟨_, rfl⟩
      have hPI : (u : Int) * (N : Int) = (P : Int) := by rw [← hP, Int.natCast_mul]
      have hPl : P ≤ 16384 := by rw [← hP]; exact Nat.le_trans (Nat.mul_le_mul (show u ≤ 128 by omega) hN128) (by decide)
      have q5 : IntKind.i64.wrap (P : Int) = (P : Int) := IntWalk.i64_in _ (by omega)
      have q6 : IntKind.i64.wrap ((P : Int) + (u : Int)) = ((P + u : Nat) : Int) := by rw [IntWalk.i64_in _ (by omega)]; omega
      have HP := Lib.hid hP
      clear hP
      go_wp2_with (first
        | (at_builtin; refine apl rfl _ _ _ rfl hq et_int _ u _ HOQ.out rfl 1 _ _ rfl rfl rfl rfl (by unfold maxLen; omega) (by omega) hsz ?_; intro a7 c7 w7 h7; have HA7 := Lib.hid h7; clear h7))
      have ho7 : w7.ownsRow hq 3 1 (.slice a7 (u + 1) c7) (u + 1) (natV ((List.range (u + 1)).map fun u => u * N + u)) := by
        have := HA7.out.own
        rw [diag_succ, natV_app, HP.out]
        exact this
      go_roundw
      case measure => simp [intOf]; omega
      case rel => exact ⟨u + 1, a7, c7, by omega, by go_num, rfl, ho7, HBQ.out.trans HA7.out.below⟩
    · obtain rfl : u = N := by omega
      have q0 : ¬ (u : Int) < (u : Int) := by omega
      have HST : Hid (MSt wr w'.heap.size gc c2 hq M (List.replicate (u * u) (-1), diagL u) aq u cq) := by
        refine ⟨?_, HOQ.out, hgc2, hsz⟩
        rw [HM.out]
        refine own_hp HO2.out fun b hb => ?_
        have e : b = gc := by simpa [Value.ownBlock] using hb.symm
        subst e
        exact HBQ.out.block _ hgc2
      have hbW : Below w'.heap.size w' wr := HBW2.out.trans (HBQ.out.mono (by rw [← HQ.out]; exact HBW2.out.size))
      have HBW := Lib.hid hbW
      clear hbW HOQ HBQ HO2 hsz
      go_wp2_with fail
      clear q0
      go_loopw [5, 7] (fun qv iv wr => ∃ (i : Nat) (s : List Int × List Nat) (aq : Option Addr) (lq cq : Nat), i ≤ lq ∧ iv = .int .i64 i ∧ qv = .slice aq lq cq ∧ MRun u (adjF k u (labT tb)) i s ∧ MSt wr w'.heap.size gc c2 hq M s aq lq cq ∧ Below w'.heap.size w' wr) (fun _ iv _ => 20000 - (intOf iv).toNat)
      case atStart => exact ⟨0, _, aq, u, cq, Nat.zero_le _, rfl, rfl, .start, HST.out, HBW.out⟩
      case round =>
        clear HST HBW hu
        obtain ⟨i, s, aq, lq, cq, hi, rfl, rfl, hrun, hst, hbw⟩ := hrel
        have hinv := mrun_inv hN0 HADJ.out hrun
        have hcb := mrun_cb hN0 HADJ.out hrun
        have hql := minv_len hN0 hinv.1
        have hqn := hst.len
        rw [HM.out, ← hqn.1] at hql
        have HINV := Lib.hid hinv.1
        have HCB := Lib.hid hcb
        have HRUN := Lib.hid hrun
        have HST := Lib.hid hst
        have HBW := Lib.hid hbw
        have HQN := Lib.hid hqn.1
        clear hrun hbw hinv hqn hcb
        by_cases hin : i < lq
        · have q0 : (i : Int) < (lq : Int) := by omega
          have q1 : (0 : Int) ≤ (i : Int) := by omega
          have hi2 : i < s.2.length := by rw [← HQN.out]; exact hin
          obtain ⟨gq, rfl, _, _⟩ := own_form hst.que (by omega)
          have cq0 := (hst.que.cellAt i (by omega)).trans (natV_at hi2)
          have hvm := getD_mem hi2
          have hvl := minv_que_lt hN0 HINV.out _ hvm
          rw [HM.out] at hvl
          obtain ⟨v, hv⟩ : ∃ v, s.2.getD i 0 = v := ⟨_, rfl⟩
          rw [hv] at cq0 hvm hvl
          have HVM := Lib.hid hvm
          have HV := Lib.hid hv
          have HI2 := Lib.hid hi2
          clear hst hvm hv hi2
          have eq1 : (v : Int) / (u : Int) = ((v / u : Nat) : Int) := by simp
          have eq2 : (v : Int) % (u : Int) = ((v % u : Nat) : Int) := by simp
          have v0 : (0 : Int) ≤ (v : Int) := by omega
          have v1 : (v : Int) < (M : Int) := by omega
          have u0 : (0 : Int) < (u : Int) := by omega
          have hoff := off_bne u v
          obtain ⟨ap, hap⟩ : ∃ ap, decide (Off u v) = ap := ⟨_, rfl⟩
          rw [hap] at hoff
          have HAP := Lib.hid hap
          clear hap
          have hx1 : v / u ≤ v := Nat.div_le_self _ _
          generalize v / u = x1 at eq1 hoff hx1
          have eq3 : IntKind.i64.wrap (x1 : Int) = (x1 : Int) := IntWalk.i64_in _ (by omega)
          generalize v % u = x2 at eq2 hoff
          obtain ⟨rG, hrG⟩ := HGR.out
          obtain ⟨ar, cr, hrv⟩ := own_wf (hrG.row v hvl)
          have crow := (hrG.up HBW.out).cell hvl
          have hrow := hrG.row v hvl
          have hcn : cntG k u tb M v = (adjF k u (labT tb) v).length := by simp [cntG, hvl, adjI]
          have hcs : csG k u tb M v = (adjI k u tb v).map (Value.int .i64) := by simp [csG, hvl]
          rw [hcn] at hrv
          rw [hrv, hcn, hcs] at hrow
          rw [hrv] at crow
          obtain ⟨L, hL⟩ : ∃ L, (adjF k u (labT tb) v).length = L := ⟨_, rfl⟩
          rw [hL] at hrow crow
          have HL := Lib.hid hL
          have HROW := Lib.hid hrow
          clear hrow hcn hcs hrv hL hrG
          go_wp2_with fail
          go_quiet (fail)
          obtain ⟨wq, hwq⟩ : ∃ wq, wr.drewN nq = wq := ⟨_, rfl⟩
          have hbq : Below wr.heap.size wr wq := by rw [← hwq]; exact bdrewN (bnil wr) nq
          have HST1 := Lib.hid (HST.out.up hbq)
          have HBW1 := Lib.hid (bstep HBW.out hbq)
          have crow := cpE hbq crow
          rw [hwq]
          clear hbq hwq cq0 HST HBW
          go_wp2_with fail
          clear crow
          go_loopw [5, 56] (fun qv jv wr => ∃ (j : Nat) (aq : Option Addr) (lq cq : Nat), j ≤ L ∧ jv = .int .i64 j ∧ qv = .slice aq lq cq ∧ NoHit u v (adjF k u (labT tb) v) j ∧ MSt wr w'.heap.size gc c2 hq M (scanM u v ((adjF k u (labT tb) v).take j) s) aq lq cq ∧ Below w'.heap.size w' wr) (fun _ jv _ => L - (intOf jv).toNat)
          case atStart => exact ⟨0, _, lq, cq, Nat.zero_le _, rfl, rfl, nohit_zero _ _ _, HST1.out, HBW1.out⟩
          case round =>
            clear HST1 HBW1
            obtain ⟨j, aq, lr, cq, hj, rfl, rfl, hnh, hst, hbw⟩ := hrel
            have HNH := Lib.hid hnh
            have HBW := Lib.hid hbw
            clear hnh hbw
            by_cases hjL : j < L
            · have j0 : (0 : Int) ≤ (j : Int) := by omega
              have j1 : (j : Int) < (L : Int) := by omega
              have hjl : j < (adjF k u (labT tb) v).length := by rw [HL.out]; exact hjL
              have hrow := owns_up HROW.out HBW.out
              obtain ⟨gr, rfl, _, _⟩ := own_form hrow (by omega)
              have ct0 := (hrow.cellAt j (by omega)).trans (adjI_at k u tb v hjl)
              have htm := getD_mem hjl
              have hpe := (HADJ.out v (by rw [HM.out]; exact hvl) _).1 htm
              have htl := pe_lt hN0 hpe
              rw [HM.out] at htl
              have HSC := Lib.hid (scan_take (N := u) (v := v) (s := s) hjl)
              have HI2S := Lib.hid (minv_scan (l := (adjF k u (labT tb) v).take j) hN0 HINV.out HVM.out (fun t ht => (HADJ.out v (by rw [HM.out]; exact hvl) t).1 (take_mem ht)))
              have HCBS := Lib.hid (cb_scan (l := (adjF k u (labT tb) v).take j) hN0 HINV.out HCB.out HVM.out (fun t ht => (HADJ.out v (by rw [HM.out]; exact hvl) t).1 (take_mem ht)))
              have HVS := Lib.hid ((scanM_pre (N := u) (v := v) (l := (adjF k u (labT tb) v).take j) (s := s)).subset HVM.out)
              have hL16 : L ≤ M := by
                rw [← HL.out, ← HM.out]
                unfold adjF
                exact Nat.le_trans (List.length_filter_le ..) (by rw [List.length_range]; exact Nat.le_refl _)
              have q8 : IntKind.i64.wrap ((j : Int) + 1) = ((j + 1 : Nat) : Int) := by rw [IntWalk.i64_in _ (by omega)]; omega
              obtain ⟨t, ht⟩ : ∃ t, (adjF k u (labT tb) v).getD j 0 = t := ⟨_, rfl⟩
              rw [ht] at ct0 htl hpe HSC
              have HT := Lib.hid ht
              have HPE := Lib.hid hpe
              have HJL := Lib.hid hjl
              obtain ⟨S, hS⟩ : ∃ S, scanM u v ((adjF k u (labT tb) v).take j) s = S := ⟨_, rfl⟩
              rw [hS] at HI2S HCBS HVS hst HSC
              have HS := Lib.hid hS
              obtain ⟨cc0, fz0⟩ := hst.cell htl
              have hlr : lr ≤ 16512 := by
                have h1 := minv_len hN0 HI2S.out
                have h2 := hst.len.1
                rw [HM.out] at h1
                omega
              have hszw := hst.size
              have HSTS := Lib.hid hst
              clear hrow htm hpe hjl ht hS hst
              have e3 : (t : Int) / (u : Int) = ((t / u : Nat) : Int) := by simp
              have e4 : (t : Int) % (u : Int) = ((t % u : Nat) : Int) := by simp
              have t0 : (0 : Int) ≤ (t : Int) := by omega
              have t1 : (t : Int) < (M : Int) := by omega
              have ho2 := off_bne u t
              have ho3 := off_beq u t
              have hy1 : t / u ≤ t := Nat.div_le_self _ _
              generalize t / u = y1 at e3 ho2 ho3 hy1
              have e5 : IntKind.i64.wrap (y1 : Int) = (y1 : Int) := IntWalk.i64_in _ (by omega)
              generalize t % u = y2 at e4 ho2 ho3
              by_cases hot : Off u t
              · rw [decide_eq_true hot] at ho2 ho3
                replace ho3 : ((y1 : Int) == (y2 : Int)) = false := ho3
                obtain ⟨z, hz⟩ : ∃ z, S.1.getD t (-1) = z := ⟨_, rfl⟩
                rw [hz] at cc0
                by_cases hz0 : z < 0
                · have hdz : decide (z < 0) = true := decide_eq_true hz0
                  have HCND : Hid (Off u t ∧ S.1.getD t (-1) < 0) := ⟨hot, by rw [hz]; exact hz0⟩
                  clear hz hz0 hot
                  go_wp2_with fail
                  go_quiet (fail)
                  obtain ⟨wq, hwq⟩ : ∃ wq, wr.drewN nq = wq := ⟨_, rfl⟩
                  have hbq : Below wr.heap.size wr wq := by rw [← hwq]; exact bdrewN (bnil wr) nq
                  have HSTQ := Lib.hid (HSTS.out.up hbq)
                  have HBWQ := Lib.hid (bstep HBW.out hbq)
                  rw [hwq]
                  have fz1 := (HSTQ.out.cell htl).2
                  have cc1 := (HSTQ.out.cell htl).1
                  obtain ⟨wz, hwz⟩ : ∃ wz, wq.setCell ⟨gc, t, none⟩ (.int .i64 v) = wz := ⟨_, rfl⟩
                  have hszq : hq ≤ wz.heap.size := by rw [← hwz]; simpa [World.setCell] using HSTQ.out.size
                  have HQS : Hid (wz.ownsRow hq 3 1 (.slice aq lr cq) lr (natV S.2)) := by show World.ownsRow _ _ _ _ _ _ _; rw [← hwz]; exact HSTQ.out.que_set (t := t) (.int .i64 (v : Int))
                  have HWZ := Lib.hid hwz
                  clear hbq hwq cc0 fz0 ct0 hwz
                  go_upto_region 19 with (fail)
                  rw [HWZ.out]
                  go_wp2_with (first
                    | (at_builtin; refine apl rfl _ _ _ rfl hq et_int _ lr _ HQS.out rfl 1 _ _ rfl rfl rfl rfl (by unfold maxLen; omega) (by omega) hszq ?_; intro a7 c7 w7 h7; have HA7 := Lib.hid h7; clear h7))
                  have HS7 : Hid (MSt w7 w'.heap.size gc c2 hq M (scanM u v ((adjF k u (labT tb) v).take (j + 1)) s) a7 (lr + 1) c7) := by
                    show MSt _ _ _ _ _ _ _ _ _ _
                    rw [HSC.out]
                    have hA := HA7.out
                    rw [← HWZ.out] at hA
                    exact HSTQ.out.mark HCND.out hA
                  have hgW : w'.heap.size ≤ gc := (HSTQ.out.came.lt gc rfl).1
                  have HB7 : Hid (Below w'.heap.size w' w7) := (by rw [← HWZ.out]; exact HBWQ.out.setCell (p := ⟨gc, t, none⟩) hgW _ : Below w'.heap.size w' wz).trans (HA7.out.below.mono (Nat.le_trans hgW (Nat.le_of_lt HSTQ.out.lt)))
                  have HN7 : Hid (NoHit u v (adjF k u (labT tb) v) (j + 1)) := nohit_succ HNH.out fun _ => by rw [HT.out]; exact HCND.out.1
                  go_roundw
                  case measure => simp [intOf]; omega
                  case rel => exact ⟨_, .slice a7 (lr + 1) c7, _, _, _, .int .i64 ((j : Int) + 1), ⟨j + 1, by omega, by go_num, a7, _, c7, rfl, HN7.out, HS7.out, HB7.out⟩, rfl, rfl, rfl, rfl, rfl, rfl⟩
                · have hdz : decide (z < 0) = false := decide_eq_false hz0
                  have HN7 : Hid (NoHit u v (adjF k u (labT tb) v) (j + 1)) := nohit_succ HNH.out fun _ => by rw [HT.out]; exact hot
                  have HS7 : Hid (scanM u v ((adjF k u (labT tb) v).take (j + 1)) s = S) := by
                    show _ = _
                    rw [HSC.out]
                    unfold stepM
                    rw [if_neg fun e => hz0 (by rw [← hz]; exact e.2)]
                  clear hz hz0 hot
                  go_wp2_with fail
                  go_quiet (fail)
                  obtain ⟨wq, hwq⟩ : ∃ wq, wr.drewN nq = wq := ⟨_, rfl⟩
                  have hbq : Below wr.heap.size wr wq := by rw [← hwq]; exact bdrewN (bnil wr) nq
                  have HSTQ := Lib.hid (HSTS.out.up hbq)
                  have HBWQ := Lib.hid (bstep HBW.out hbq)
                  rw [hwq]
                  have HSQ7 : Hid (MSt wq w'.heap.size gc c2 hq M (scanM u v ((adjF k u (labT tb) v).take (j + 1)) s) aq lr cq) := by
                    show MSt _ _ _ _ _ _ _ _ _ _
                    rw [HS7.out]; exact HSTQ.out
                  clear hbq hwq cc0 fz0 ct0
                  go_wp2_with fail
                  go_quiet (fail)
                  obtain ⟨wp, hwp⟩ : ∃ wp, wq.drewN nq = wp := ⟨_, rfl⟩
                  have hbp : Below wq.heap.size wq wp := by rw [← hwp]; exact bdrewN (bnil wq) nq
                  have HSP := Lib.hid (HSQ7.out.up hbp)
                  have HBP := Lib.hid (bstep HBWQ.out hbp)
                  rw [hwp]
                  clear hbp hwp
                  go_wp2
                  go_roundw
                  case measure => simp [intOf]; omega
                  case rel => exact ⟨j + 1, aq, lr, cq, by omega, by go_num, rfl, HN7.out, HSP.out, HBP.out⟩
              · rw [decide_eq_false hot] at ho2 ho3
                replace ho3 : ((y1 : Int) == (y2 : Int)) = true := ho3
                have HS7 : Hid (scanM u v ((adjF k u (labT tb) v).take (j + 1)) s = S) := by
                  show _ = _
                  rw [HSC.out]
                  unfold stepM
                  rw [if_neg fun e => hot e.1]
                have HOT := Lib.hid hot
                clear hot
                go_wp2_with fail
                go_quiet (fail)
                obtain ⟨wq, hwq⟩ : ∃ wq, wr.drewN nq = wq := ⟨_, rfl⟩
                have hbq : Below wr.heap.size wr wq := by rw [← hwq]; exact bdrewN (bnil wr) nq
                have HSTQ := Lib.hid (HSTS.out.up hbq)
                have HBWQ := Lib.hid (bstep HBW.out hbq)
                rw [hwq]
                clear hbq hwq cc0 fz0 ct0
                cases ap with
                | false =>
                  have hnov : ¬ Off u v := of_decide_eq_false HAP.out
                  have HN7 : Hid (NoHit u v (adjF k u (labT tb) v) (j + 1)) := fun h => absurd h hnov
                  have HSQ7 : Hid (MSt wq w'.heap.size gc c2 hq M (scanM u v ((adjF k u (labT tb) v).take (j + 1)) s) aq lr cq) := by
                    show MSt _ _ _ _ _ _ _ _ _ _
                    rw [HS7.out]; exact HSTQ.out
                  clear hnov
                  go_wp2_with fail
                  go_quiet (fail)
                  obtain ⟨wp, hwp⟩ : ∃ wp, wq.drewN nq = wp := ⟨_, rfl⟩
                  have hbp : Below wq.heap.size wq wp := by rw [← hwp]; exact bdrewN (bnil wq) nq
                  have HSP := Lib.hid (HSQ7.out.up hbp)
                  have HBP := Lib.hid (bstep HBWQ.out hbp)
                  rw [hwp]
                  clear hbp hwp
                  go_wp2
                  go_roundw
                  case measure => simp [intOf]; omega
                  case rel => exact ⟨j + 1, aq, lr, cq, by omega, by go_num, rfl, HN7.out, HSP.out, HBP.out⟩
                | true =>
                  have hov : Off u v := of_decide_eq_true HAP.out
                  have HOV := Lib.hid hov
                  clear hov
                  go_wp2_with fail
                  go_quiet (fail)
                  obtain ⟨wp, hwp⟩ : ∃ wp, wq.drewN nq = wp := ⟨_, rfl⟩
                  have hbp : Below wq.heap.size wq wp := by rw [← hwp]; exact bdrewN (bnil wq) nq
                  have HSP := Lib.hid (HSTQ.out.up hbp)
                  have HBP := Lib.hid (bstep HBWQ.out hbp)
                  rw [hwp]
                  clear hbp hwp
                  obtain ⟨l, hch, hll⟩ := HCBS.out v HVS.out
                  have HMEM := Lib.hid (ch_mem hch hN0 (fun t => (HI2S.out.rng t).2) (by rw [HM.out]; exact hvl))
                  have HCH := Lib.hid hch
                  obtain ⟨Ll, hLl⟩ : ∃ Ll, l.length = Ll := ⟨_, rfl⟩
                  have hLl2 : Ll ≤ 16512 := by have h1 := HSTQ.out.len.1; omega
                  have HLL := Lib.hid hLl
                  obtain ⟨w8, e8⟩ : ∃ w8, wp.alloc (.cells #[.int .i64 t] 3) = w8 := ⟨_, rfl⟩
                  obtain ⟨hw, hhw⟩ : ∃ hw, wp.heap.size = hw := ⟨_, rfl⟩
                  have HO8 : Hid (w8.ownsRow hw 3 1 (.slice (some ⟨hw, 0, none⟩) 1 1) 1 (natV [t])) := by
                    show World.ownsRow _ _ _ _ _ _ _
                    rw [← e8, ← hhw]
                    exact own_lit rfl (Nat.le_refl _) (by decide) rfl
                  have HB8 : Hid (Below hw wp w8) := by show Below _ _ _; rw [← e8, ← hhw]; exact balloc (bnil wp) _
                  have HE8 := Lib.hid e8
                  have HHW := Lib.hid hhw
                  clear hch hll hLl e8 hhw e3 e4 eq1 eq2 ho2 ho3 hoff e5 eq3
                  go_wp2_with fail
                  rw [HE8.out, HHW.out]
                  go_loopg [12, 13] Ll (fun m wv zv wr => ∃ (l1 l2 : List Nat) (nw : Nat) (aw : Option Addr) (cw : Nat) (z : Int), l1 ++ l2 = l ∧ l2.length = m ∧ nw = l1.length + 1 ∧ wv = .slice aw nw cw ∧ wr.ownsRow hw 3 1 (.slice aw nw cw) nw (natV (t :: l1)) ∧ zv = .int .i64 z ∧ ChN u (PE k u (labT tb)) S.1 z l2 ∧ Below hw wp wr)
                  case atStart => exact ⟨[], l, 1, _, 1, v, rfl, HLL.out, rfl, rfl, HO8.out, rfl, chN_of HCH.out, HB8.out⟩
                  case round =>
                    clear HO8 HB8
                    obtain ⟨l1, l2, nw, aw, cw, z, hl12, hlm, hnw, rfl, how, rfl, hcn, hbw⟩ := hrel
                    have hbp : Below wp.heap.size wp wr := by rw [HHW.out]; exact hbw
                    have hwsz : hw ≤ wr.heap.size := by have := hbp.size; rw [HHW.out] at this; exact this
                    have hnw2 : nw ≤ 16513 := by
                      have h1 := congrArg List.length hl12
                      rw [List.length_append, HLL.out] at h1
                      omega
                    have HL12 := Lib.hid hl12
                    have HLM := Lib.hid hlm
                    have HNW := Lib.hid hnw
                    have HOW := Lib.hid how
                    have HBWR := Lib.hid hbw
                    clear hl12 hlm hnw how hbw
                    cases l2 with
                    | nil =>
                      have hz0 : z < 0 := hcn
                      have hz1 : ¬ (0 : Int) ≤ z := by omega
                      have HL1 : Hid (l1 = l) := by show _ = _; rw [← HL12.out, List.append_nil]
                      have HBF : Hid (Below w'.heap.size w' wr) := bstep HBP.out hbp
                      clear hcn hbp
                      have HOM : Hid (wr.ownsRow hw 3 1 (.slice aw nw cw) nw (((t :: l).map fun x : Nat => (x : Int)).map (Value.int .i64))) := by
                        show World.ownsRow _ _ _ _ _ _ _
                        rw [← natV_map, ← HL1.out]; exact HOW.out
                      go_wp2_with fail
                      refine (reverse_own HOM.out hwsz (by omega)).mono ?_; rintro e w9 ⟨rfl, ho9, hk9, hb9⟩
                      have hwW : w'.heap.size ≤ hw := by rw [← HHW.out]; exact HBP.out.size
                      have HBE : Hid (Below w'.heap.size w' w9) := HBF.out.trans (hb9.mono hwW)
                      have HRK : Hid (RK .i64 w9 aw nw (((t :: l).reverse).map fun x : Nat => (x : Int))) := by
                        show RK _ _ _ _ _
                        rw [List.map_reverse]; exact RK.of_own ho9
                      have HCP := Lib.hid (own_leC ho9)
                      clear ho9 hk9 hb9
                      go_wp2
                      go_ret
                      refine ⟨_, aw, nw, cw, rfl, .inr ⟨i, s, j, l, HRUN.out, HI2.out, ?_, ?_, ?_, ?_, ?_, ?_⟩, HRK.out, HCP.out, by omega, HBE.out⟩
                      · rw [HV.out]; exact HJL.out
                      · rw [HV.out]; exact HOV.out
                      · rw [HV.out, HT.out]; exact HOT.out
                      · rw [HV.out]; exact HNH.out HOV.out
                      · rw [HV.out, HS.out]; exact HCH.out
                      · rw [HV.out, HT.out]
                    | cons x l2 =>
                      have hzx : z = (x : Int) := hcn.1
                      subst hzx
                      have hxl : x < M := by rw [← HM.out]; exact HMEM.out x (by rw [← HL12.out]; simp)
                      have x0 : (0 : Int) ≤ (x : Int) := by omega
                      have x9 : (x : Int) < (M : Int) := by omega
                      have HCN := Lib.hid (chN_next hcn)
                      clear hcn
                      go_wp2_with (first
                        | (at_builtin; refine apl rfl _ _ _ rfl hw et_int _ nw _ HOW.out rfl 1 _ _ rfl rfl rfl rfl (by unfold maxLen; omega) (by omega) hwsz ?_; intro a7 c7 w7 h7; have cx7 := ((HSP.out.up (by rw [HHW.out]; exact HBWR.out.trans h7.below)).cell hxl).1; have HA7 := Lib.hid h7; clear h7))
                      have how7 : w7.ownsRow hw 3 1 (.slice a7 (nw + 1) c7) (nw + 1) (natV (t :: (l1 ++ [x]))) := by
                        have h1 := HA7.out.own
                        rw [← natV_app] at h1
                        exact h1
                      have hm7 : l2.length < gk := by have := HLM.out; rw [List.length_cons] at this; omega
                      have hn7 : nw + 1 = (l1 ++ [x]).length + 1 := by rw [List.length_append, HNW.out]; rfl
                      have hl7 : (l1 ++ [x]) ++ l2 = l := by rw [← HL12.out]; simp
                      have hb7 : Below hw wp w7 := HBWR.out.trans HA7.out.below
                      have hc7 := HCN.out
                      go_roundg l2.length
                      case measure => exact hm7
                      case rel => exact ⟨l1 ++ [x], l2, nw + 1, a7, c7, _, hl7, rfl, hn7, rfl, how7, rfl, hc7, hb7⟩
            · obtain rfl : j = L := by omega
              have j1 : ¬ (j : Int) < (j : Int) := by omega
              have HN7 : Hid (hitM u v (adjF k u (labT tb) v) = false) := nohit_end (by rw [HL.out]; exact HNH.out)
              have HST7 : Hid (MSt wr w'.heap.size gc c2 hq M (scanM u v (adjF k u (labT tb) v) s) aq lr cq) := by
                show MSt _ _ _ _ _ _ _ _ _ _
                rw [List.take_of_length_le (by rw [HL.out]; exact Nat.le_refl _)] at hst
                exact hst
              have HRUN7 : Hid (MRun u (adjF k u (labT tb)) (i + 1) (scanM u v (adjF k u (labT tb) v) s)) := by
                have h1 := MRun.next HRUN.out HI2.out (by rw [HV.out]; exact HN7.out)
                rw [HV.out] at h1
                exact h1
              have hil : i + 1 ≤ lr := by
                have h1 := HST7.out.len.1
                have h2 := (scanM_pre (N := u) (v := v) (l := adjF k u (labT tb) v) (s := s)).length_le
                have h3 := HI2.out
                omega
              have q7 : IntKind.i64.wrap ((i : Int) + 1) = ((i + 1 : Nat) : Int) := by rw [IntWalk.i64_in _ (by omega)]; omega
              clear hst
              go_wp2
              go_roundw
              case measure => simp [intOf]; omega
              case rel => exact ⟨i + 1, _, aq, lr, cq, hil, by go_num, rfl, HRUN7.out, HST7.out, HBW.out⟩
        · have q0 : ¬ (i : Int) < (lq : Int) := by omega
          have hend : s.2.length ≤ i := by have := HQN.out; omega
          have HEND := Lib.hid hend
          clear hst hend
          go_wp2
          go_ret
          exact ⟨[], none, 0, 0, rfl, .inl ⟨rfl, i, s, HRUN.out, HEND.out⟩, RK.nil, Nat.le_refl _, Nat.zero_le _, HBW.out⟩
end Go.Proofs.YtiglilecmieelaaGreatDoor
namespace Go.Proofs.YtiglilecmieelaaGreatDoor
open Go.RowKit
set_option linter.unusedVariables false
set_option maxRecDepth 100000

set_option maxHeartbeats 1000000 in
theorem contains_none (a : Option Addr) (n c : Nat) (l : List Int) (F : Nat) (cap : Array Value) (p : Int → Bool) (W : World) (hR : RK .i64 W a n l) (hm : n ≤ maxLen) (hE : ∀ args w, (callFunc F args).run Tryz.prog w = .ok (.enter F args) w) (hP : PredOf F cap p W) (hp : ∀ x ∈ l, p x = false) :
    Calls Tryz.prog 36 #[.slice a n c, .func (.func F) #[] cap] W fun e w' => e = .returned (.bool false) ∧ ∃ n, w' = W.drewN n := by
  have HI := Lib.hid (indexFunc_any a n c l F cap p W hR hm hE hP)
  have hnone := findIdx_none hp
  rw [hnone] at HI
  clear hR hE hP hp hnone
  go_enter Tryz.func36, Tryz.ntmps36
  go_wp2_with fail
  refine HI.out.mono ?_; rintro e w' ⟨rfl, m, rfl⟩
  go_wp2
  go_ret
  exact ⟨rfl, m, rfl⟩
/-- a place outside the pairs -/
def outP (M : Nat) (x : Int) : Bool := decide (x < 0) || decide ((M : Int) ≤ x)
theorem out_pred (N M B : Nat) (w : World) (hB : B < w.heap.size) (hM : N * N = M) (hN : N ≤ 128) (hcell : w.cell? ⟨B, 0, none⟩ = some (.int .i64 (N : Nat))) : PredOf 37 #[.pointer (some ⟨B, 0, none⟩)] (outP M) w := by
  intro W x hb
  have hc : W.cell? ⟨B, 0, none⟩ = some (.int .i64 (N : Nat)) := (hb.cell (p := ⟨B, 0, none⟩) hB).trans hcell
  clear hcell
  have hMI : (N : Int) * (N : Int) = (M : Int) := by rw [← hM, Int.natCast_mul]
  have hM2 : M ≤ 16384 := by rw [← hM]; exact Nat.le_trans (Nat.mul_le_mul hN hN) (by decide)
  have q1 : IntKind.i64.wrap (M : Int) = (M : Int) := IntWalk.i64_in _ (by omega)
  clear hM
  show Calls Tryz.prog 37 #[.int .i64 x, .pointer (some ⟨B, 0, none⟩)] W _
  by_cases h0 : x < 0
  · have e : outP M x = true := by simp [outP, h0]
    rw [e]; clear e
    go_enter Tryz.func37, Tryz.ntmps37
    go_wp2
    go_ret
    exact ⟨rfl, 0, rfl⟩
  · by_cases h1 : (M : Int) ≤ x
    · have e : outP M x = true := by simp [outP, h1]
      rw [e]; clear e
      go_enter Tryz.func37, Tryz.ntmps37
      go_wp2
      go_ret
      exact ⟨rfl, 0, rfl⟩
    · have e : outP M x = false := by simp [outP]; omega
      rw [e]; clear e
      go_enter Tryz.func37, Tryz.ntmps37
      go_wp2
      go_ret
      exact ⟨rfl, 0, rfl⟩
theorem mkI (n : Nat) (hb : n ≤ 32768) (w : World) : (Instr.makeSlice 22 (.int .i64 (n : Int)) (.int .i64 (n : Int))).run Tryz.prog w = .ok (.slice (some ⟨w.heap.size, 0, none⟩) n n) (w.alloc (.cells (((List.range n).map fun _ => (0 : Int)).map (Value.int .i64)).toArray 3)) := by
  have h := run_make_row' (P := Tryz.prog) 22 3 (.int .i64 0) 8 Tryz.underlying22 (by kernel_rfl) rfl .i64 .i64 n (by omega) (by omega) w
  rw [h, made_listR, List.map_map]
  rfl
set_option maxHeartbeats 2000000 in
/-- the word of a node -/
theorem word2_any (k r x B : Nat) (a : Option Addr) (T c : Nat) (w : World) (hz : w.heap[B]? = some (.cells #[.int .i64 k, .int .i64 r, .slice a T c] 24)) (k1 : 1 ≤ k) (r3 : r ≤ 3) (hx : x ≤ 20000) :
    Calls Tryz.prog 39 #[.int .i64 x, .pointer (some ⟨B, 0, none⟩)] w fun e w' => ∃ (a' : Option Addr) (c' : Nat), e = .returned (.slice a' (2 * r) c') ∧ (∃ l : List Int, w'.ownsRow w.heap.size 3 1 (.slice a' (2 * r) c') (2 * r) (l.map (Value.int .i64))) ∧ Below w.heap.size w w' := by
  obtain ⟨⟨x0, x1, x2⟩, _⟩ := cells3P hz
  have HZ := Lib.hid hz
  obtain ⟨n, hn⟩ : ∃ n, 2 * r = n := ⟨_, rfl⟩
  have hnI : 2 * (r : Int) = (n : Int) := by omega
  have q1 : IntKind.i64.wrap (n : Int) = (n : Int) := IntWalk.i64_in _ (by omega)
  have hmk := mkI n (by omega)
  have hn6 : n ≤ 6 := by omega
  rw [hn]
  clear hz hn r3 x0 x2
  obtain ⟨ZC, hZC⟩ : ∃ ZC, (((List.range n).map fun _ => (0 : Int)).map (Value.int .i64)).toArray = ZC := ⟨_, rfl⟩
  rw [hZC] at hmk
  obtain ⟨w2, e2⟩ : ∃ w2, w.alloc (.cells ZC 3) = w2 := ⟨_, rfl⟩
  obtain ⟨g, hg⟩ : ∃ g, w.heap.size = g := ⟨_, rfl⟩
  have HO : Hid (w2.ownsRow g 3 1 (.slice (some ⟨g, 0, none⟩) n n) n (((List.range n).map fun _ => (0 : Int)).map (Value.int .i64))) := by
    show World.ownsRow _ _ _ _ _ _ _
    rw [← e2, ← hg, ← hZC]
    exact own_lit rfl (Nat.le_refl _) (by unfold maxLen; omega) (by simp)
  have HB : Hid (Below g w w2) := by show Below _ _ _; rw [← e2, ← hg]; exact balloc (bnil w) _
  have HE := Lib.hid e2
  have HG := Lib.hid hg
  clear e2 hg hZC
  go_enter Tryz.func39, Tryz.ntmps39
  go_wp2_with fail
  rw [HE.out, HG.out]
  clear hmk x1
  go_loopw [0, 12] (fun xv iv wr => ∃ (i y : Nat) (l : List Int), i ≤ n ∧ xv = .int .i64 y ∧ y ≤ 20000 ∧ iv = .int .i64 i ∧ wr.ownsRow g 3 1 (.slice (some ⟨g, 0, none⟩) n n) n (l.map (Value.int .i64)) ∧ Below g w wr) (fun _ iv _ => n - (intOf iv).toNat)
  case atStart => exact ⟨0, x, _, Nat.zero_le _, rfl, hx, rfl, HO.out, HB.out⟩
  case round =>
    clear HO HB hx
    obtain ⟨i, y, l, hi, rfl, hy, rfl, ho, hb⟩ := hrel
    have hbw : Below w.heap.size w wr := by rw [HG.out]; exact hb
    by_cases hlt : i < n
    · have i1 : (i : Int) < (n : Int) := by omega
      have hz := (hbw.block _ (heap_ltR HZ.out)).trans HZ.out
      obtain ⟨⟨x0, _, _⟩, _⟩ := cells3P hz
      obtain ⟨m, hm⟩ : ∃ m, n - 1 - i = m := ⟨_, rfl⟩
      have e1 : IntKind.i64.wrap ((n : Int) - 1) = (n : Int) - 1 := IntWalk.i64_in _ (by omega)
      have e2 : IntKind.i64.wrap ((n : Int) - 1 - (i : Int)) = (m : Int) := by rw [IntWalk.i64_in _ (by omega)]; omega
      have m0 : (0 : Int) ≤ (m : Int) := by omega
      have m1 : (m : Int) < (n : Int) := by omega
      have fz := ho.frozenAt m
      have hlen : l.length = n := by simpa using ho.1
      have cz : wr.cell? ⟨g, m, none⟩ = some (.int .i64 (l.getD m 0)) := (ho.cellAt m (by omega)).trans (ints_at 0 (by omega))
      have hyk : y / k ≤ y := Nat.div_le_self _ _
      have e3 : (y : Int) / (k : Int) = ((y / k : Nat) : Int) := by simp
      have e4 : (y : Int) % (k : Int) = ((y % k : Nat) : Int) := by simp
      generalize y / k = y1 at e3 hyk
      generalize y % k = y2 at e4
      have y0 : (0 : Int) ≤ (y : Int) := by omega
      have k0 : (0 : Int) < (k : Int) := by omega
      have hset := own_set ho m (.int .i64 (y2 : Int))
      rw [← List.map_set] at hset
      have HSET := Lib.hid hset
      have HBS : Hid (Below g w (wr.setCell ⟨g, m, none⟩ (.int .i64 (y2 : Int)))) := hb.setCell (p := ⟨g, m, none⟩) (Nat.le_refl _) _
      have hBg : B ≠ g := by have := heap_ltR HZ.out; rw [HG.out] at this; omega
      have HX0 : Hid ((wr.setCell ⟨g, m, none⟩ (.int .i64 (y2 : Int))).cell? ⟨B, 0, none⟩ = some (.int .i64 k)) := by
        show World.cell? _ _ = _
        rw [World.cell?_of_block (w := wr)]
        · exact x0
        · exact Below.heap_setCell _ _ _ _ hBg
      have q5 : IntKind.i64.wrap (y1 : Int) = (y1 : Int) := IntWalk.i64_in _ (by omega)
      obtain ⟨w5, hw5⟩ : ∃ w5, wr.setCell ⟨g, m, none⟩ (.int .i64 (y2 : Int)) = w5 := ⟨_, rfl⟩
      rw [hw5] at HSET HBS HX0
      have HW5 := Lib.hid hw5
      clear hset hb hbw ho hz hm hlen hBg hw5
      go_upto_region 6 with (fail)
      rw [HW5.out]
      clear x0
      have x0 := HX0.out
      go_wp2
      go_roundw
      case measure => simp [intOf]; omega
      case rel => exact ⟨i + 1, y1, _, by omega, rfl, by omega, by go_num, HSET.out, HBS.out⟩
    · obtain rfl : i = n := by omega
      have i1 : ¬ (i : Int) < (i : Int) := by omega
      have HOW := Lib.hid ho
      have HBW := Lib.hid hbw
      clear ho hb hbw
      go_wp2
      go_ret
      exact ⟨_, i, rfl, ⟨l, by rw [HG.out]; exact HOW.out⟩, HBW.out⟩
theorem pe_step {k N : Nat} {lab : Nat → Nat} (hN : 0 < N) (hd : k ∣ N) {p q : Nat} (h : PE k N lab p q = true) : (p / N * k + q / N % k) % N = q / N ∧ (p % N * k + q % N % k) % N = q % N ∧ lab (p / N * k + q / N % k) = lab (p % N * k + q % N % k) := by
  obtain ⟨c, d, hc, hdk, hl, rfl⟩ := pe_iff.1 h
  rw [pair_div (Nat.mod_lt _ hN), pair_mod (Nat.mod_lt _ hN), mod_sym hc hd, mod_sym hdk hd]
  exact ⟨rfl, rfl, hl⟩
theorem wayok_at {E : Nat → Nat → Bool} : ∀ {way : List Nat} {i : Nat}, WayOK E way → i + 1 < way.length → E (way.getD i 0) (way.getD (i + 1) 0) = true
  | [], i, _, h => by simp at h
  | [a], i, _, h => by simp at h
  | a :: b :: l, 0, h, _ => h.1
  | a :: b :: l, i + 1, h, hi => wayok_at (way := b :: l) (i := i) h.2 (by simpa using hi)
theorem getD_natI (l : List Nat) (i : Nat) : (l.map fun x : Nat => (x : Int)).getD i 0 = ((l.getD i 0 : Nat) : Int) := by
  simp only [List.getD_eq_getElem?_getD, List.getElem?_map]
  cases l[i]? <;> rfl
/-- two rows of the call's own, apart -/
def TwoOwn (w : World) (B : Nat) (a1 : Option Addr) (n1 c1 : Nat) (a2 : Option Addr) (n2 c2 : Nat) : Prop :=
  (∃ l : List Int, w.ownsRow B 3 1 (.slice a1 n1 c1) n1 (l.map (Value.int .i64))) ∧ (∃ l : List Int, w.ownsRow B 3 1 (.slice a2 n2 c2) n2 (l.map (Value.int .i64))) ∧ Ap (.slice a1 n1 c1) (.slice a2 n2 c2)
theorem TwoOwn.new {w w' : World} {B : Nat} {a1 a2 : Option Addr} {n1 c1 n2 c2 : Nat} (h1 : ∃ l : List Int, w.ownsRow B 3 1 (.slice a1 n1 c1) n1 (l.map (Value.int .i64))) (hb : Below w.heap.size w w') (h2 : ∃ l : List Int, w'.ownsRow w.heap.size 3 1 (.slice a2 n2 c2) n2 (l.map (Value.int .i64))) (hB : B ≤ w.heap.size) : TwoOwn w' B a1 n1 c1 a2 n2 c2 := by
  obtain ⟨l1, h1⟩ := h1
  obtain ⟨l2, h2⟩ := h2
  refine ⟨⟨l1, owns_up h1 hb⟩, ⟨l2, owns_base h2 hB⟩, fun g hg1 hg2 => ?_⟩
  have := (h1.lt g hg1).2
  have := (h2.lt g hg2).1
  omega
theorem TwoOwn.symm {w : World} {B : Nat} {a1 a2 : Option Addr} {n1 c1 n2 c2 : Nat} (h : TwoOwn w B a1 n1 c1 a2 n2 c2) : TwoOwn w B a2 n2 c2 a1 n1 c1 := ⟨h.2.1, h.1, h.2.2.symm⟩
theorem TwoOwn.up {w w' : World} {B : Nat} {a1 a2 : Option Addr} {n1 c1 n2 c2 : Nat} (h : TwoOwn w B a1 n1 c1 a2 n2 c2) (hb : Below w.heap.size w w') : TwoOwn w' B a1 n1 c1 a2 n2 c2 := by
  obtain ⟨⟨l1, h1⟩, ⟨l2, h2⟩, h3⟩ := h
  exact ⟨⟨l1, owns_up h1 hb⟩, ⟨l2, owns_up h2 hb⟩, h3⟩
/-- one number more in the first row -/
theorem TwoOwn.app {w w' : World} {B : Nat} {a1 a2 a' : Option Addr} {n1 c1 n2 c2 c' : Nat} {x : Int} {l : List Int} (h : TwoOwn w B a1 n1 c1 a2 n2 c2) (ha : Appended B 3 1 w w' (.slice a1 n1 c1) (.slice a' (n1 + 1) c') n1 1 (l.map (Value.int .i64)) [.int .i64 x]) : TwoOwn w' B a' (n1 + 1) c' a2 n2 c2 := by
  obtain ⟨_, ⟨l2, h2⟩, h3⟩ := h
  refine ⟨⟨l ++ [x], by rw [List.map_append]; exact ha.own⟩, ⟨l2, ha.keeps h2 h3.ne⟩, h3.app ha fun g hg => (h2.lt g hg).2⟩
set_option maxHeartbeats 8000000 in
theorem words_ok (k r N M nw cw : Nat) (a aw : Option Addr) (T c : Nat) (tb : List Int) (way : List Nat) (W : World) (hR : RK .i64 W a T tb) (hI : IsRule k r tb) (hT : T ≤ 256) (hr1 : 1 ≤ r) (hN : N = k ^ (2 * r)) (hM : N * N = M)
    (hW : RK .i64 W aw nw (way.map fun x : Nat => (x : Int))) (h2 : 2 ≤ way.length) (hcw : nw ≤ cw) (hn2 : nw ≤ 20000) (hok : WayOK (PE k N (labT tb)) way) (hlt : ∀ x ∈ way, x < N * N) :
    Calls Tryz.prog 15 #[ruleV k r a T c, .slice aw nw cw] W fun e w' => ∃ a1 n1 c1 a2 n2 c2, e = .returned (.tuple #[.slice a1 n1 c1, .slice a2 n2 c2, .nilIface]) ∧ n1 + 1 = 2 * r + nw ∧ Below W.heap.size W w' := by
  obtain ⟨hTN, hN0, hN128⟩ := node_bounds hI hR.len hT
  rw [← hN] at hTN hN0 hN128
  have hdv : k ∣ N := by rw [hN]; exact Nat.dvd_trans ⟨k ^ (2 * r - 1), by rw [← Nat.pow_succ']; congr 1; omega⟩ (Nat.dvd_refl _)
  have k1 := hI.k1
  have k4 := hI.k4
  have r3 := hI.r3
  have hM2 : M ≤ 16384 := by rw [← hM]; exact Nat.le_trans (Nat.mul_le_mul hN128 hN128) (by decide)
  have hwl : nw = way.length := by have := hW.len; simpa using this
  have HOUT : Hid (∀ x ∈ way.map fun x : Nat => (x : Int), outP M x = false) := fun x hx => by
    obtain ⟨y, hy, rfl⟩ := List.mem_map.1 hx
    have := hlt y hy
    rw [hM] at this
    simp [outP]; omega
  have HLT : Hid (∀ i, i < nw → way.getD i 0 < M) := fun i hi => by rw [← hM]; exact hlt _ (getD_mem (by rw [← hwl]; exact hi))
  have HSTEP : Hid (∀ i, i + 1 < nw → (way.getD i 0 / N * k + way.getD (i + 1) 0 / N % k) % N = way.getD (i + 1) 0 / N ∧ (way.getD i 0 % N * k + way.getD (i + 1) 0 % N % k) % N = way.getD (i + 1) 0 % N ∧ tb.getD (way.getD i 0 / N * k + way.getD (i + 1) 0 / N % k) 0 = tb.getD (way.getD i 0 % N * k + way.getD (i + 1) 0 % N % k) 0) := fun i hi => by
    obtain ⟨q1, q2, q3⟩ := pe_step hN0 hdv (wayok_at hok (by rw [← hwl]; exact hi))
    refine ⟨q1, q2, ?_⟩
    have hpos : ∀ i, 0 ≤ tb.getD i 0 := fun i => by
      rw [List.getD_eq_getElem?_getD]
      by_cases h : i < tb.length
      · rw [List.getElem?_eq_getElem h]; exact (hI.sym _ (List.getElem_mem h)).1
      · rw [List.getElem?_eq_none (by omega)]; exact Int.le_refl _
    unfold labT at q3
    have e1 := hpos (way.getD i 0 / N * k + way.getD (i + 1) 0 / N % k)
    have e2 := hpos (way.getD i 0 % N * k + way.getD (i + 1) 0 % N % k)
    omega
  have hnw0 : 2 ≤ nw := by rw [hwl]; exact h2
  obtain ⟨bw, ow, rfl, hbw, hcell⟩ := hW.addr (by omega)
  have HCELL : Hid (∀ j, j < nw → W.cell? ⟨bw, ow + j, none⟩ = some (.int .i64 ((way.getD j 0 : Nat) : Int))) := fun j hj => by rw [hcell j hj, getD_natI]
  have HWW := Lib.hid hW
  have HM := Lib.hid hM
  have HI := Lib.hid hI
  have HTN := Lib.hid hTN
  have HEDG : Hid (∀ w1, Below W.heap.size W w1 → ∀ v s, v < N → s < k → Calls Tryz.prog 40 #[ruleV k r a T c, .int .i64 v, .int .i64 s] w1 fun e w' => e = .returned (.tuple #[.int .i64 (((v * k + s) % N : Nat) : Int), .int .i64 (tb.getD (v * k + s) 0), .nilIface]) ∧ Below w1.heap.size w1 w') := fun w1 hb v s hv hs => edge_ok k r N v s a T c tb w1 (hR.up hb) hI hT hTN hv hs
  have HNS : Hid (∀ w1, Below W.heap.size W w1 → Calls Tryz.prog 16 #[ruleV k r a T c] w1 fun e w' => e = .returned (.tuple #[.int .i64 (N : Int), .nilIface]) ∧ Below w1.heap.size w1 w') := fun w1 hb => Nodes_ok k r N a T c tb w1 (hR.up hb) hI hT hTN
  obtain ⟨w0, hw0⟩ : ∃ w0, W.alloc (.cells #[.int .i64 k, .int .i64 r, .slice a T c] 24) = w0 := ⟨_, rfl⟩
  have HBX : Hid (Below W.heap.size W w0) := by show Below _ _ _; rw [← hw0]; exact balloc (bnil W) _
  have hx : w0.cell? ⟨W.heap.size, 0, none⟩ = some (.int .i64 k) ∧ w0.cell? ⟨W.heap.size, 1, none⟩ = some (.int .i64 r) ∧ w0.cell? ⟨W.heap.size, 2, none⟩ = some (.slice a T c) := by rw [← hw0]; exact ⟨by simp, by simp, by simp⟩
  have HWK := Lib.hid (working_one k r a T c tb w0 (hR.up HBX.out) hI hT hr1)
  obtain ⟨x0, x1, x2⟩ := hx
  rw [← hw0] at x0 x1 x2
  have HWB := Lib.hid hw0
  have hlen0 : ((nw : Int) == 0) = false := by simp; omega
  clear hR hI hTN hok hlt hW hwl h2 hM hN hdv hcell hbw hw0
  have hmf : ∀ (fn : Fn) (first cap : Array Value) (w : World), (Instr.makeFunc fn first cap).run Tryz.prog w = .ok (.func fn first cap) w := fun _ _ _ _ => rfl
  have HEN : Hid (∀ args w, (callFunc 37 args).run Tryz.prog w = .ok (.enter 37 args) w) := fun args w => rfl
  go_enter Tryz.func15, Tryz.ntmps15
  go_wp2_with fail
  rw [HWB.out]
  refine HWK.out.mono ?_; rintro e w1 ⟨rfl, hb⟩
  clear x0 x1 x2
  have HB1 := Lib.hid (bstep HBX.out hb)
  clear hb
  obtain ⟨w2, e2⟩ : ∃ w2, w1.alloc (.cells #[.int .i64 k, .int .i64 r, .slice a T c] 24) = w2 := ⟨_, rfl⟩
  obtain ⟨b7, hb7⟩ : ∃ b, w1.heap.size = b := ⟨_, rfl⟩
  have hz2 : w2.heap[b7]? = some (.cells #[.int .i64 k, .int .i64 r, .slice a T c] 24) := by rw [← e2, ← hb7]; exact heap_alloc_new w1 _
  have HB2 : Hid (Below W.heap.size W w2) := by show Below _ _ _; rw [← e2]; exact balloc HB1.out _
  have HE2 := Lib.hid e2
  have HH7 := Lib.hid hb7
  have HZ2 := Lib.hid hz2
  obtain ⟨⟨x0, x1, x2⟩, _⟩ := cells3P hz2
  clear e2 hb7 hz2
  go_upto_region 4 with (fail)
  rw [HE2.out, HH7.out]
  go_wp2_with fail
  refine (HNS.out w2 HB2.out).mono ?_; rintro e w3 ⟨rfl, hb⟩
  clear x0 x1 x2
  have hB3 := bstep HB2.out hb
  have hz3 := (hb.block _ (heap_ltR HZ2.out)).trans HZ2.out
  obtain ⟨w4, e4⟩ : ∃ w4, w3.alloc (.cells #[.int .i64 N] 3) = w4 := ⟨_, rfl⟩
  obtain ⟨b9, hb9⟩ : ∃ b, w3.heap.size = b := ⟨_, rfl⟩
  have hb34 : Below w3.heap.size w3 w4 := by rw [← e4]; exact balloc (bnil w3) _
  have hz9 : w4.heap[b9]? = some (.cells #[.int .i64 N] 3) := by rw [← e4, ← hb9]; exact heap_alloc_new w3 _
  have hz7 := (hb34.block _ (heap_ltR hz3)).trans hz3
  have HB4 : Hid (Below W.heap.size W w4) := bstep hB3 hb34
  have HZ7 := Lib.hid hz7
  have HZ9 := Lib.hid hz9
  have c9 : w4.cell? ⟨b9, 0, none⟩ = some (.int .i64 N) := by simp [World.cell?, hz9]
  have HCT := Lib.hid (contains_none (some ⟨bw, ow, none⟩) nw cw (way.map fun x : Nat => (x : Int)) 37 #[.pointer (some ⟨b9, 0, none⟩)] (outP M) w4 (HWW.out.up HB4.out) (by unfold maxLen; omega) HEN.out (out_pred N M b9 w4 (heap_ltR hz9) HM.out hN128 c9) HOUT.out)
  have HE4 := Lib.hid e4
  have HH9 := Lib.hid hb9
  clear e4 hb9 hb34 hz9 hz7 hz3 hB3 hb c9
  go_upto_region 5 with (fail)
  rw [HE4.out, HH9.out]
  go_wp2_with fail
  refine HCT.out.mono ?_; rintro e w5 ⟨rfl, m5, hm5⟩
  have hb5 : Below w4.heap.size w4 w5 := by rw [hm5]; exact bdrewN (bnil w4) m5
  have HB5 := Lib.hid (bstep HB4.out hb5)
  have HZ75 := Lib.hid ((hb5.block _ (heap_ltR HZ7.out)).trans HZ7.out)
  have HZ95 := Lib.hid ((hb5.block _ (heap_ltR HZ9.out)).trans HZ9.out)
  clear hb5 hm5
  go_upto_region 8 with (fail)
  obtain ⟨B, hB⟩ : ∃ B, w5.heap.size = B := ⟨_, rfl⟩
  have HBB := Lib.hid hB
  obtain ⟨n2, hn2e⟩ : ∃ n2, 2 * r = n2 := ⟨_, rfl⟩
  have HN2 := Lib.hid hn2e
  have hn26 : n2 ≤ 6 := by omega
  have HWD : Hid (∀ (w' : World) (x : Nat), Below w5.heap.size w5 w' → x ≤ 20000 → Calls Tryz.prog 39 #[.int .i64 x, .pointer (some ⟨b7, 0, none⟩)] w' fun e w'' => ∃ (a' : Option Addr) (c' : Nat), e = .returned (.slice a' n2 c') ∧ (∃ l : List Int, w''.ownsRow w'.heap.size 3 1 (.slice a' n2 c') n2 (l.map (Value.int .i64))) ∧ Below w'.heap.size w' w'') := fun w' x hb hx => by
    have := word2_any k r x b7 a T c w' ((hb.block _ (heap_ltR HZ75.out)).trans HZ75.out) k1 r3 hx
    rw [hn2e] at this
    exact this
  have p0l := HLT.out 0 (by omega)
  have cw0 := cpE HB5.out (HCELL.out 0 (by omega))
  rw [Nat.add_zero] at cw0
  obtain ⟨p0, hp0⟩ : ∃ p, way.getD 0 0 = p := ⟨_, rfl⟩
  rw [hp0] at p0l cw0
  have c90 : w5.cell? ⟨b9, 0, none⟩ = some (.int .i64 N) := by have := HZ95.out; simp [World.cell?, this]
  have i9 : 0 < nw := by omega
  have NI0 : (0 : Int) < (N : Int) := by omega
  have NI1 : ¬ N = 0 := by omega
  have NI2 : ¬ (N : Int) = 0 := by omega
  have pI0 : (0 : Int) ≤ (p0 : Int) := by omega
  have d1 : (p0 : Int).tdiv (N : Int) = ((p0 / N : Nat) : Int) := by rw [Int.tdiv_eq_ediv_of_nonneg pI0]; rfl
  have d2 : (p0 : Int).tmod (N : Int) = ((p0 % N : Nat) : Int) := by rw [Int.tmod_eq_emod_of_nonneg pI0]; rfl
  have d3 : p0 / N ≤ p0 := Nat.div_le_self _ _
  have d4 : p0 % N ≤ p0 := Nat.mod_le _ _
  generalize p0 / N = u0 at d1 d3
  generalize p0 % N = v0 at d2 d4
  have d5 : IntKind.i64.wrap (u0 : Int) = (u0 : Int) := IntWalk.i64_in _ (by omega)
  have d6 : IntKind.i64.wrap (v0 : Int) = (v0 : Int) := IntWalk.i64_in _ (by omega)
  have u02 : u0 ≤ 20000 := by omega
  have v02 : v0 ≤ 20000 := by omega
  have HSD : Hid (w5.drew.cell? ⟨bw, ow, none⟩ = some (.int .i64 (p0 : Nat)) ∧ w5.drew.cell? ⟨b9, 0, none⟩ = some (.int .i64 N)) := ⟨cw0, c90⟩
  have HBD : Hid (Below w5.heap.size w5 w5.drew) := Below.drew (bnil w5)
  clear hp0 hB hn2e r3
  go_cut [12, 13] from 24 (fun va vb wx => ∃ a1 c1 a2 c2, va = .slice a1 n2 c1 ∧ vb = .slice a2 n2 c2 ∧ TwoOwn wx B a1 n2 c1 a2 n2 c2 ∧ Below B w5 wx)
  case first =>
    go_region_held3 (fun w => w.cell? ⟨bw, ow, none⟩ = some (.int .i64 (p0 : Nat)) ∧ w.cell? ⟨b9, 0, none⟩ = some (.int .i64 N))
      (first | with_reducible exact HSD.out | with_reducible exact HSF.out | with_reducible exact HSG.out)
      (first
        | (go_at_call_of 39 (Value.int IntKind.i64 (v0 : Int)); have q := HF1; clear q; refine (HWD.out _ v0 (HF1.out.2) v02).mono ?_; rintro e w8 ⟨a2, c2, rfl, ho8, hb8⟩; have HTW := Lib.hid (TwoOwn.new HF1.out.1 hb8 ho8 (by rw [← HBB.out]; exact HF1.out.2.size)); have HBW8 := Lib.hid (bstep HF1.out.2 hb8); have HSG := Lib.hid (And.intro (cpE hb8 HSF.out.1) (cpE hb8 HSF.out.2)); clear hb8 ho8)
        | (go_at_call_of 39 (Value.int IntKind.i64 (u0 : Int)); have q := HF2; clear q; refine (HWD.out _ u0 (HF2.out.2) u02).mono ?_; rintro e w8 ⟨a1, c1, rfl, ho8, hb8⟩; have HTW := Lib.hid (TwoOwn.new HF2.out.1 hb8 ho8 (by rw [← HBB.out]; exact HF2.out.2.size) : TwoOwn w8 B a2 n2 c2 a1 n2 c1).symm; have HBW8 := Lib.hid (bstep HF2.out.2 hb8); have HSG := Lib.hid (And.intro (cpE hb8 HSF.out.1) (cpE hb8 HSF.out.2)); clear hb8 ho8)
        | (go_at_call_of 39 (Value.int IntKind.i64 (u0 : Int)); refine (HWD.out _ u0 HBD.out u02).mono ?_; rintro e w7 ⟨a1, c1, rfl, ho7, hb7⟩; have HF1 : Hid ((∃ l : List Int, w7.ownsRow B 3 1 (.slice a1 n2 c1) n2 (l.map (Value.int .i64))) ∧ Below w5.heap.size w5 w7) := (And.intro (by rw [← HBB.out]; exact ho7) (bstep HBD.out hb7)); have HSF := Lib.hid (And.intro (cpE hb7 HSD.out.1) (cpE hb7 HSD.out.2)); clear hb7 ho7)
        | (go_at_call_of 39 (Value.int IntKind.i64 (v0 : Int)); refine (HWD.out _ v0 HBD.out v02).mono ?_; rintro e w7 ⟨a2, c2, rfl, ho7, hb7⟩; have HF2 : Hid ((∃ l : List Int, w7.ownsRow B 3 1 (.slice a2 n2 c2) n2 (l.map (Value.int .i64))) ∧ Below w5.heap.size w5 w7) := (And.intro (by rw [← HBB.out]; exact ho7) (bstep HBD.out hb7)); have HSF := Lib.hid (And.intro (cpE hb7 HSD.out.1) (cpE hb7 HSD.out.2)); clear hb7 ho7))
    all_goals
      go_wp2
      go_meet
      exact ⟨a1, c1, a2, c2, rfl, rfl, HTW.out, by rw [← HBB.out]; exact HBW8.out⟩
  case rest =>
    rename_i va vb w6
    obtain ⟨a1, c1, a2, c2, rfl, rfl, htw, hb6⟩ := hcut
    have HTW := Lib.hid htw
    have HB6 := Lib.hid hb6
    have s1 : (1 : Int) ≤ (nw : Int) := by omega
    have s2 : (nw : Int) ≤ (cw : Int) := by omega
    have s3 : ¬ cw = 1 := by omega
    have s4 : 1 ≤ nw := by omega
    have s5 : 1 ≤ cw := by omega
    clear htw hb6 HSD HBD d1 d2 d3 d4 d5 d6 u02 v02 c90 cw0 pI0 p0l
    go_wp2_with fail
    obtain ⟨L, hL⟩ : ∃ L, nw - 1 = L := ⟨_, rfl⟩
    have HL := Lib.hid hL
    rw [hL]
    generalize cw - 1 = C
    have hLn : L ≤ 20000 := by omega
    clear hL s1 s2 s3 s4 s5 i9 p0 u0 v0
    go_loopw [12, 13, 64] (fun va vb iv wr => ∃ (i na : Nat) (a1 : Option Addr) (c1 : Nat) (a2 : Option Addr) (c2 : Nat), i ≤ L ∧ na = n2 + i ∧ iv = .int .i64 i ∧ va = .slice a1 na c1 ∧ vb = .slice a2 na c2 ∧ TwoOwn wr B a1 na c1 a2 na c2 ∧ Below B w5 wr) (fun _ _ iv _ => L - (intOf iv).toNat)
    case atStart => exact ⟨0, n2, a1, c1, a2, c2, Nat.zero_le _, rfl, rfl, rfl, rfl, HTW.out, HB6.out⟩
    case round =>
      clear HTW HB6
      obtain ⟨i, na, a1, c1, a2, c2, hi, hna, rfl, rfl, rfl, htw, hb⟩ := hrel
      have hna2 : na ≤ 20006 := by omega
      have HNA := Lib.hid hna
      have HTW := Lib.hid htw
      have HBR := Lib.hid hb
      have hb5 : Below w5.heap.size w5 wr := by rw [HBB.out]; exact hb
      have HBW : Hid (Below W.heap.size W wr) := bstep HB5.out hb5
      have HZ7r := Lib.hid ((hb5.block _ (heap_ltR HZ75.out)).trans HZ75.out)
      have HZ9r := Lib.hid ((hb5.block _ (heap_ltR HZ95.out)).trans HZ95.out)
      have HSZ : Hid (B ≤ wr.heap.size) := by show _ ≤ _; rw [← HBB.out]; exact hb5.size
      clear hna htw hb hb5
      by_cases hlt : i < L
      · have i0 : (0 : Int) ≤ (i : Int) := by omega
        have i1 : (i : Int) < (L : Int) := by omega
        have hin : i + 1 < nw := by have := HL.out; omega
        have hin2 : i < nw := by omega
        have cp1 := cpE HBW.out (HCELL.out (i + 1) hin)
        rw [show ow + (i + 1) = ow + 1 + i by omega] at cp1
        have HCP0 := Lib.hid (cpE HBW.out (HCELL.out i hin2))
        have p1l := HLT.out (i + 1) hin
        have p0l := HLT.out i hin2
        obtain ⟨st1, st2, st3⟩ := HSTEP.out i hin
        obtain ⟨p1, hp1⟩ : ∃ p, way.getD (i + 1) 0 = p := ⟨_, rfl⟩
        obtain ⟨p0, hp0⟩ : ∃ p, way.getD i 0 = p := ⟨_, rfl⟩
        rw [hp1] at cp1 p1l st1 st2 st3
        rw [hp0] at HCP0 p0l st1 st2 st3
        clear hp1 hp0
        have P1 : (0 : Int) ≤ (p1 : Int) := by omega
        have P0 : (0 : Int) ≤ (p0 : Int) := by omega
        have d1 : (p1 : Int) / (N : Int) = ((p1 / N : Nat) : Int) := by simp
        have d2 : (p1 : Int) % (N : Int) = ((p1 % N : Nat) : Int) := by simp
        have d3 : p1 / N ≤ p1 := Nat.div_le_self _ _
        have d4 : p1 % N ≤ p1 := Nat.mod_le _ _
        have e1 : (p0 : Int).tdiv (N : Int) = ((p0 / N : Nat) : Int) := by rw [Int.tdiv_eq_ediv_of_nonneg P0]; rfl
        have e2 : (p0 : Int).tmod (N : Int) = ((p0 % N : Nat) : Int) := by rw [Int.tmod_eq_emod_of_nonneg P0]; rfl
        have e3 : p0 / N < N := Nat.div_lt_of_lt_mul (by rw [HM.out]; exact p0l)
        have e4 : p0 % N < N := Nat.mod_lt _ (by omega)
        generalize p1 / N = u1 at *
        generalize p1 % N = v1 at *
        generalize p0 / N = u0 at *
        generalize p0 % N = v0 at *
        have k0 : (0 : Int) < (k : Int) := by omega
        have U1 : (0 : Int) ≤ (u1 : Int) := by omega
        have V1 : (0 : Int) ≤ (v1 : Int) := by omega
        have d5 : (u1 : Int) % (k : Int) = ((u1 % k : Nat) : Int) := by simp
        have d6 : (v1 : Int) % (k : Int) = ((v1 % k : Nat) : Int) := by simp
        have d7 : IntKind.i64.wrap (u1 : Int) = (u1 : Int) := IntWalk.i64_in _ (by omega)
        have d8 : IntKind.i64.wrap (v1 : Int) = (v1 : Int) := IntWalk.i64_in _ (by omega)
        have e5 : IntKind.i64.wrap (u0 : Int) = (u0 : Int) := IntWalk.i64_in _ (by omega)
        have e6 : IntKind.i64.wrap (v0 : Int) = (v0 : Int) := IntWalk.i64_in _ (by omega)
        have sk : u1 % k < k := Nat.mod_lt _ (by omega)
        have tk : v1 % k < k := Nat.mod_lt _ (by omega)
        generalize u1 % k = s at *
        generalize v1 % k = t at *
        have HEA := Lib.hid (fun w' hb => HEDG.out w' hb u0 s e3 sk)
        have HEB := Lib.hid (fun w' hb => HEDG.out w' hb v0 t e4 tk)
        rw [st1, st3] at HEA
        rw [st2] at HEB
        generalize tb.getD (v0 * k + t) 0 = y at *
        clear st1 st2 st3 e3 e4 sk tk
        obtain ⟨⟨x0, x1, x2⟩, _⟩ := cells3P HZ7r.out
        have c9 : wr.cell? ⟨b9, 0, none⟩ = some (.int .i64 N) := by have := HZ9r.out; simp [World.cell?, this]
        have HS0 : Hid (wr.cell? ⟨b7, 0, none⟩ = some (.int .i64 k) ∧ wr.cell? ⟨b7, 1, none⟩ = some (.int .i64 r) ∧ wr.cell? ⟨b7, 2, none⟩ = some (.slice a T c) ∧ wr.cell? ⟨bw, ow + i, none⟩ = some (.int .i64 (p0 : Nat)) ∧ wr.cell? ⟨b9, 0, none⟩ = some (.int .i64 N)) := ⟨x0, x1, x2, HCP0.out, c9⟩
        clear x1 x2
        go_upto_region 12 with (fail)
        go_quiet (fail)
        obtain ⟨wq, hwq⟩ : ∃ wq, wr.drewN nq = wq := ⟨_, rfl⟩
        have hbq : Below wr.heap.size wr wq := by rw [← hwq]; exact bdrewN (bnil wr) nq
        have HTQ := Lib.hid (HTW.out.up hbq)
        have HBQ : Hid (Below wr.heap.size wr wq) := hbq
        have HS1 := Lib.hid (And.intro (cpE hbq HS0.out.1) (And.intro (cpE hbq HS0.out.2.1) (And.intro (cpE hbq HS0.out.2.2.1) (And.intro (cpE hbq HS0.out.2.2.2.1) (cpE hbq HS0.out.2.2.2.2)))))
        rw [hwq]
        clear hbq hwq x0 c9 cp1
        have HD1 : Hid (Below wr.heap.size wr wq.drew) := bstep HBQ.out (Below.drew (bnil wq))
        have HSD : Hid (wq.drew.cell? ⟨b7, 0, none⟩ = some (.int .i64 k) ∧ wq.drew.cell? ⟨b7, 1, none⟩ = some (.int .i64 r) ∧ wq.drew.cell? ⟨b7, 2, none⟩ = some (.slice a T c) ∧ wq.drew.cell? ⟨bw, ow + i, none⟩ = some (.int .i64 (p0 : Nat)) ∧ wq.drew.cell? ⟨b9, 0, none⟩ = some (.int .i64 N)) := HS1.out
        go_upto_region 13 with (fail)
        go_region_held3 (fun w => w.cell? ⟨b7, 0, none⟩ = some (.int .i64 k) ∧ w.cell? ⟨b7, 1, none⟩ = some (.int .i64 r) ∧ w.cell? ⟨b7, 2, none⟩ = some (.slice a T c) ∧ w.cell? ⟨bw, ow + i, none⟩ = some (.int .i64 (p0 : Nat)) ∧ w.cell? ⟨b9, 0, none⟩ = some (.int .i64 N))
          (first | with_reducible exact HSD.out | with_reducible exact HSF.out)
          ((go_at_call 40; refine (HEA.out _ (bstep HBW.out HD1.out)).mono ?_; rintro e w8 ⟨rfl, hb8⟩; have HB8 := Lib.hid (bstep HD1.out hb8); have HSF := Lib.hid (And.intro (cpE hb8 HSD.out.1) (And.intro (cpE hb8 HSD.out.2.1) (And.intro (cpE hb8 HSD.out.2.2.1) (And.intro (cpE hb8 HSD.out.2.2.2.1) (cpE hb8 HSD.out.2.2.2.2))))); clear hb8))
        have HD2 : Hid (Below wr.heap.size wr w8.drew) := bstep HB8.out (Below.drew (bnil w8))
        have HSD2 : Hid (w8.drew.cell? ⟨b7, 0, none⟩ = some (.int .i64 k) ∧ w8.drew.cell? ⟨b7, 1, none⟩ = some (.int .i64 r) ∧ w8.drew.cell? ⟨b7, 2, none⟩ = some (.slice a T c) ∧ w8.drew.cell? ⟨bw, ow + i, none⟩ = some (.int .i64 (p0 : Nat)) ∧ w8.drew.cell? ⟨b9, 0, none⟩ = some (.int .i64 N)) := HSF.out
        clear HSD HD1
        go_upto_region 14 with (fail)
        go_region_held3 (fun w => w.cell? ⟨b7, 0, none⟩ = some (.int .i64 k) ∧ w.cell? ⟨b7, 1, none⟩ = some (.int .i64 r) ∧ w.cell? ⟨b7, 2, none⟩ = some (.slice a T c) ∧ w.cell? ⟨bw, ow + i, none⟩ = some (.int .i64 (p0 : Nat)) ∧ w.cell? ⟨b9, 0, none⟩ = some (.int .i64 N))
          (first | with_reducible exact HSD2.out | with_reducible exact HSF2.out)
          ((go_at_call 40; refine (HEB.out _ (bstep HBW.out HD2.out)).mono ?_; rintro e w9 ⟨rfl, hb9⟩; have HB9 := Lib.hid (bstep HD2.out hb9); have HSF2 := Lib.hid (And.intro (cpE hb9 HSD2.out.1) (And.intro (cpE hb9 HSD2.out.2.1) (And.intro (cpE hb9 HSD2.out.2.2.1) (And.intro (cpE hb9 HSD2.out.2.2.2.1) (cpE hb9 HSD2.out.2.2.2.2))))); clear hb9))
        have c9 := HSF2.out.2.2.2.2
        have HTW9 := Lib.hid (HTW.out.up HB9.out)
        have HB9w : Hid (Below B w5 w9) := HBR.out.trans (HB9.out.mono HSZ.out)
        have HSZ9 : Hid (B ≤ w9.heap.size) := Nat.le_trans HSZ.out HB9.out.size
        obtain ⟨⟨l1, ho1⟩, _, _⟩ := id HTW9.out
        have HO1 := Lib.hid ho1
        clear ho1
        go_upto_region 17 with (fail)
        go_wp2_with (first
          | (at_builtin; have q := HA1; clear q; refine apl rfl _ _ _ rfl B et_int _ na _ HO2.out rfl 1 _ _ rfl rfl rfl rfl (by unfold maxLen; omega) (by omega) HSZA.out ?_; intro ab cb wb hbb; have HA2 := Lib.hid hbb; clear hbb)
          | (at_builtin; refine apl rfl _ _ _ rfl B et_int _ na _ HO1.out rfl 1 _ _ rfl rfl rfl rfl (by unfold maxLen; omega) (by omega) HSZ9.out ?_; intro aa ca wa haa; have HA1 := Lib.hid haa; have HTA := Lib.hid (HTW9.out.app (l := l1) haa); have HSZA : Hid (B ≤ wa.heap.size) := Nat.le_trans HSZ9.out haa.grew; obtain ⟨_, ⟨l2, ho2⟩, _⟩ := id HTA.out; have HO2 := Lib.hid ho2; clear haa ho2))
        have HTB := Lib.hid ((HTA.out.symm.app (l := l2) HA2.out).symm)
        have HBB2 : Hid (Below B w5 wb) := (HB9w.out.trans HA1.out.below).trans HA2.out.below
        have HNA2 : Hid (na + 1 = n2 + (i + 1)) := by have := HNA.out; show _ = _; omega
        refine ⟨⟨i + 1, na + 1, aa, ca, ab, cb, by omega, HNA2.out, by go_num, rfl, rfl, HTB.out, HBB2.out⟩, by simp [intOf]; omega⟩
      · obtain rfl : i = L := by omega
        have i1 : ¬ (i : Int) < (i : Int) := by omega
        have HFN : Hid (na + 1 = 2 * r + nw) := by have h1 := HNA.out; have h2 := HN2.out; have h3 := HL.out; show _ = _; omega
        go_wp2
        go_ret3
        exact ⟨a1, na, ⟨c1, a2, na, c2, rfl⟩, HFN.out, HBW.out⟩
end Go.Proofs.YtiglilecmieelaaGreatDoor
