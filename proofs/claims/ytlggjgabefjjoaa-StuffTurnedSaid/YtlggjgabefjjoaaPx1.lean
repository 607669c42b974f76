-- Written by myprint.py, a program of this session's, over the kit's print.py; not a text of print.sh's own.
import Derived.Test.YtlggjgabefjjoaaPx0
namespace Go.Proofs.Ytlggjgabefjjoaa.Px
open Go.RowKit Go.Proofs.YtlggjgabefjjoaaW.PrintWords Go.Proofs.YtlggjgabefjjoaaW.PrintLast Go.Proofs.YtlggjgabefjjoaaW.PrintMore
attribute [local go_sem] max2_int min2_int max_two min_two max_three min_three max_four min_four   -- for this text's walks alone
set_option linter.unusedVariables false
set_option linter.unusedSimpArgs false

/-! ### phaeton/stuff.runner: helper -/
set_option maxHeartbeats 800000 in
set_option maxRecDepth 100000 in
theorem stuff_run1 (p q B0 : Nat) (s : Int × Int) (b : Int) (w0 w : World) (hp : w.heap[p]? = some (.cells #[.int .i64 s.1] 3 (0, 0))) (hq : w.heap[q]? = some (.cells #[.int .i64 s.2] 3 (0, 0))) (hpq : p ≠ q) (hB : Below B0 w0 w) (hBp : B0 ≤ p) (hBq : B0 ≤ q) :
    Calls Try.prog 24 #[.int .i64 b, .pointer (some ⟨p, 0, none⟩), .pointer (some ⟨q, 0, none⟩)] w fun e w' => e = .returned (.int .i64 (H.runS s b).2) ∧
      w'.heap[p]? = some (.cells #[.int .i64 (H.runS s b).1] 3 (0, 0)) ∧ w'.heap[q]? = some (.cells #[.int .i64 (H.runS s b).2] 3 (0, 0)) ∧ Below B0 w0 w' ∧ Kept w w' (fun k => k = p ∨ k = q) ∧ (∀ J : World → Prop, (∀ A B row, J A → A.grownBy B row → (∀ r, row = some r → r = p ∨ r = q) → J B) → J w → J w') := by
  obtain ⟨last, n⟩ := s
  have c0 : w.cell? ⟨p, 0, none⟩ = some (.int .i64 last) := by rw [blk_cell hp]; rfl
  have c1 : w.cell? ⟨q, 0, none⟩ = some (.int .i64 n) := by rw [blk_cell hq]; rfl
  have f0 : w.frozen? ⟨p, 0, none⟩ = false := blk_frozen hp 0
  have f1 : w.frozen? ⟨q, 0, none⟩ = false := blk_frozen hq 0
  have HP := Aside0.mk hp
  have HQ := Aside0.mk hq
  have HBB := Aside0.mk hB
  clear hp hq hB
  have kS : ∀ (W : World) (u : Value), Kept w W (fun k => k = p ∨ k = q) → Kept w (W.setCell ⟨q, 0, none⟩ u) (fun k => k = p ∨ k = q) := fun W u h => h.setCell (.inl (.inr rfl)) u
  by_cases hx : b = last
  · have hxb : (b != last) = false := by rw [bne_eq_false_iff_eq]; exact hx
    have HR := Aside0.mk (show H.runS (last, n) last = (last, wrap64 (n + 1)) by unfold H.runS; rw [if_pos rfl])
    subst hx
    go_enter Try.func24, Try.ntmps24
    go_wp2_with fail
    go_ret
    rw [HR.out]
    exact ⟨rfl, blk_far HP.out hpq _, blk_set HQ.out 0 _, HBB.out.setCell (p := ⟨q, 0, none⟩) hBq _, kS _ _ (Kept.refl _ _), fun J hJ h0 => hJ _ _ _ h0 (grownBy_setCell' _ q _) (fun r e => by cases e; exact .inr rfl)⟩
  · have hxb : (b != last) = true := by rw [bne_iff_ne]; exact hx
    have HR := Aside0.mk (show H.runS (last, n) b = (b, 1) by unfold H.runS; rw [if_neg hx])
    have hq1 := blk_far HQ.out (p := ⟨p, 0, none⟩) (Ne.symm hpq) (.int .i64 b)
    have hq2 := blk_set hq1 0 (.int .i64 0)
    have hq3 := blk_set hq2 0 (.int .i64 1)
    have hp1 := blk_set HP.out 0 (.int .i64 b)
    have hp2 := blk_far hp1 (p := ⟨q, 0, none⟩) hpq (.int .i64 0)
    have hp3 := blk_far hp2 (p := ⟨q, 0, none⟩) hpq (.int .i64 1)
    have c3 : (((w.setCell ⟨p, 0, none⟩ (.int .i64 b)).setCell ⟨q, 0, none⟩ (.int .i64 0)).setCell ⟨q, 0, none⟩ (.int .i64 1)).cell? ⟨q, 0, none⟩ = some (.int .i64 1) := by rw [blk_cell hq3]; rfl
    have HP3 := Aside0.mk hp3
    have HQ3 := Aside0.mk hq3
    clear hq1 hq2 hq3 hp1 hp2 hp3
    go_enter Try.func24, Try.ntmps24
    go_wp2_with fail
    go_ret
    rw [HR.out]
    refine ⟨rfl, HP3.out, HQ3.out, ((HBB.out.setCell (p := ⟨p, 0, none⟩) hBp _).setCell (p := ⟨q, 0, none⟩) hBq _).setCell (p := ⟨q, 0, none⟩) hBq _, kS _ _ (kS _ _ ((Kept.refl _ _).setCell (.inl (.inl rfl)) _)), fun J hJ h0 => hJ _ _ _ (hJ _ _ _ (hJ _ _ _ h0 (grownBy_setCell' _ p _) (fun r e => by cases e; exact .inl rfl)) (grownBy_setCell' _ q _) (fun r e => by cases e; exact .inr rfl)) (grownBy_setCell' _ q _) (fun r e => by cases e; exact .inr rfl)⟩
theorem stuff_runner_calls (w : World) : Calls Try.prog 21 #[] w fun e w' => e = .returned (.func (.func 24) #[] #[.pointer (some ⟨w.heap.size, 0, none⟩), .pointer (some ⟨w.heap.size + 1, 0, none⟩)]) ∧
      w'.heap[w.heap.size]? = some (.cells #[.int .i64 (-1)] 3 (0, 0)) ∧ w'.heap[w.heap.size + 1]? = some (.cells #[.int .i64 0] 3 (0, 0)) ∧ Below w.heap.size w w' ∧ w'.heap.size = w.heap.size + 2 ∧ (∀ J : World → Prop, (∀ A B, J A → A.grownBy B none → J B) → J w → J w') := by
  have hmf : ∀ (fn : Fn) (first cap : Array Value) (w : World), (Instr.makeFunc fn first cap).run Try.prog w = .ok (.func fn first cap) w := fun _ _ _ _ => rfl
  go_enter Try.func21, Try.ntmps21
  go_wp2
  go_ret
  refine ⟨rfl, ?_, ?_, ?_, ?_, fun J hJ h0 => hJ _ _ (hJ _ _ h0 (World.grownBy_alloc _ _ none)) (World.grownBy_alloc _ _ none)⟩
  · exact blk_alloc (blk_new _ _) _
  · have := blk_new (w.alloc (.cells #[.int .i64 (-1)] 3)) (.cells #[.int .i64 0] 3)
    simpa using this
  · exact below_alloc (below_alloc (Below.refl _ _) _) _
  · simp

/-! ### phaeton/stuff.lengths: helper -/
section
variable {F : Fence} {n : Nat} {P : Program}
/-- A loop over an iterator that has state of its own and tells all of a row: no round leaves it. -/
theorem stuff_range {g : Operand} {ps : Array Tmp} {assign body : Code} {Q : Exit → Act → World → Prop} {a : Act} {w : World} (hro : F.round = none) (h1 : 1 ≤ n) {gf : Nat} {lb : Array Value} (hg : a.eval g = .func (.func gf) #[] lb) (hFg : F.fn gf) (eg : ∀ args w, (callFunc gf args).run P w = .ok (.enter gf args) w)
    (full : List Int) (Kp : World → World → Prop)
    (hit : ∀ (l : Nat) (J : List Int → World → Prop) (W : World), Below w.heap.size w W → w.heap.size ≤ W.heap.size → (∀ s A B row, J s A → A.grownBy B row → (∀ r, row = some r → W.heap.size ≤ r) → J s B) →
      (∀ pre x W1, J pre W1 → YieldAt F (n - 1 - 1) P l #[.int .i64 x] W1 fun e W' => e = .returned (.bool true) ∧ J (pre ++ [x]) W' ∧ Kp W1 W') → J [] W →
      CallsIn F (n - 1) P gf (#[.func (.yield l) #[] #[]] ++ lb) W fun e W' => (∃ v, e = .returned v) ∧ J full W')
    (hKt : ∀ {A B C : World}, Kp A B → Kp B C → Kp A C) (hKb : ∀ (W : World) (l : Nat) (o o' : Obj), W.heap[l]? = some o → o.isCells = false → Kp W (W.putObj l o')) (hps : ps.size = 1)
    (I : List Int → World → Prop) (hI : ∀ s A B row, I s A → A.grownBy B row → (∀ r, row = some r → w.heap.size ≤ r) → I s B) (h0 : I [] w) (a₁ : Int → Act)
    (hassign : ∀ (l : Nat) (x : Int) (W : World) (K : Act → World → Prop), K (a₁ x) W →
      assign.wpIn (F.inRound l) (n - 1 - 1) P (Exit.then K (fun _ _ _ => False)) { tmps := (ps.zip #[Value.int .i64 x]).foldl (fun t (p, v) => t.setIfInBounds p v) a.tmps, defers := [] } W)
    (hbody : ∀ (l : Nat) (pre : List Int) (x : Int) (W : World), I pre W → body.wpIn (F.inRound l) (n - 1 - 1) P (fun e _ W' => e = .normal ∧ KeepsOthers W W' ∧ Kp W W' ∧ I (pre ++ [x]) W') (a₁ x) W)
    (hdone : ∀ (D : Nat) (W : World), w.heap.size ≤ D → I full W → W.heap[D]? = some (.deferred (some [])) → Q .normal { a with defers := { target := .collected D, args := #[] } :: a.defers } W) :
    (Code.rangeFunc g ps assign body).wpIn F n P Q a w := by
  refine wpIn_rangeFunc fun fn hfn => ?_
  rw [hro]
  obtain ⟨rc, hrc⟩ : ∃ rc : LoopState → Loop, rc = fun st => { state := st, pending := none, fn, tmps := a.tmps, params := ps, assign, body, defers := w.heap.size } := ⟨_, rfl⟩
  obtain ⟨W1, hW1⟩ : ∃ W1, (w.alloc (.deferred (some []))).alloc (.loop (rc .ready)) = W1 := ⟨_, rfl⟩
  have hs : W1.heap.size = w.heap.size + 2 := by rw [← hW1]; simp
  have hL : W1.heap[w.heap.size + 1]? = some (.loop (rc .ready)) := by
    have := heap_alloc_new (w.alloc (.deferred (some []))) (.loop (rc .ready))
    rw [← hW1]; simpa using this
  have hD : W1.heap[w.heap.size]? = some (.deferred (some [])) := by
    rw [← hW1]; exact (Below.heap_alloc _ _ _ (by simp)).trans (heap_alloc_new w _)
  have hI1 : I [] W1 := by
    rw [← hW1]
    exact hI _ _ _ none (hI _ _ _ none h0 (World.grownBy_alloc _ _ none) (fun r e => by cases e)) (World.grownBy_alloc _ _ none) (fun r e => by cases e)
  have hb : Below w.heap.size w W1 := by rw [← hW1]; exact below_alloc (below_alloc (Below.refl _ _) _) _
  refine ⟨w.heap.size + 1, [{ target := .collected w.heap.size, args := #[] }], W1, { target := .fn (.func gf) lb, args := #[.func (.yield (w.heap.size + 1)) #[] #[]] }, W1, gf, #[.func (.yield (w.heap.size + 1)) #[] #[]] ++ lb, W1, ?_, ?_, ?_, ?_, fun _ => h1, ?_⟩
  · rw [← hW1, hrc]; exact run_enterLoop_outer _ _ _ _ _
  · simp only [resolve, hg]; simp [go_sem]
  · intro f' hf'; simp [Target.leads] at hf'; subst hf'; exact hFg
  · simp [invoke, go_sem, eg]
  · refine (hit (w.heap.size + 1) (fun pre W => I pre W ∧ W.heap[w.heap.size + 1]? = some (.loop (rc .ready)) ∧ W.heap[w.heap.size]? = some (.deferred (some []))) W1 hb (by omega) ?_ ?_ ⟨hI1, hL, hD⟩).mono ?_
    · rintro s A B row ⟨x1, x2, x3⟩ hgr hr
      exact ⟨hI s A B row x1 hgr (fun r e => by have := hr r e; omega), blk_grown x2 hgr (fun e => by have := hr _ e.symm; omega), blk_grown x3 hgr (fun e => by have := hr _ e.symm; omega)⟩
    · rintro pre x W ⟨x1, x2, x3⟩
      have hlt := blk_lt x2
      have hy := run_yield (P := P) (args := #[Value.int .i64 x]) x2 (by rw [hrc]; exact hps.symm)
      rw [hrc] at hy
      refine ⟨fn, _, assign, body, hy, roundIn_of_wpIn hfn (hassign _ x W _ ⟨_, run_beginRound x2 (by rw [hrc]), ?_⟩)⟩
      have i2 := hI _ _ _ _ x1 (grownBy_putObj' W (w.heap.size + 1) (.loop { rc .ready with state := .busy })) (fun r e => by cases e; omega)
      have l2 : (W.putObj (w.heap.size + 1) (.loop { rc .ready with state := .busy })).heap[w.heap.size + 1]? = some (.loop { rc .ready with state := .busy }) := World.putObj_heap_same hlt
      have d2 : (W.putObj (w.heap.size + 1) (.loop { rc .ready with state := .busy })).heap[w.heap.size]? = some (.deferred (some [])) := (World.putObj_heap_other (by omega)).trans x3
      refine wpIn_mono (hbody _ pre x _ i2) ?_
      rintro e a3 W3 ⟨rfl, k3, p3, i3⟩
      have l3 := k3.same _ _ l2 rfl
      have d3 := k3.same _ _ d2 rfl
      have hr := run_endRound (P := P) none l3
      refine ⟨_, _, hr, rfl, ⟨hI _ _ _ _ i3 (grownBy_putObj' W3 (w.heap.size + 1) _) (fun r e => by cases e; omega), ?_, (World.putObj_heap_other (by omega)).trans d3⟩, hKt (hKt (hKb _ _ _ _ x2 rfl) p3) (hKb _ _ _ _ l3 rfl)⟩
      rw [World.putObj_heap_same (blk_lt l3), hrc]; rfl
    · rintro e W2 ⟨⟨v, rfl⟩, x1, x2, x3⟩
      refine ⟨none, _, by have := run_endLoop (P := P) x2 (by rw [hrc]; simp); rw [hrc] at this; exact this, hdone _ _ (Nat.le_refl _) (hI _ _ _ _ x1 (grownBy_putObj' W2 (w.heap.size + 1) _) (fun r e => by cases e; omega)) ((World.putObj_heap_other (by omega)).trans x3)⟩
end
/-- All cells lie as they lay, but the block ob's. -/
def stuff_Kp (ob : Nat) (A B : World) : Prop := A.heap.size ≤ B.heap.size ∧ ∀ i o, i ≠ ob → A.heap[i]? = some o → o.isCells = true → B.heap[i]? = some o
theorem stuff_Kp.trans {ob : Nat} {A B C : World} (h : stuff_Kp ob A B) (k : stuff_Kp ob B C) : stuff_Kp ob A C := ⟨Nat.le_trans h.1 k.1, fun i o hi ho hc => k.2 i o hi (h.2 i o hi ho hc) hc⟩
theorem stuff_Kp.refl (ob : Nat) (A : World) : stuff_Kp ob A A := ⟨Nat.le_refl _, fun _ _ _ h _ => h⟩
theorem stuff_Kp.put (ob : Nat) (W : World) (l : Nat) (o o' : Obj) (h : W.heap[l]? = some o) (hc : o.isCells = false) : stuff_Kp ob W (W.putObj l o') := by
  refine ⟨(grownBy_putObj' W l o').size, fun i u hi hu hcu => blk_grown hu (grownBy_putObj' W l o') (fun e => ?_)⟩
  cases e
  rw [h] at hu; cases hu
  rw [hc] at hcu; cases hcu
theorem stuff_Kp.below {ob : Nat} {A B : World} (h : Below A.heap.size A B) : stuff_Kp ob A B := ⟨h.size, fun i o _ ho _ => blk_below ho h⟩
theorem stuff_Kp.kept {ob : Nat} {A B C : World} {S : Nat → Prop} (h : stuff_Kp ob A B) (k : Kept B C S) (hs : ∀ i, S i → A.heap.size ≤ i) : stuff_Kp ob A C :=
  ⟨Nat.le_trans h.1 k.1, fun i o hi ho hc => by
    have := blk_lt ho
    exact blk_kept (h.2 i o hi ho hc) k (fun hk => by have := hs i hk; omega)⟩
theorem stuff_Kp.cell {ob : Nat} {A B : World} (h : stuff_Kp ob A B) {a : Addr} {v : Value} (hc : A.cell? a = some v) (ha : a.block ≠ ob) : B.cell? a = some v := by
  obtain ⟨o, ho, hoc⟩ := cells_of_cell hc
  have := h.2 _ o ha ho hoc
  have e : B.heap[a.block]? = A.heap[a.block]? := this.trans ho.symm
  simpa [World.cell?, e] using hc
section
attribute [local go_sem] Oper.semAt_some
set_option maxRecDepth 100000 in
set_option maxHeartbeats 1600000 in
theorem stuff_iter (d l ob Lb : Nat) (hd : 1 ≤ d) (A0 : Option Addr) (c0 : Nat) (l0 : List Int) (J : List Int → World → Prop) (W : World)
    (hLb : W.heap[Lb]? = some (.cells #[.slice A0 l0.length c0] 22 (0, 0))) (hne : Lb ≠ ob) (hoW : ob < W.heap.size) (hr0 : Kd.C (Kd.int .i64) W A0 l0.length l0) (hA : ∀ (ad : Addr) (k : Nat), A0 = some ad → k < l0.length → (ad.add k).block ≠ ob)
    (hJ : ∀ s A B row, J s A → A.grownBy B row → (∀ r, row = some r → W.heap.size ≤ r) → J s B)
    (hY : ∀ pre x W1, J pre W1 → YieldAt Fence.wide (d - 1) Try.prog l #[.int .i64 x] W1 fun e W' => e = .returned (.bool true) ∧ J (pre ++ [x]) W' ∧ stuff_Kp ob W1 W') (h0 : J [] W) :
    CallsIn Fence.wide d Try.prog 25 #[.func (.yield l) #[] #[], .pointer (some ⟨Lb, 0, none⟩)] W fun e W' => (∃ v, e = .returned v) ∧ J (H.tellB l0) W' := by
  have hm := hr0.2.1
  have cLb : W.cell? ⟨Lb, 0, none⟩ = some (.slice A0 l0.length c0) := by rw [blk_cell hLb]; rfl
  have hf1 : Fence.wide.fn 21 := trivial
  have hf2 : Fence.wide.fn 24 := trivial
  refine callsIn_of_wp Try.func25 rfl trivial ?_ rfl
  simp only [Try.ntmps25, List.size_toArray, List.length_cons, List.length_nil, Nat.reduceAdd, Nat.reduceSub, Array.replicate_succ, Array.replicate_zero, List.push_toArray, List.append_toArray, List.nil_append, List.cons_append]
  gi_wp2_with (gi_at_call 21; refine (callsIn_wide.2 (stuff_runner_calls _)).mono ?_; rintro e w1 ⟨rfl, hp1, hq1, hb1, hs1, hj1⟩; have cLb1 := pw_cell_below hb1 cLb)
  have HP := Aside0.mk hp1
  have HQ := Aside0.mk hq1
  have HK := Aside0.mk (stuff_Kp.below (ob := ob) hb1)
  have HJ := Aside0.mk (hj1 (J []) (fun A B hA hg => hJ _ _ _ none hA hg (fun r e => by cases e)) h0)
  clear hp1 hq1 hb1 hj1
  gi_loopw [9] (fun v wr => ∃ k : Nat, k ≤ l0.length ∧ v = .int .i64 k ∧ Aside0 (J (H.tellT (l0.take k)).1 wr) ∧ Aside0 (stuff_Kp ob W wr) ∧
      Aside0 (wr.heap[W.heap.size]? = some (.cells #[.int .i64 (H.tellT (l0.take k)).2.1] 3 (0, 0))) ∧ Aside0 (wr.heap[W.heap.size + 1]? = some (.cells #[.int .i64 (H.tellT (l0.take k)).2.2] 3 (0, 0)))) (fun v wr => l0.length - (intOf v).toNat)
  case atStart => exact ⟨0, Nat.zero_le _, rfl, HJ, HK, HP, HQ⟩
  case round =>
    clear HJ HK HP HQ
    obtain ⟨k, hk, rfl, HJ, HK, HP, HQ⟩ := hrel
    have hsz := blk_lt HQ.out
    by_cases hlt : k < l0.length
    · have p1 : 0 ≤ (k : Int) := by omega
      have q1 : (k : Int) < (l0.length : Int) := by omega
      obtain ⟨ad, e1, hx⟩ := Kd.at_int hr0 k p1 q1
      have hx2 : wr.cell? (ad.add k) = some (.int .i64 (rd l0 k)) := HK.out.cell hx (hA ad _ e1 (by omega))
      have hadW := World.block_lt_of_cell? _ _ hx
      subst e1
      clear hx
      have hsn : H.tellT (l0.take (k + 1)) = H.tellStep (H.tellT (l0.take k)) (rd l0 k) := by rw [H.take_snoc 0 l0 k hlt, H.tellT_snoc]; rfl
      generalize hS : H.tellT (l0.take k) = S at HJ HP HQ hsn
      obtain ⟨out, s⟩ := S
      clear hS
      have HSN := Aside0.mk (hsn.trans (show H.tellStep (out, s) (rd l0 k) = (out ++ [(H.runS s (rd l0 k)).2], H.runS s (rd l0 k)) from rfl))
      clear hsn
      gi_wp2_with (gi_at_call 24; refine (callsIn_wide.2 (stuff_run1 W.heap.size (W.heap.size + 1) W.heap.size s (rd l0 k) wr wr HP.out HQ.out (by omega) (Below.refl _ _) (by omega) (by omega))).mono ?_; rintro e w3 ⟨rfl, hp3, hq3, hb3, hk3, hj3⟩)
      have hJ3 := hj3 (J out) (fun A B row hA hg hr => hJ _ _ _ _ hA hg (fun r e => by rcases hr r e with h | h <;> omega)) HJ.out
      have hK3 := HK.out.kept hk3 (fun i hi => by rcases hi with h | h <;> omega)
      obtain ⟨fn, tmps, assign, body, hy, hR⟩ := hY out _ w3 hJ3
      rw [hy, Oper.uponIn_round]
      refine ⟨fun h => by simp [Fence.wide] at h, hR.mono ?_⟩
      rintro e W4 ⟨rfl, hJ4, hk4⟩
      have hp4 := hk4.2 _ _ (by omega) hp3 rfl
      have hq4 := hk4.2 _ _ (by omega) hq3 rfl
      have HJ4 := Aside0.mk hJ4
      have HK4 := Aside0.mk (hK3.trans hk4)
      have HP4 := Aside0.mk hp4
      have HQ4 := Aside0.mk hq4
      clear hp3 hq3 hb3 hk3 hj3 hJ3 hK3 hy hR hJ4 hk4 hp4 hq4 HJ HP HQ HK
      gi_wp2
      go_roundw
      case rel => exact ⟨k + 1, by omega, by go_num, ⟨by rw [HSN.out]; exact HJ4.out⟩, HK4, ⟨by rw [HSN.out]; exact HP4.out⟩, ⟨by rw [HSN.out]; exact HQ4.out⟩⟩
      case measure => first | (simp [intOf]; done) | (simp [intOf]; omega)
    · obtain rfl : k = l0.length := by omega
      rw [List.take_length] at HJ
      gi_wp2
      go_end0
      exact ⟨⟨_, rfl⟩, HJ.out⟩
end
theorem stuff_lengths_calls (A0 : Option Addr) (c0 n : Nat) (w : World) : Calls Try.prog 23 #[.slice A0 n c0] w fun e w' => e = .returned (.func (.func 25) #[] #[.pointer (some ⟨w.heap.size, 0, none⟩)]) ∧ w' = w.alloc (.cells #[.slice A0 n c0] 22) := by
  have hmf : ∀ (fn : Fn) (first cap : Array Value) (w : World), (Instr.makeFunc fn first cap).run Try.prog w = .ok (.func fn first cap) w := fun _ _ _ _ => rfl
  go_enter Try.func23, Try.ntmps23
  go_wp2
  go_ret
  exact ⟨rfl, rfl⟩

/-! ### stuff_Strip: function 13 -/
def stuff_Strip.f (l0 : List Int) : Option (List Int × Int) := if l0.length ≤ 1099511627776 then some (H.stripB l0) else none
set_option maxHeartbeats 1600000 in
set_option maxRecDepth 100000 in
theorem stuff_Strip.calls (A0 : Option Addr) (c0 : Nat) (l0 : List Int) (r1 : List Int) (r2 : Int) (w : World) (hr0 : Kd.C (Kd.int .i64) w A0 l0.length l0) (hc0 : l0.length ≤ c0) (h : stuff_Strip.f l0 = some (r1, r2)) :
    Calls Try.prog 13 #[.slice A0 l0.length c0] w fun e w' => ∃ v0_ : Value, e = .returned (.tuple #[v0_, .int .i64 r2]) ∧ Kd.R (Kd.int .i64) 3 w' w.heap.size (fun _ => True) v0_ r1 ∧ Below w.heap.size w w' := by
  unfold stuff_Strip.f at h
  by_cases hle : l0.length ≤ 1099511627776
  case neg => rw [if_neg hle] at h; cases h
  rw [if_pos hle] at h
  have hres := Option.some.inj h
  have hstart : H.stripGo (l0.drop 0) 0 [] (-1, 0) = (r1, r2) := hres
  have HST := Aside0.mk hstart
  clear h hres hstart
  have HR0 := Aside0.mk hr0
  have HC0 := Aside0.mk hc0
  clear hr0 hc0
  go_enter Try.func13, Try.ntmps13
  go_wp2_with fail
  go_step3
  go_wp2_with fail
  refine (stuff_runner_calls w).mono ?_
  rintro e w1 ⟨rfl, hp1, hq1, hb1, hs1, hj1⟩
  have HP := Aside0.mk hp1
  have HQ := Aside0.mk hq1
  have HB := Aside0.mk hb1
  clear hp1 hq1 hb1 hs1 hj1
  go_wp2_with fail
  go_step3
  go_wp2_with fail
  go_loopw [4, 6, 7, 14] (fun u n f v wr => ∃ (k : Nat) (out : List Int) (s : Int × Int), k ≤ l0.length ∧ v = .int .i64 k ∧ n = .int .i64 s.2 ∧ f = .int .i64 (-1) ∧ Aside0 (out.length ≤ k) ∧ Aside0 (H.stripGo (l0.drop k) k out s = (r1, r2)) ∧
      Aside0 (Kd.R (Kd.int .i64) 3 wr w.heap.size (fun k => k ≠ w.heap.size ∧ k ≠ w.heap.size + 1) u out) ∧
      Aside0 (wr.heap[w.heap.size]? = some (.cells #[.int .i64 s.1] 3 (0, 0))) ∧ Aside0 (wr.heap[w.heap.size + 1]? = some (.cells #[.int .i64 s.2] 3 (0, 0))) ∧ Aside0 (Below w.heap.size w wr)) (fun _ _ _ v _ => l0.length - (intOf v).toNat)
  case atStart => exact ⟨0, [], (-1, 0), Nat.zero_le _, rfl, rfl, rfl, ⟨Nat.le_refl _⟩, HST, ⟨Kd.R_nil _ _ _ _ _⟩, HP, HQ, HB⟩
  case round =>
    clear HP HQ HB HST
    obtain ⟨k, out, s, hk, rfl, rfl, rfl, HL, HST, HO, HP, HQ, HB⟩ := hrel
    by_cases hlt : k < l0.length
    · have p1 : 0 ≤ (k : Int) := by omega
      have q1 : (k : Int) < (l0.length : Int) := by omega
      obtain ⟨ad, e1, hx⟩ := Kd.at_int HR0.out k p1 q1
      cases e1
      have hx2 : wr.cell? (ad.add k) = some (.int .i64 (rd l0 k)) := pw_cell_below HB.out hx
      clear hx
      have hsz := blk_lt HQ.out
      have hd : l0.drop k = rd l0 k :: l0.drop (k + 1) := by
        rw [List.drop_eq_getElem_cons hlt]; simp [rd, List.getD_eq_getElem?_getD, List.getElem?_eq_getElem hlt]
      have hst := HST.out
      rw [hd] at hst
      have HD := Aside0.mk hst
      clear hst hd HST
      go_wp2_with fail
      refine (stuff_run1 w.heap.size (w.heap.size + 1) w.heap.size s (rd l0 k) w _ HP.out HQ.out (by omega) HB.out (by omega) (by omega)).mono ?_
      rintro e w3 ⟨rfl, hp3, hq3, hb3, hk3, hj3⟩
      have ho3 := Kd.R_kept HO.out hk3 (fun j hj hs => hs.elim hj.1 hj.2)
      clear hj3 hk3 HP HQ HO HB
      have hsz3 := blk_lt hq3
      have HS1 := Aside0.mk (rfl : H.runS s (rd l0 k) = H.runS s (rd l0 k))
      have HP3 := Aside0.mk hp3
      have HQ3 := Aside0.mk hq3
      have HO3 := Aside0.mk ho3
      have HB3 := Aside0.mk hb3
      clear hp3 hq3 ho3 hb3
      by_cases c : s.2 = 5
      · have cb : (s.2 == 5) = true := beq_iff_eq.mpr c
        by_cases c2 : (H.runS s (rd l0 k)).2 > 5
        · have cb2 : decide (5 < (H.runS s (rd l0 k)).2) = true := decide_eq_true c2
          have hst := HD.out
          unfold H.stripGo at hst
          rw [if_pos c, if_pos c2] at hst
          obtain ⟨rfl, rfl⟩ := Prod.mk.inj hst
          have cb3 : decide ((k : Int) < 0) = false := decide_eq_false (by omega)
          clear hst
          go_wp2_with fail
          rw [Exit.noGoto_ret]
          go_ret2
          exact ⟨_, rfl, Kd.R_mono HO3.out (fun _ _ => trivial), HB3.out⟩
        · have cb2 : decide (5 < (H.runS s (rd l0 k)).2) = false := decide_eq_false c2
          have hst := HD.out
          unfold H.stripGo at hst
          rw [if_pos c, if_neg c2] at hst
          have HST := Aside0.mk hst
          clear hst
          go_wp2_with fail
          go_roundw
          case rel => exact ⟨k + 1, out, _, by omega, by go_num, rfl, rfl, ⟨by have := HL.out; omega⟩, HST, HO3, HP3, HQ3, HB3⟩
          case measure => simp [intOf]; omega
      · have cb : (s.2 == 5) = false := beq_eq_false_iff_ne.mpr c
        have hst := HD.out
        unfold H.stripGo at hst
        rw [if_neg c] at hst
        have HST := Aside0.mk hst
        clear hst
        have hl8 : (out.length + 1) * 8 ≤ 140737488355328 := by have := HL.out; omega
        go_wp2_with (first | ((with_reducible refine gate_builtin (b := .append) (xs := #[.tmp 34, .tmp 36]) rfl ?_); at_builtin; refine Kd.R_append (Kd.int .i64) (w0 := w) w.heap.size rfl (.tmp 34) (.tmp 36) 22 3 (.int .i64 0) 8 rfl Try.underlying22 info3 rfl (by decide) (by omega) u4 out (rd l0 k) [.int .i64 (rd l0 k)] (fun k => k ≠ w.heap.size ∧ k ≠ w.heap.size + 1) (fun _ => False) rfl rfl rfl (fun _ hk => hk.elim) (fun j hj => ⟨by omega, by omega⟩) HO3.out HB3.out (by omega) hl8 ?_; intro v1 w2 ho2 hb2 hg2 hat2))
        have hp2 := blk_grown HP3.out hg2 (fun he => (HO3.out.1 _ he.symm).1 rfl)
        have hq2 := blk_grown HQ3.out hg2 (fun he => (HO3.out.1 _ he.symm).2 rfl)
        go_roundw
        case rel => exact ⟨k + 1, out ++ [rd l0 k], _, by omega, by go_num, rfl, rfl, ⟨by rw [List.length_append, List.length_singleton]; have := HL.out; omega⟩, HST, ⟨ho2⟩, ⟨hp2⟩, ⟨hq2⟩, ⟨hb2⟩⟩
        case measure => simp [intOf]; omega
    · obtain rfl : k = l0.length := by omega
      have hst := HST.out
      rw [List.drop_length] at hst
      unfold H.stripGo at hst
      by_cases c : s.2 = 5
      · have cb : (s.2 == 5) = true := beq_iff_eq.mpr c
        rw [if_pos c] at hst
        obtain ⟨rfl, rfl⟩ := Prod.mk.inj hst
        clear hst
        go_wp2_with fail
        rw [Exit.noGoto_ret]
        go_ret2
        exact ⟨_, rfl, Kd.R_mono HO.out (fun _ _ => trivial), HB.out⟩
      · have cb : (s.2 == 5) = false := beq_eq_false_iff_ne.mpr c
        rw [if_neg c] at hst
        obtain ⟨rfl, rfl⟩ := Prod.mk.inj hst
        clear hst
        go_wp2_with fail
        rw [Exit.noGoto_ret]
        go_ret2
        exact ⟨_, rfl, Kd.R_mono HO.out (fun _ _ => trivial), HB.out⟩

/-! ### phaetonref03_Ints: function 15 -/
def phaetonref03_Ints.l0 : Nat → List Int → List Int → Int → Option (Bool)
  | 0, _, _, _ => none
  | k + 1, x0, x1, x5 => if x5 < (x0.length : Int) then (if 0 ≤ x5 then (if x5 < (x1.length : Int) then (if (rd x0 x5) = (rd x1 x5) then (phaetonref03_Ints.l0 k x0 x1 (wrap64 (x5 + 1))) else (some false)) else (none)) else (none)) else (some true)
def phaetonref03_Ints.f (k : Nat) (l0 : List Int) (l1 : List Int) : Option (Bool) := if (l0.length : Int) = (l1.length : Int) then (phaetonref03_Ints.l0 k l0 l1 0) else (some false)
theorem phaetonref03_Ints.mono_l : ∀ k, (∀ y0 y1 y2, LeO (phaetonref03_Ints.l0 k y0 y1 y2) (phaetonref03_Ints.l0 (k + 1) y0 y1 y2))
  | 0 => fun _ _ _ r h => by simp [phaetonref03_Ints.l0] at h
  | k + 1 => by
    have ih0 := phaetonref03_Ints.mono_l k
    · intro y0 y1 y2
      unfold phaetonref03_Ints.l0
      repeat' first
      | (with_reducible exact ih0 _ _ _)
      | (with_reducible exact LeO.refl _)
      | (with_reducible exact LeO.none _)
      | (with_reducible refine LeO.ite ?_ ?_)
      | (with_reducible refine LeO.bind ?_ (fun _ => ?_))
      | exact ih0 _ _ _
      | exact LeO.none _
      | refine LeO.ite ?_ ?_
      | refine LeO.bind ?_ (fun _ => ?_)
theorem phaetonref03_Ints.mono : ∀ a0 a1 k, LeO (phaetonref03_Ints.f k a0 a1) (phaetonref03_Ints.f (k + 1) a0 a1) := by
  intro a0 a1 k
  have ih0 := phaetonref03_Ints.mono_l k
  unfold phaetonref03_Ints.f
  repeat' first
      | (with_reducible exact ih0 _ _ _)
      | (with_reducible exact LeO.refl _)
      | (with_reducible exact LeO.none _)
      | (with_reducible refine LeO.ite ?_ ?_)
      | (with_reducible refine LeO.bind ?_ (fun _ => ?_))
      | exact ih0 _ _ _
      | exact LeO.none _
      | refine LeO.ite ?_ ?_
      | refine LeO.bind ?_ (fun _ => ?_)
set_option maxHeartbeats 8000000 in
set_option maxRecDepth 100000 in
theorem phaetonref03_Ints.calls (k : Nat) (A0 : Option Addr) (c0 : Nat) (l0 : List Int) (A1 : Option Addr) (c1 : Nat) (l1 : List Int) (r : Bool) (w : World) (hr0 : Kd.C (Kd.int .i64) w A0 l0.length l0) (hc0 : l0.length ≤ c0) (hr1 : Kd.C (Kd.int .i64) w A1 l1.length l1) (hc1 : l1.length ≤ c1) (h : phaetonref03_Ints.f k l0 l1 = some r) :
    Calls Try.prog 15 #[.slice A0 l0.length c0, .slice A1 l1.length c1] w fun e w' => e = .returned (.bool r) ∧ Drawn0 w w' := by
  have HR0 := Aside0.mk hr0
  have HC0 := Aside0.mk hc0
  clear hr0 hc0
  have HR1 := Aside0.mk hr1
  have HC1 := Aside0.mk hc1
  clear hr1 hc1
  have H : (if (l0.length : Int) = (l1.length : Int) then (phaetonref03_Ints.l0 k l0 l1 0) else (some false)) = some r := h
  clear h
  by_cases c3 : (l0.length : Int) = (l1.length : Int)
  · rw [if_pos c3] at H
    have c3b0 : ((l0.length : Int) == (l1.length : Int)) = true := beq_iff_eq.mpr c3
    have c3b1 : ((l0.length : Int) != (l1.length : Int)) = false := bne_eq_false_iff_eq.mpr c3
    have c3b2 : (l0.length == l1.length) = true := by first | simpa using c3 | (simp at c3 ⊢; omega)
    clear c3
    have H' := Aside0.mk H
    clear H
    go_enter Try.func15, Try.ntmps15
    go_wp2
    repeat (go_quiet (fail); try go_wp2)
    go_loopg [5] k (fun kq v5 w' => ∃ (x5_1 : Int), v5 = .int .i64 x5_1 ∧ Aside0 (phaetonref03_Ints.l0 kq l0 l1 x5_1 = some r) ∧ Aside0 (kq ≤ k) ∧ Drawn0 w w')
    case atStart => exact ⟨(0), (by first | rfl | (simp; done) | (simp [*]; done)), H', ⟨Nat.le_refl _⟩, by repeat (first | exact Drawn0.refl _ | apply Drawn0.step)⟩
    case round =>
      clear H'
      try clear c1
      try clear p2
      try clear c3
      try clear c3b0
      try clear c3b1
      try clear c3b2
      obtain ⟨x5_1, rfl, HA, HK1, ⟨m1, rfl⟩⟩ := hrel
      cases gk with
      | zero => exact absurd HA.out (by simp [phaetonref03_Ints.l0])
      | succ k1 =>
        have H := HA.out
        clear HA
        simp only [phaetonref03_Ints.l0] at H
        by_cases c4 : x5_1 < (l0.length : Int)
        · rw [if_pos c4] at H
          have c4b0 : decide (x5_1 < (l0.length : Int)) = true := decide_eq_true c4
          clear c4
          by_cases c5 : 0 ≤ x5_1
          · rw [if_pos c5] at H
            have c5b0 : decide (0 ≤ x5_1) = true := decide_eq_true c5
            clear c5
            by_cases c6 : x5_1 < (l1.length : Int)
            · rw [if_pos c6] at H
              have c6b0 : decide (x5_1 < (l1.length : Int)) = true := decide_eq_true c6
              clear c6
              by_cases c7 : (rd l0 x5_1) = (rd l1 x5_1)
              · rw [if_pos c7] at H
                have c7b0 : ((rd l0 x5_1) == (rd l1 x5_1)) = true := beq_iff_eq.mpr c7
                have c7b1 : ((rd l0 x5_1) != (rd l1 x5_1)) = false := bne_eq_false_iff_eq.mpr c7
                clear c7
                have H' := Aside0.mk H
                clear H
                have p101 : 0 ≤ (x5_1 : Int) := of_decide_eq_true (by first | (with_reducible assumption) | assumption)
                have q101 : x5_1 < (l0.length : Int) := of_decide_eq_true (by first | (with_reducible assumption) | assumption)
                obtain ⟨ad101, e101, hx101_0⟩ := Kd.at_int HR0.out x5_1 p101 q101
                cases e101
                replace p101 := eq_true p101
                replace q101 := eq_true q101
                have p102 : 0 ≤ (x5_1 : Int) := of_decide_eq_true (by first | (with_reducible assumption) | assumption)
                have q102 : x5_1 < (l1.length : Int) := of_decide_eq_true (by first | (with_reducible assumption) | assumption)
                obtain ⟨ad102, e102, hx102_0⟩ := Kd.at_int HR1.out x5_1 p102 q102
                cases e102
                replace p102 := eq_true p102
                replace q102 := eq_true q102
                go_wp2
                repeat (go_quiet (fail); try go_wp2)
                go_roundg k1
                case measure => have := HK1.out; omega
                case rel => exact ⟨(wrap64 (x5_1 + 1)), (by first | rfl | (simp; done) | (simp [*]; done)), H', ⟨by have := HK1.out; omega⟩, by repeat (first | exact Drawn0.refl _ | apply Drawn0.step)⟩
              · rw [if_neg c7] at H
                have c7b0 : ((rd l0 x5_1) == (rd l1 x5_1)) = false := beq_eq_false_iff_ne.mpr c7
                have c7b1 : ((rd l0 x5_1) != (rd l1 x5_1)) = true := bne_iff_ne.mpr c7
                obtain rfl := Option.some.inj H
                have p101 : 0 ≤ (x5_1 : Int) := of_decide_eq_true (by first | (with_reducible assumption) | assumption)
                have q101 : x5_1 < (l0.length : Int) := of_decide_eq_true (by first | (with_reducible assumption) | assumption)
                obtain ⟨ad101, e101, hx101_0⟩ := Kd.at_int HR0.out x5_1 p101 q101
                cases e101
                replace p101 := eq_true p101
                replace q101 := eq_true q101
                have p102 : 0 ≤ (x5_1 : Int) := of_decide_eq_true (by first | (with_reducible assumption) | assumption)
                have q102 : x5_1 < (l1.length : Int) := of_decide_eq_true (by first | (with_reducible assumption) | assumption)
                obtain ⟨ad102, e102, hx102_0⟩ := Kd.at_int HR1.out x5_1 p102 q102
                cases e102
                replace p102 := eq_true p102
                replace q102 := eq_true q102
                go_wp2
                repeat (go_quiet (fail); try go_wp2)
                go_ret
                exact ⟨by first | rfl | (simp; done) | (simp [*]; done), by repeat (first | exact Drawn0.refl _ | apply Drawn0.step)⟩
            · rw [if_neg c6] at H
              exact absurd H (by simp)
          · rw [if_neg c5] at H
            exact absurd H (by simp)
        · rw [if_neg c4] at H
          have c4b0 : decide (x5_1 < (l0.length : Int)) = false := decide_eq_false c4
          clear c4
          obtain rfl := Option.some.inj H
          go_wp2
          repeat (go_quiet (fail); try go_wp2)
          go_ret
          exact ⟨by first | rfl | (simp; done) | (simp [*]; done), by repeat (first | exact Drawn0.refl _ | apply Drawn0.step)⟩
  · rw [if_neg c3] at H
    have c3b0 : ((l0.length : Int) == (l1.length : Int)) = false := beq_eq_false_iff_ne.mpr c3
    have c3b1 : ((l0.length : Int) != (l1.length : Int)) = true := bne_iff_ne.mpr c3
    have c3b2 : (l0.length == l1.length) = false := by first | simpa using c3 | (simp at c3 ⊢; omega)
    obtain rfl := Option.some.inj H
    go_enter Try.func15, Try.ntmps15
    go_wp2
    repeat (go_quiet (fail); try go_wp2)
    go_ret
    exact ⟨by first | rfl | (simp; done) | (simp [*]; done), by repeat (first | exact Drawn0.refl _ | apply Drawn0.step)⟩

/-! ### stuff_Stuff: function 16 -/
def stuff_Stuff.f (l0 : List Int) : Option (List Int) := if l0.length ≤ 1099511627776 then some (H.stuffB l0) else none
set_option maxHeartbeats 1600000 in
set_option maxRecDepth 100000 in
theorem stuff_Stuff.calls (A0 : Option Addr) (c0 : Nat) (l0 : List Int) (r : List Int) (w : World) (hr0 : Kd.C (Kd.int .i64) w A0 l0.length l0) (hc0 : l0.length ≤ c0) (h : stuff_Stuff.f l0 = some r) :
    Calls Try.prog 16 #[.slice A0 l0.length c0] w fun e w' => ∃ v0_ : Value, e = .returned v0_ ∧ Kd.R (Kd.int .i64) 3 w' w.heap.size (fun _ => True) v0_ r ∧ Below w.heap.size w w' := by
  unfold stuff_Stuff.f at h
  by_cases hle : l0.length ≤ 1099511627776
  case neg => rw [if_neg hle] at h; cases h
  rw [if_pos hle] at h
  obtain rfl := Option.some.inj h
  clear h
  have HR0 := Aside0.mk hr0
  have HC0 := Aside0.mk hc0
  clear hr0 hc0
  go_enter Try.func16, Try.ntmps16
  go_wp2_with fail
  refine (stuff_runner_calls w).mono ?_
  rintro e w1 ⟨rfl, hp1, hq1, hb1, hs1, hj1⟩
  have HP := Aside0.mk hp1
  have HQ := Aside0.mk hq1
  have HB := Aside0.mk hb1
  clear hp1 hq1 hb1 hs1 hj1
  go_wp2_with fail
  go_loopw [3, 10] (fun u v wr => ∃ k : Nat, k ≤ l0.length ∧ v = .int .i64 k ∧ Aside0 (Kd.R (Kd.int .i64) 3 wr w.heap.size (fun k => k ≠ w.heap.size ∧ k ≠ w.heap.size + 1) u (H.stuffS (l0.take k)).1) ∧
      Aside0 (wr.heap[w.heap.size]? = some (.cells #[.int .i64 (H.stuffS (l0.take k)).2.1] 3 (0, 0))) ∧ Aside0 (wr.heap[w.heap.size + 1]? = some (.cells #[.int .i64 (H.stuffS (l0.take k)).2.2] 3 (0, 0))) ∧ Aside0 (Below w.heap.size w wr)) (fun _ v _ => l0.length - (intOf v).toNat)
  case atStart => exact ⟨0, Nat.zero_le _, rfl, ⟨Kd.R_nil _ _ _ _ _⟩, HP, HQ, HB⟩
  case round =>
    clear HP HQ HB
    obtain ⟨k, hk, rfl, HO, HP, HQ, HB⟩ := hrel
    by_cases hlt : k < l0.length
    · have p1 : 0 ≤ (k : Int) := by omega
      have q1 : (k : Int) < (l0.length : Int) := by omega
      obtain ⟨ad, e1, hx⟩ := Kd.at_int HR0.out k p1 q1
      cases e1
      have hx2 : wr.cell? (ad.add k) = some (.int .i64 (rd l0 k)) := pw_cell_below HB.out hx
      clear hx
      have hlen := H.stuffS_len (l0.take k)
      have hsn : H.stuffS (l0.take (k + 1)) = H.stuffStep (H.stuffS (l0.take k)) (rd l0 k) := by rw [H.take_snoc 0 l0 k hlt, H.stuffS_snoc]; rfl
      rw [List.length_take] at hlen
      have hsz := blk_lt HQ.out
      generalize hS : H.stuffS (l0.take k) = S at HO HP HQ hlen hsn
      obtain ⟨out, s⟩ := S
      clear hS
      have HSN := Aside0.mk hsn
      clear hsn
      replace hlen : out.length ≤ 2 * min k l0.length := hlen
      have hl8 : (out.length + 1) * 8 ≤ 140737488355328 := by omega
      go_wp2_with (first | ((with_reducible refine gate_builtin (b := .append) (xs := #[.tmp 14, .tmp 16]) rfl ?_); at_builtin; refine Kd.R_append (Kd.int .i64) (w0 := w) w.heap.size rfl (.tmp 14) (.tmp 16) 22 3 (.int .i64 0) 8 rfl Try.underlying22 info3 rfl (by decide) (by omega) u3 out (rd l0 k) [.int .i64 (rd l0 k)] (fun k => k ≠ w.heap.size ∧ k ≠ w.heap.size + 1) (fun _ => False) rfl rfl rfl (fun _ hk => hk.elim) (fun j hj => ⟨by omega, by omega⟩) HO.out HB.out (by omega) hl8 ?_; intro v1 w2 ho2 hb2 hg2 hat2))
      have hp2 := blk_grown HP.out hg2 (fun he => (HO.out.1 _ he.symm).1 rfl)
      have hq2 := blk_grown HQ.out hg2 (fun he => (HO.out.1 _ he.symm).2 rfl)
      refine (stuff_run1 w.heap.size (w.heap.size + 1) w.heap.size s (rd l0 k) w _ hp2 hq2 (by omega) hb2 (by omega) (by omega)).mono ?_
      clear hp2 hq2 hat2 hg2 hb2
      rintro e w3 ⟨rfl, hp3, hq3, hb3, hk3, hj3⟩
      have ho3 := Kd.R_kept ho2 hk3 (fun j hj hs => hs.elim hj.1 hj.2)
      clear hj3 hk3 ho2 HP HQ HO HB
      have hsz3 := blk_lt hq3
      generalize hs1 : H.runS s (rd l0 k) = s1 at *
      have HS1 := Aside0.mk hs1
      have HP3 := Aside0.mk hp3
      have HQ3 := Aside0.mk hq3
      have HO3 := Aside0.mk ho3
      have HB3 := Aside0.mk hb3
      clear hp3 hq3 ho3 hb3 hs1
      by_cases c : s1.2 = 5
      · have cb : (s1.2 == 5) = true := beq_iff_eq.mpr c
        have hl8 : ((out ++ [rd l0 k]).length + 1) * 8 ≤ 140737488355328 := by rw [List.length_append, List.length_singleton]; omega
        go_wp2_with (first | ((with_reducible refine gate_builtin (b := .append) (xs := #[.tmp 22, .tmp 25]) rfl ?_); at_builtin; refine Kd.R_append (Kd.int .i64) (w0 := w) w.heap.size rfl (.tmp 22) (.tmp 25) 22 3 (.int .i64 0) 8 rfl Try.underlying22 info3 rfl (by decide) (by omega) v1 (out ++ [rd l0 k]) (wrap64 (1 - rd l0 k)) [.int .i64 (wrap64 (1 - rd l0 k))] (fun k => k ≠ w.heap.size ∧ k ≠ w.heap.size + 1) (fun _ => False) rfl rfl rfl (fun _ hk => hk.elim) (fun j hj => ⟨by omega, by omega⟩) HO3.out HB3.out (by omega) hl8 ?_; intro v4 w4 ho4 hb4 hg4 hat4))
        have hp4 := blk_grown HP3.out hg4 (fun he => (HO3.out.1 _ he.symm).1 rfl)
        have hq4 := blk_grown HQ3.out hg4 (fun he => (HO3.out.1 _ he.symm).2 rfl)
        refine (stuff_run1 w.heap.size (w.heap.size + 1) w.heap.size s1 (wrap64 (1 - rd l0 k)) w _ hp4 hq4 (by omega) hb4 (by omega) (by omega)).mono ?_
        clear hp4 hq4 hat4 hg4 hb4
        rintro e w5 ⟨rfl, hp5, hq5, hb5, hk5, hj5⟩
        have ho5 := Kd.R_kept ho4 hk5 (fun j hj hs => hs.elim hj.1 hj.2)
        have hst : H.stuffStep (out, s) (rd l0 k) = (out ++ [rd l0 k] ++ [wrap64 (1 - rd l0 k)], H.runS s1 (wrap64 (1 - rd l0 k))) := by unfold H.stuffStep; rw [HS1.out, if_pos c]
        rw [hst] at HSN
        have HP5 := Aside0.mk hp5
        have HQ5 := Aside0.mk hq5
        have HO5 := Aside0.mk ho5
        have HB5 := Aside0.mk hb5
        clear hj5 hp5 hq5 ho5 hb5 hk5 ho4 hst
        go_wp2_with fail
        go_roundw
        case rel => exact ⟨k + 1, by omega, by go_num, ⟨by rw [HSN.out]; exact HO5.out⟩, ⟨by rw [HSN.out]; exact HP5.out⟩, ⟨by rw [HSN.out]; exact HQ5.out⟩, HB5⟩
        case measure => simp [intOf]; omega
      · have cb : (s1.2 == 5) = false := beq_eq_false_iff_ne.mpr c
        have hst : H.stuffStep (out, s) (rd l0 k) = (out ++ [rd l0 k], s1) := by unfold H.stuffStep; rw [HS1.out, if_neg c]
        rw [hst] at HSN
        clear hst
        go_wp2_with fail
        go_roundw
        case rel => exact ⟨k + 1, by omega, by go_num, ⟨by rw [HSN.out]; exact HO3.out⟩, ⟨by rw [HSN.out]; exact HP3.out⟩, ⟨by rw [HSN.out]; exact HQ3.out⟩, HB3⟩
        case measure => simp [intOf]; omega
    · obtain rfl : k = l0.length := by omega
      rw [List.take_length] at HO
      go_wp2_with fail
      go_ret
      exact ⟨_, rfl, Kd.R_mono HO.out (fun _ _ => trivial), HB.out⟩

/-! ### stuff_Runs: function 18 -/
def stuff_Runs.f (l0 : List Int) : Option Int := some (H.runsB l0)
section
attribute [local go_sem] Oper.semAt_some
set_option maxRecDepth 100000 in
set_option maxHeartbeats 1600000 in
theorem stuff_Runs.calls (A0 : Option Addr) (c0 : Nat) (l0 : List Int) (r : Int) (w : World) (hr0 : Kd.C (Kd.int .i64) w A0 l0.length l0) (hc0 : l0.length ≤ c0) (h : stuff_Runs.f l0 = some r) :
    Calls Try.prog 18 #[.slice A0 l0.length c0] w fun e w' => e = .returned (.int .i64 r) ∧ Below w.heap.size w w' := by
  obtain rfl := Option.some.inj h
  clear h
  have hA : ∀ (ad : Addr) (k : Nat), A0 = some ad → k < l0.length → (ad.add k).block ≠ w.heap.size := fun ad k e hk => by
    obtain ⟨ad2, e2, hx⟩ := Kd.at_int hr0 k (by omega) (by omega)
    rw [e] at e2; cases e2
    have := World.block_lt_of_cell? _ _ hx
    rw [Int.toNat_natCast] at this
    omega
  have hf1 : Fence.wide.fn 23 := trivial
  have hf2 : Fence.wide.fn 25 := trivial
  refine (callsIn_wide (n := 5)).1 ?_
  refine callsIn_of_wp_marks Try.func18 rfl trivial ?_ rfl
  simp only [Try.ntmps18, List.size_toArray, List.length_cons, List.length_nil, Nat.reduceAdd, Nat.reduceSub, Array.replicate_succ, Array.replicate_zero, List.push_toArray, List.append_toArray, List.nil_append, List.cons_append]
  gi_wp2_with (gi_at_call 23; refine (callsIn_wide.2 (stuff_lengths_calls _ _ _ _)).mono ?_; rintro e w' ⟨rfl, rfl⟩)
  have hnw : (w.alloc (.cells #[.int .i64 0] 3)).heap.size = w.heap.size + 1 := by simp
  have hn2 : ((w.alloc (.cells #[.int .i64 0] 3)).alloc (.cells #[.slice A0 l0.length c0] 22)).heap.size = w.heap.size + 2 := by simp
  have hb2 : Below w.heap.size w ((w.alloc (.cells #[.int .i64 0] 3)).alloc (.cells #[.slice A0 l0.length c0] 22)) := below_alloc (below_alloc (Below.refl _ _) _) _
  have hL2 : ((w.alloc (.cells #[.int .i64 0] 3)).alloc (.cells #[.slice A0 l0.length c0] 22)).heap[w.heap.size + 1]? = some (.cells #[.slice A0 l0.length c0] 22 (0, 0)) := by
    have := blk_new (w.alloc (.cells #[.int .i64 0] 3)) (.cells #[.slice A0 l0.length c0] 22)
    rwa [hnw] at this
  have hO2 : ((w.alloc (.cells #[.int .i64 0] 3)).alloc (.cells #[.slice A0 l0.length c0] 22)).heap[w.heap.size]? = some (.cells #[.int .i64 0] 3 (0, 0)) := blk_alloc (blk_new _ _) _
  generalize hw2 : ((w.alloc (.cells #[.int .i64 0] 3)).alloc (.cells #[.slice A0 l0.length c0] 22)) = w2 at *
  refine stuff_range rfl (by omega) (gf := 25) (lb := #[.pointer (some ⟨w.heap.size + 1, 0, none⟩)]) rfl trivial (enters_of Try.func25 (by kernel_rfl) rfl) (H.tellB l0) (stuff_Kp w.heap.size) ?hit (fun h k => h.trans k) (fun W l o o' h hc => stuff_Kp.put _ _ _ _ _ h hc) rfl
    (fun pre W1 => W1.heap[w.heap.size]? = some (.cells #[.int .i64 (H.maxB pre)] 3 (0, 0)) ∧ Below w.heap.size w W1) ?hI ⟨hO2, hb2⟩
    (fun y => { tmps := #[.slice A0 l0.length c0, undef, .int .i64 0, .pointer (some ⟨w.heap.size, 0, none⟩), .int .i64 y, .slice A0 l0.length c0, .func (.func 25) #[] #[.pointer (some ⟨w.heap.size + 1, 0, none⟩)], .int .i64 y, undef, undef, undef, undef], defers := [] }) ?assign ?body ?done
  case hit =>
    intro l J W hb hsz hJ hY h0
    have hbw : Below w.heap.size w W := hb2.trans (hb.mono (by omega))
    exact stuff_iter _ l w.heap.size (w.heap.size + 1) (by omega) A0 c0 l0 J W (blk_below hL2 hb) (by omega) (by omega) (Kd.C_below hr0 hbw) hA hJ hY h0
  case hI =>
    rintro s A B row ⟨x1, x2⟩ hg hr
    exact ⟨blk_grown x1 hg (fun e => by have := hr _ e.symm; omega), x2.grown hg (by have := blk_lt x1; omega) (fun k e => by have := hr _ e; omega)⟩
  case assign =>
    intro l x W K hK
    gi_wp2
    exact hK
  case body =>
    rintro l pre x W ⟨x1, x2⟩
    have c1 : W.cell? ⟨w.heap.size, 0, none⟩ = some (.int .i64 (H.maxB pre)) := by rw [blk_cell x1]; rfl
    have f1 : W.frozen? ⟨w.heap.size, 0, none⟩ = false := blk_frozen x1 0
    gi_wp2
    all_goals
      refine ⟨KeepsOthers.setCell _ _ _, ⟨by simp [World.setCell], fun i o hi ho _ => (Below.heap_setCell W _ _ i hi).trans ho⟩, ?_, x2.setCell (p := ⟨w.heap.size, 0, none⟩) (Nat.le_refl _) _⟩
      rw [H.maxB_snoc]
      unfold H.maxStep
      first | rw [if_pos (by assumption)] | rw [if_neg (by omega)]
      exact blk_set x1 0 _
  case done =>
    rintro D W hD ⟨x1, x2⟩ hK
    have c1 : W.cell? ⟨w.heap.size, 0, none⟩ = some (.int .i64 (H.maxB (H.tellB l0))) := by rw [blk_cell x1]; rfl
    gi_wp2
    refine ⟨by simp, .inl ⟨_, _, rfl, run_takeDeferred hK, ?_⟩⟩
    exact ⟨_, results_tmp rfl _ _ _, rfl, x2.trans (belowK_b (w := w2) (by omega) W D _ _ hD hK rfl rfl)⟩
end

/-! ### phaetonlaw03_head: function 11 -/
def phaetonlaw03_head.f (k : Nat)  : Option (Bool) := (stuff_Stuff.f (([0, 0, 0, 0, 0] : List Int))).bind fun t106 => ((stuff_Stuff.f (([1, 1, 1, 1, 1, 0, 0, 0, 0, 1] : List Int))).bind fun t112 => ((stuff_Strip.f (([0, 0, 0, 0, 0, 1, 1] : List Int))).bind fun bt118 => ((stuff_Strip.f (([1, 0, 0, 0, 0, 0, 0] : List Int))).bind fun bt125 => ((stuff_Strip.f (([0, 0, 0, 0, 0] : List Int))).bind fun bt132 => ((stuff_Strip.f ([] : List Int)).bind fun bt136 => ((phaetonref03_Ints.f k t106 (([0, 0, 0, 0, 0, 1] : List Int))).bind fun t143 => (if t143 = true then ((phaetonref03_Ints.f k t112 (([1, 1, 1, 1, 1, 0, 0, 0, 0, 0, 1, 1] : List Int))).bind fun t147 => (if t147 = true then ((phaetonref03_Ints.f k bt118.1 (([0, 0, 0, 0, 0, 1] : List Int))).bind fun t151 => (if t151 = true then (if bt118.2 = (-1) then ((phaetonref03_Ints.f k bt125.1 (([1, 0, 0, 0, 0, 0] : List Int))).bind fun t155 => (if t155 = true then (if bt125.2 = 6 then ((phaetonref03_Ints.f k bt132.1 (([0, 0, 0, 0, 0] : List Int))).bind fun t159 => (if t159 = true then (if bt132.2 = 5 then (if (bt136.1.length : Int) = 0 then (if bt136.2 = (-1) then ((stuff_Stuff.f ([] : List Int)).bind fun t160 => (if (t160.length : Int) = 0 then ((stuff_Runs.f (([1, 0, 0, 1, 1, 1] : List Int))).bind fun t166 => (if t166 = 3 then ((stuff_Runs.f ([] : List Int)).bind fun t167 => (if t167 = 0 then (some true) else (none))) else (none))) else (none))) else (none)) else (none)) else (none)) else (none))) else (none)) else (none))) else (none)) else (none))) else (none))) else (none))))))))
theorem phaetonlaw03_head.mono : ∀ k, LeO (phaetonlaw03_head.f k ) (phaetonlaw03_head.f (k + 1) ) := by
  intro  k
  unfold phaetonlaw03_head.f
  repeat' first
      | (with_reducible exact phaetonref03_Ints.mono _ _ _)
      | (with_reducible exact LeO.refl _)
      | (with_reducible exact LeO.none _)
      | (with_reducible refine LeO.ite ?_ ?_)
      | (with_reducible refine LeO.bind ?_ (fun _ => ?_))
      | exact phaetonref03_Ints.mono _ _ _
      | exact LeO.none _
      | refine LeO.ite ?_ ?_
      | refine LeO.bind ?_ (fun _ => ?_)
set_option maxHeartbeats 8000000 in
set_option maxRecDepth 100000 in
theorem phaetonlaw03_head.calls (k : Nat)  (r : Bool) (w : World) (h : phaetonlaw03_head.f k  = some r) :
    Calls Try.prog 11 #[] w fun e w' => e = .returned (.bool r) ∧ Below w.heap.size w w' := by
  have HB := Aside0.mk (Below.refl w.heap.size w)
  have H : ((stuff_Stuff.f (([0, 0, 0, 0, 0] : List Int))).bind fun t106 => ((stuff_Stuff.f (([1, 1, 1, 1, 1, 0, 0, 0, 0, 1] : List Int))).bind fun t112 => ((stuff_Strip.f (([0, 0, 0, 0, 0, 1, 1] : List Int))).bind fun bt118 => ((stuff_Strip.f (([1, 0, 0, 0, 0, 0, 0] : List Int))).bind fun bt125 => ((stuff_Strip.f (([0, 0, 0, 0, 0] : List Int))).bind fun bt132 => ((stuff_Strip.f ([] : List Int)).bind fun bt136 => ((phaetonref03_Ints.f k t106 (([0, 0, 0, 0, 0, 1] : List Int))).bind fun t143 => (if t143 = true then ((phaetonref03_Ints.f k t112 (([1, 1, 1, 1, 1, 0, 0, 0, 0, 0, 1, 1] : List Int))).bind fun t147 => (if t147 = true then ((phaetonref03_Ints.f k bt118.1 (([0, 0, 0, 0, 0, 1] : List Int))).bind fun t151 => (if t151 = true then (if bt118.2 = (-1) then ((phaetonref03_Ints.f k bt125.1 (([1, 0, 0, 0, 0, 0] : List Int))).bind fun t155 => (if t155 = true then (if bt125.2 = 6 then ((phaetonref03_Ints.f k bt132.1 (([0, 0, 0, 0, 0] : List Int))).bind fun t159 => (if t159 = true then (if bt132.2 = 5 then (if (bt136.1.length : Int) = 0 then (if bt136.2 = (-1) then ((stuff_Stuff.f ([] : List Int)).bind fun t160 => (if (t160.length : Int) = 0 then ((stuff_Runs.f (([1, 0, 0, 1, 1, 1] : List Int))).bind fun t166 => (if t166 = 3 then ((stuff_Runs.f ([] : List Int)).bind fun t167 => (if t167 = 0 then (some true) else (none))) else (none))) else (none))) else (none)) else (none)) else (none)) else (none))) else (none)) else (none))) else (none)) else (none))) else (none))) else (none))))))))) = some r := h
  clear h
  obtain ⟨y103, hy103⟩ : ∃ y_ : List Int, y_ = (([0, 0, 0, 0, 0] : List Int)) := ⟨_, rfl⟩
  replace H : ((stuff_Stuff.f y103).bind fun t106 => ((stuff_Stuff.f (([1, 1, 1, 1, 1, 0, 0, 0, 0, 1] : List Int))).bind fun t112 => ((stuff_Strip.f (([0, 0, 0, 0, 0, 1, 1] : List Int))).bind fun bt118 => ((stuff_Strip.f (([1, 0, 0, 0, 0, 0, 0] : List Int))).bind fun bt125 => ((stuff_Strip.f (([0, 0, 0, 0, 0] : List Int))).bind fun bt132 => ((stuff_Strip.f ([] : List Int)).bind fun bt136 => ((phaetonref03_Ints.f k t106 (([0, 0, 0, 0, 0, 1] : List Int))).bind fun t143 => (if t143 = true then ((phaetonref03_Ints.f k t112 (([1, 1, 1, 1, 1, 0, 0, 0, 0, 0, 1, 1] : List Int))).bind fun t147 => (if t147 = true then ((phaetonref03_Ints.f k bt118.1 (([0, 0, 0, 0, 0, 1] : List Int))).bind fun t151 => (if t151 = true then (if bt118.2 = (-1) then ((phaetonref03_Ints.f k bt125.1 (([1, 0, 0, 0, 0, 0] : List Int))).bind fun t155 => (if t155 = true then (if bt125.2 = 6 then ((phaetonref03_Ints.f k bt132.1 (([0, 0, 0, 0, 0] : List Int))).bind fun t159 => (if t159 = true then (if bt132.2 = 5 then (if (bt136.1.length : Int) = 0 then (if bt136.2 = (-1) then ((stuff_Stuff.f ([] : List Int)).bind fun t160 => (if (t160.length : Int) = 0 then ((stuff_Runs.f (([1, 0, 0, 1, 1, 1] : List Int))).bind fun t166 => (if t166 = 3 then ((stuff_Runs.f ([] : List Int)).bind fun t167 => (if t167 = 0 then (some true) else (none))) else (none))) else (none))) else (none)) else (none)) else (none)) else (none))) else (none)) else (none))) else (none)) else (none))) else (none))) else (none))))))))) = some r := by first | (rw [hy103]; with_reducible exact H) | (have H2_ := (Option.bind_some _ _).symm.trans H; rw [hy103]; with_reducible exact H2_) | (have H2_ := (Option.bind_some _ _).symm.trans H; with_reducible exact H2_) | with_reducible exact H | (rw [hy103]; exact H) | exact H
  have Ny103 := Aside0.mk hy103
  clear hy103
  replace H := Option.bind_eq_some_iff.mp H
  obtain ⟨t106, A10, H⟩ := H
  replace H : ((stuff_Stuff.f (([1, 1, 1, 1, 1, 0, 0, 0, 0, 1] : List Int))).bind fun t112 => ((stuff_Strip.f (([0, 0, 0, 0, 0, 1, 1] : List Int))).bind fun bt118 => ((stuff_Strip.f (([1, 0, 0, 0, 0, 0, 0] : List Int))).bind fun bt125 => ((stuff_Strip.f (([0, 0, 0, 0, 0] : List Int))).bind fun bt132 => ((stuff_Strip.f ([] : List Int)).bind fun bt136 => ((phaetonref03_Ints.f k t106 (([0, 0, 0, 0, 0, 1] : List Int))).bind fun t143 => (if t143 = true then ((phaetonref03_Ints.f k t112 (([1, 1, 1, 1, 1, 0, 0, 0, 0, 0, 1, 1] : List Int))).bind fun t147 => (if t147 = true then ((phaetonref03_Ints.f k bt118.1 (([0, 0, 0, 0, 0, 1] : List Int))).bind fun t151 => (if t151 = true then (if bt118.2 = (-1) then ((phaetonref03_Ints.f k bt125.1 (([1, 0, 0, 0, 0, 0] : List Int))).bind fun t155 => (if t155 = true then (if bt125.2 = 6 then ((phaetonref03_Ints.f k bt132.1 (([0, 0, 0, 0, 0] : List Int))).bind fun t159 => (if t159 = true then (if bt132.2 = 5 then (if (bt136.1.length : Int) = 0 then (if bt136.2 = (-1) then ((stuff_Stuff.f ([] : List Int)).bind fun t160 => (if (t160.length : Int) = 0 then ((stuff_Runs.f (([1, 0, 0, 1, 1, 1] : List Int))).bind fun t166 => (if t166 = 3 then ((stuff_Runs.f ([] : List Int)).bind fun t167 => (if t167 = 0 then (some true) else (none))) else (none))) else (none))) else (none)) else (none)) else (none)) else (none))) else (none)) else (none))) else (none)) else (none))) else (none))) else (none)))))))) = some r := H
  have A1 := Aside0.mk A10
  clear A10
  obtain ⟨y109, hy109⟩ : ∃ y_ : List Int, y_ = (([1, 1, 1, 1, 1, 0, 0, 0, 0, 1] : List Int)) := ⟨_, rfl⟩
  replace H : ((stuff_Stuff.f y109).bind fun t112 => ((stuff_Strip.f (([0, 0, 0, 0, 0, 1, 1] : List Int))).bind fun bt118 => ((stuff_Strip.f (([1, 0, 0, 0, 0, 0, 0] : List Int))).bind fun bt125 => ((stuff_Strip.f (([0, 0, 0, 0, 0] : List Int))).bind fun bt132 => ((stuff_Strip.f ([] : List Int)).bind fun bt136 => ((phaetonref03_Ints.f k t106 (([0, 0, 0, 0, 0, 1] : List Int))).bind fun t143 => (if t143 = true then ((phaetonref03_Ints.f k t112 (([1, 1, 1, 1, 1, 0, 0, 0, 0, 0, 1, 1] : List Int))).bind fun t147 => (if t147 = true then ((phaetonref03_Ints.f k bt118.1 (([0, 0, 0, 0, 0, 1] : List Int))).bind fun t151 => (if t151 = true then (if bt118.2 = (-1) then ((phaetonref03_Ints.f k bt125.1 (([1, 0, 0, 0, 0, 0] : List Int))).bind fun t155 => (if t155 = true then (if bt125.2 = 6 then ((phaetonref03_Ints.f k bt132.1 (([0, 0, 0, 0, 0] : List Int))).bind fun t159 => (if t159 = true then (if bt132.2 = 5 then (if (bt136.1.length : Int) = 0 then (if bt136.2 = (-1) then ((stuff_Stuff.f ([] : List Int)).bind fun t160 => (if (t160.length : Int) = 0 then ((stuff_Runs.f (([1, 0, 0, 1, 1, 1] : List Int))).bind fun t166 => (if t166 = 3 then ((stuff_Runs.f ([] : List Int)).bind fun t167 => (if t167 = 0 then (some true) else (none))) else (none))) else (none))) else (none)) else (none)) else (none)) else (none))) else (none)) else (none))) else (none)) else (none))) else (none))) else (none)))))))) = some r := by first | (rw [hy109]; with_reducible exact H) | (have H2_ := (Option.bind_some _ _).symm.trans H; rw [hy109]; with_reducible exact H2_) | (have H2_ := (Option.bind_some _ _).symm.trans H; with_reducible exact H2_) | with_reducible exact H | (rw [hy109]; exact H) | exact H
  have Ny109 := Aside0.mk hy109
  clear hy109
  replace H := Option.bind_eq_some_iff.mp H
  obtain ⟨t112, A20, H⟩ := H
  replace H : ((stuff_Strip.f (([0, 0, 0, 0, 0, 1, 1] : List Int))).bind fun bt118 => ((stuff_Strip.f (([1, 0, 0, 0, 0, 0, 0] : List Int))).bind fun bt125 => ((stuff_Strip.f (([0, 0, 0, 0, 0] : List Int))).bind fun bt132 => ((stuff_Strip.f ([] : List Int)).bind fun bt136 => ((phaetonref03_Ints.f k t106 (([0, 0, 0, 0, 0, 1] : List Int))).bind fun t143 => (if t143 = true then ((phaetonref03_Ints.f k t112 (([1, 1, 1, 1, 1, 0, 0, 0, 0, 0, 1, 1] : List Int))).bind fun t147 => (if t147 = true then ((phaetonref03_Ints.f k bt118.1 (([0, 0, 0, 0, 0, 1] : List Int))).bind fun t151 => (if t151 = true then (if bt118.2 = (-1) then ((phaetonref03_Ints.f k bt125.1 (([1, 0, 0, 0, 0, 0] : List Int))).bind fun t155 => (if t155 = true then (if bt125.2 = 6 then ((phaetonref03_Ints.f k bt132.1 (([0, 0, 0, 0, 0] : List Int))).bind fun t159 => (if t159 = true then (if bt132.2 = 5 then (if (bt136.1.length : Int) = 0 then (if bt136.2 = (-1) then ((stuff_Stuff.f ([] : List Int)).bind fun t160 => (if (t160.length : Int) = 0 then ((stuff_Runs.f (([1, 0, 0, 1, 1, 1] : List Int))).bind fun t166 => (if t166 = 3 then ((stuff_Runs.f ([] : List Int)).bind fun t167 => (if t167 = 0 then (some true) else (none))) else (none))) else (none))) else (none)) else (none)) else (none)) else (none))) else (none)) else (none))) else (none)) else (none))) else (none))) else (none))))))) = some r := H
  have A2 := Aside0.mk A20
  clear A20
  obtain ⟨y115, hy115⟩ : ∃ y_ : List Int, y_ = (([0, 0, 0, 0, 0, 1, 1] : List Int)) := ⟨_, rfl⟩
  replace H : ((stuff_Strip.f y115).bind fun bt118 => ((stuff_Strip.f (([1, 0, 0, 0, 0, 0, 0] : List Int))).bind fun bt125 => ((stuff_Strip.f (([0, 0, 0, 0, 0] : List Int))).bind fun bt132 => ((stuff_Strip.f ([] : List Int)).bind fun bt136 => ((phaetonref03_Ints.f k t106 (([0, 0, 0, 0, 0, 1] : List Int))).bind fun t143 => (if t143 = true then ((phaetonref03_Ints.f k t112 (([1, 1, 1, 1, 1, 0, 0, 0, 0, 0, 1, 1] : List Int))).bind fun t147 => (if t147 = true then ((phaetonref03_Ints.f k bt118.1 (([0, 0, 0, 0, 0, 1] : List Int))).bind fun t151 => (if t151 = true then (if bt118.2 = (-1) then ((phaetonref03_Ints.f k bt125.1 (([1, 0, 0, 0, 0, 0] : List Int))).bind fun t155 => (if t155 = true then (if bt125.2 = 6 then ((phaetonref03_Ints.f k bt132.1 (([0, 0, 0, 0, 0] : List Int))).bind fun t159 => (if t159 = true then (if bt132.2 = 5 then (if (bt136.1.length : Int) = 0 then (if bt136.2 = (-1) then ((stuff_Stuff.f ([] : List Int)).bind fun t160 => (if (t160.length : Int) = 0 then ((stuff_Runs.f (([1, 0, 0, 1, 1, 1] : List Int))).bind fun t166 => (if t166 = 3 then ((stuff_Runs.f ([] : List Int)).bind fun t167 => (if t167 = 0 then (some true) else (none))) else (none))) else (none))) else (none)) else (none)) else (none)) else (none))) else (none)) else (none))) else (none)) else (none))) else (none))) else (none))))))) = some r := by first | (rw [hy115]; with_reducible exact H) | (have H2_ := (Option.bind_some _ _).symm.trans H; rw [hy115]; with_reducible exact H2_) | (have H2_ := (Option.bind_some _ _).symm.trans H; with_reducible exact H2_) | with_reducible exact H | (rw [hy115]; exact H) | exact H
  have Ny115 := Aside0.mk hy115
  clear hy115
  replace H := Option.bind_eq_some_iff.mp H
  obtain ⟨⟨t118, t119⟩, A30, H⟩ := H
  replace H : ((stuff_Strip.f (([1, 0, 0, 0, 0, 0, 0] : List Int))).bind fun bt125 => ((stuff_Strip.f (([0, 0, 0, 0, 0] : List Int))).bind fun bt132 => ((stuff_Strip.f ([] : List Int)).bind fun bt136 => ((phaetonref03_Ints.f k t106 (([0, 0, 0, 0, 0, 1] : List Int))).bind fun t143 => (if t143 = true then ((phaetonref03_Ints.f k t112 (([1, 1, 1, 1, 1, 0, 0, 0, 0, 0, 1, 1] : List Int))).bind fun t147 => (if t147 = true then ((phaetonref03_Ints.f k t118 (([0, 0, 0, 0, 0, 1] : List Int))).bind fun t151 => (if t151 = true then (if t119 = (-1) then ((phaetonref03_Ints.f k bt125.1 (([1, 0, 0, 0, 0, 0] : List Int))).bind fun t155 => (if t155 = true then (if bt125.2 = 6 then ((phaetonref03_Ints.f k bt132.1 (([0, 0, 0, 0, 0] : List Int))).bind fun t159 => (if t159 = true then (if bt132.2 = 5 then (if (bt136.1.length : Int) = 0 then (if bt136.2 = (-1) then ((stuff_Stuff.f ([] : List Int)).bind fun t160 => (if (t160.length : Int) = 0 then ((stuff_Runs.f (([1, 0, 0, 1, 1, 1] : List Int))).bind fun t166 => (if t166 = 3 then ((stuff_Runs.f ([] : List Int)).bind fun t167 => (if t167 = 0 then (some true) else (none))) else (none))) else (none))) else (none)) else (none)) else (none)) else (none))) else (none)) else (none))) else (none)) else (none))) else (none))) else (none)))))) = some r := H
  have A3 := Aside0.mk A30
  clear A30
  obtain ⟨y122, hy122⟩ : ∃ y_ : List Int, y_ = (([1, 0, 0, 0, 0, 0, 0] : List Int)) := ⟨_, rfl⟩
  replace H : ((stuff_Strip.f y122).bind fun bt125 => ((stuff_Strip.f (([0, 0, 0, 0, 0] : List Int))).bind fun bt132 => ((stuff_Strip.f ([] : List Int)).bind fun bt136 => ((phaetonref03_Ints.f k t106 (([0, 0, 0, 0, 0, 1] : List Int))).bind fun t143 => (if t143 = true then ((phaetonref03_Ints.f k t112 (([1, 1, 1, 1, 1, 0, 0, 0, 0, 0, 1, 1] : List Int))).bind fun t147 => (if t147 = true then ((phaetonref03_Ints.f k t118 (([0, 0, 0, 0, 0, 1] : List Int))).bind fun t151 => (if t151 = true then (if t119 = (-1) then ((phaetonref03_Ints.f k bt125.1 (([1, 0, 0, 0, 0, 0] : List Int))).bind fun t155 => (if t155 = true then (if bt125.2 = 6 then ((phaetonref03_Ints.f k bt132.1 (([0, 0, 0, 0, 0] : List Int))).bind fun t159 => (if t159 = true then (if bt132.2 = 5 then (if (bt136.1.length : Int) = 0 then (if bt136.2 = (-1) then ((stuff_Stuff.f ([] : List Int)).bind fun t160 => (if (t160.length : Int) = 0 then ((stuff_Runs.f (([1, 0, 0, 1, 1, 1] : List Int))).bind fun t166 => (if t166 = 3 then ((stuff_Runs.f ([] : List Int)).bind fun t167 => (if t167 = 0 then (some true) else (none))) else (none))) else (none))) else (none)) else (none)) else (none)) else (none))) else (none)) else (none))) else (none)) else (none))) else (none))) else (none)))))) = some r := by first | (rw [hy122]; with_reducible exact H) | (have H2_ := (Option.bind_some _ _).symm.trans H; rw [hy122]; with_reducible exact H2_) | (have H2_ := (Option.bind_some _ _).symm.trans H; with_reducible exact H2_) | with_reducible exact H | (rw [hy122]; exact H) | exact H
  have Ny122 := Aside0.mk hy122
  clear hy122
  replace H := Option.bind_eq_some_iff.mp H
  obtain ⟨⟨t125, t126⟩, A40, H⟩ := H
  replace H : ((stuff_Strip.f (([0, 0, 0, 0, 0] : List Int))).bind fun bt132 => ((stuff_Strip.f ([] : List Int)).bind fun bt136 => ((phaetonref03_Ints.f k t106 (([0, 0, 0, 0, 0, 1] : List Int))).bind fun t143 => (if t143 = true then ((phaetonref03_Ints.f k t112 (([1, 1, 1, 1, 1, 0, 0, 0, 0, 0, 1, 1] : List Int))).bind fun t147 => (if t147 = true then ((phaetonref03_Ints.f k t118 (([0, 0, 0, 0, 0, 1] : List Int))).bind fun t151 => (if t151 = true then (if t119 = (-1) then ((phaetonref03_Ints.f k t125 (([1, 0, 0, 0, 0, 0] : List Int))).bind fun t155 => (if t155 = true then (if t126 = 6 then ((phaetonref03_Ints.f k bt132.1 (([0, 0, 0, 0, 0] : List Int))).bind fun t159 => (if t159 = true then (if bt132.2 = 5 then (if (bt136.1.length : Int) = 0 then (if bt136.2 = (-1) then ((stuff_Stuff.f ([] : List Int)).bind fun t160 => (if (t160.length : Int) = 0 then ((stuff_Runs.f (([1, 0, 0, 1, 1, 1] : List Int))).bind fun t166 => (if t166 = 3 then ((stuff_Runs.f ([] : List Int)).bind fun t167 => (if t167 = 0 then (some true) else (none))) else (none))) else (none))) else (none)) else (none)) else (none)) else (none))) else (none)) else (none))) else (none)) else (none))) else (none))) else (none))))) = some r := H
  have A4 := Aside0.mk A40
  clear A40
  obtain ⟨y129, hy129⟩ : ∃ y_ : List Int, y_ = (([0, 0, 0, 0, 0] : List Int)) := ⟨_, rfl⟩
  replace H : ((stuff_Strip.f y129).bind fun bt132 => ((stuff_Strip.f ([] : List Int)).bind fun bt136 => ((phaetonref03_Ints.f k t106 (([0, 0, 0, 0, 0, 1] : List Int))).bind fun t143 => (if t143 = true then ((phaetonref03_Ints.f k t112 (([1, 1, 1, 1, 1, 0, 0, 0, 0, 0, 1, 1] : List Int))).bind fun t147 => (if t147 = true then ((phaetonref03_Ints.f k t118 (([0, 0, 0, 0, 0, 1] : List Int))).bind fun t151 => (if t151 = true then (if t119 = (-1) then ((phaetonref03_Ints.f k t125 (([1, 0, 0, 0, 0, 0] : List Int))).bind fun t155 => (if t155 = true then (if t126 = 6 then ((phaetonref03_Ints.f k bt132.1 (([0, 0, 0, 0, 0] : List Int))).bind fun t159 => (if t159 = true then (if bt132.2 = 5 then (if (bt136.1.length : Int) = 0 then (if bt136.2 = (-1) then ((stuff_Stuff.f ([] : List Int)).bind fun t160 => (if (t160.length : Int) = 0 then ((stuff_Runs.f (([1, 0, 0, 1, 1, 1] : List Int))).bind fun t166 => (if t166 = 3 then ((stuff_Runs.f ([] : List Int)).bind fun t167 => (if t167 = 0 then (some true) else (none))) else (none))) else (none))) else (none)) else (none)) else (none)) else (none))) else (none)) else (none))) else (none)) else (none))) else (none))) else (none))))) = some r := by first | (rw [hy129]; with_reducible exact H) | (have H2_ := (Option.bind_some _ _).symm.trans H; rw [hy129]; with_reducible exact H2_) | (have H2_ := (Option.bind_some _ _).symm.trans H; with_reducible exact H2_) | with_reducible exact H | (rw [hy129]; exact H) | exact H
  have Ny129 := Aside0.mk hy129
  clear hy129
  replace H := Option.bind_eq_some_iff.mp H
  obtain ⟨⟨t132, t133⟩, A50, H⟩ := H
  replace H : ((stuff_Strip.f ([] : List Int)).bind fun bt136 => ((phaetonref03_Ints.f k t106 (([0, 0, 0, 0, 0, 1] : List Int))).bind fun t143 => (if t143 = true then ((phaetonref03_Ints.f k t112 (([1, 1, 1, 1, 1, 0, 0, 0, 0, 0, 1, 1] : List Int))).bind fun t147 => (if t147 = true then ((phaetonref03_Ints.f k t118 (([0, 0, 0, 0, 0, 1] : List Int))).bind fun t151 => (if t151 = true then (if t119 = (-1) then ((phaetonref03_Ints.f k t125 (([1, 0, 0, 0, 0, 0] : List Int))).bind fun t155 => (if t155 = true then (if t126 = 6 then ((phaetonref03_Ints.f k t132 (([0, 0, 0, 0, 0] : List Int))).bind fun t159 => (if t159 = true then (if t133 = 5 then (if (bt136.1.length : Int) = 0 then (if bt136.2 = (-1) then ((stuff_Stuff.f ([] : List Int)).bind fun t160 => (if (t160.length : Int) = 0 then ((stuff_Runs.f (([1, 0, 0, 1, 1, 1] : List Int))).bind fun t166 => (if t166 = 3 then ((stuff_Runs.f ([] : List Int)).bind fun t167 => (if t167 = 0 then (some true) else (none))) else (none))) else (none))) else (none)) else (none)) else (none)) else (none))) else (none)) else (none))) else (none)) else (none))) else (none))) else (none)))) = some r := H
  have A5 := Aside0.mk A50
  clear A50
  replace H := Option.bind_eq_some_iff.mp H
  obtain ⟨⟨t136, t137⟩, A60, H⟩ := H
  replace H : ((phaetonref03_Ints.f k t106 (([0, 0, 0, 0, 0, 1] : List Int))).bind fun t143 => (if t143 = true then ((phaetonref03_Ints.f k t112 (([1, 1, 1, 1, 1, 0, 0, 0, 0, 0, 1, 1] : List Int))).bind fun t147 => (if t147 = true then ((phaetonref03_Ints.f k t118 (([0, 0, 0, 0, 0, 1] : List Int))).bind fun t151 => (if t151 = true then (if t119 = (-1) then ((phaetonref03_Ints.f k t125 (([1, 0, 0, 0, 0, 0] : List Int))).bind fun t155 => (if t155 = true then (if t126 = 6 then ((phaetonref03_Ints.f k t132 (([0, 0, 0, 0, 0] : List Int))).bind fun t159 => (if t159 = true then (if t133 = 5 then (if (t136.length : Int) = 0 then (if t137 = (-1) then ((stuff_Stuff.f ([] : List Int)).bind fun t160 => (if (t160.length : Int) = 0 then ((stuff_Runs.f (([1, 0, 0, 1, 1, 1] : List Int))).bind fun t166 => (if t166 = 3 then ((stuff_Runs.f ([] : List Int)).bind fun t167 => (if t167 = 0 then (some true) else (none))) else (none))) else (none))) else (none)) else (none)) else (none)) else (none))) else (none)) else (none))) else (none)) else (none))) else (none))) else (none))) = some r := H
  have A6 := Aside0.mk A60
  clear A60
  obtain ⟨y140, hy140⟩ : ∃ y_ : List Int, y_ = (([0, 0, 0, 0, 0, 1] : List Int)) := ⟨_, rfl⟩
  replace H : ((phaetonref03_Ints.f k t106 y140).bind fun t143 => (if t143 = true then ((phaetonref03_Ints.f k t112 (([1, 1, 1, 1, 1, 0, 0, 0, 0, 0, 1, 1] : List Int))).bind fun t147 => (if t147 = true then ((phaetonref03_Ints.f k t118 (([0, 0, 0, 0, 0, 1] : List Int))).bind fun t151 => (if t151 = true then (if t119 = (-1) then ((phaetonref03_Ints.f k t125 (([1, 0, 0, 0, 0, 0] : List Int))).bind fun t155 => (if t155 = true then (if t126 = 6 then ((phaetonref03_Ints.f k t132 (([0, 0, 0, 0, 0] : List Int))).bind fun t159 => (if t159 = true then (if t133 = 5 then (if (t136.length : Int) = 0 then (if t137 = (-1) then ((stuff_Stuff.f ([] : List Int)).bind fun t160 => (if (t160.length : Int) = 0 then ((stuff_Runs.f (([1, 0, 0, 1, 1, 1] : List Int))).bind fun t166 => (if t166 = 3 then ((stuff_Runs.f ([] : List Int)).bind fun t167 => (if t167 = 0 then (some true) else (none))) else (none))) else (none))) else (none)) else (none)) else (none)) else (none))) else (none)) else (none))) else (none)) else (none))) else (none))) else (none))) = some r := by first | (rw [hy140]; with_reducible exact H) | (have H2_ := (Option.bind_some _ _).symm.trans H; rw [hy140]; with_reducible exact H2_) | (have H2_ := (Option.bind_some _ _).symm.trans H; with_reducible exact H2_) | with_reducible exact H | (rw [hy140]; exact H) | exact H
  have Ny140 := Aside0.mk hy140
  clear hy140
  replace H := Option.bind_eq_some_iff.mp H
  obtain ⟨t143, A70, H⟩ := H
  replace H : (if t143 = true then ((phaetonref03_Ints.f k t112 (([1, 1, 1, 1, 1, 0, 0, 0, 0, 0, 1, 1] : List Int))).bind fun t147 => (if t147 = true then ((phaetonref03_Ints.f k t118 (([0, 0, 0, 0, 0, 1] : List Int))).bind fun t151 => (if t151 = true then (if t119 = (-1) then ((phaetonref03_Ints.f k t125 (([1, 0, 0, 0, 0, 0] : List Int))).bind fun t155 => (if t155 = true then (if t126 = 6 then ((phaetonref03_Ints.f k t132 (([0, 0, 0, 0, 0] : List Int))).bind fun t159 => (if t159 = true then (if t133 = 5 then (if (t136.length : Int) = 0 then (if t137 = (-1) then ((stuff_Stuff.f ([] : List Int)).bind fun t160 => (if (t160.length : Int) = 0 then ((stuff_Runs.f (([1, 0, 0, 1, 1, 1] : List Int))).bind fun t166 => (if t166 = 3 then ((stuff_Runs.f ([] : List Int)).bind fun t167 => (if t167 = 0 then (some true) else (none))) else (none))) else (none))) else (none)) else (none)) else (none)) else (none))) else (none)) else (none))) else (none)) else (none))) else (none))) else (none)) = some r := H
  have A7 := Aside0.mk A70
  clear A70
  by_cases c8 : t143 = true
  · subst c8
    have H1 : ((phaetonref03_Ints.f k t112 (([1, 1, 1, 1, 1, 0, 0, 0, 0, 0, 1, 1] : List Int))).bind fun t147 => (if t147 = true then ((phaetonref03_Ints.f k t118 (([0, 0, 0, 0, 0, 1] : List Int))).bind fun t151 => (if t151 = true then (if t119 = (-1) then ((phaetonref03_Ints.f k t125 (([1, 0, 0, 0, 0, 0] : List Int))).bind fun t155 => (if t155 = true then (if t126 = 6 then ((phaetonref03_Ints.f k t132 (([0, 0, 0, 0, 0] : List Int))).bind fun t159 => (if t159 = true then (if t133 = 5 then (if (t136.length : Int) = 0 then (if t137 = (-1) then ((stuff_Stuff.f ([] : List Int)).bind fun t160 => (if (t160.length : Int) = 0 then ((stuff_Runs.f (([1, 0, 0, 1, 1, 1] : List Int))).bind fun t166 => (if t166 = 3 then ((stuff_Runs.f ([] : List Int)).bind fun t167 => (if t167 = 0 then (some true) else (none))) else (none))) else (none))) else (none)) else (none)) else (none)) else (none))) else (none)) else (none))) else (none)) else (none))) else (none))) = some r := by rw [if_pos rfl] at H; exact H
    clear H
    have H := H1
    clear H1
    obtain ⟨y144, hy144⟩ : ∃ y_ : List Int, y_ = (([1, 1, 1, 1, 1, 0, 0, 0, 0, 0, 1, 1] : List Int)) := ⟨_, rfl⟩
    replace H : ((phaetonref03_Ints.f k t112 y144).bind fun t147 => (if t147 = true then ((phaetonref03_Ints.f k t118 (([0, 0, 0, 0, 0, 1] : List Int))).bind fun t151 => (if t151 = true then (if t119 = (-1) then ((phaetonref03_Ints.f k t125 (([1, 0, 0, 0, 0, 0] : List Int))).bind fun t155 => (if t155 = true then (if t126 = 6 then ((phaetonref03_Ints.f k t132 (([0, 0, 0, 0, 0] : List Int))).bind fun t159 => (if t159 = true then (if t133 = 5 then (if (t136.length : Int) = 0 then (if t137 = (-1) then ((stuff_Stuff.f ([] : List Int)).bind fun t160 => (if (t160.length : Int) = 0 then ((stuff_Runs.f (([1, 0, 0, 1, 1, 1] : List Int))).bind fun t166 => (if t166 = 3 then ((stuff_Runs.f ([] : List Int)).bind fun t167 => (if t167 = 0 then (some true) else (none))) else (none))) else (none))) else (none)) else (none)) else (none)) else (none))) else (none)) else (none))) else (none)) else (none))) else (none))) = some r := by first | (rw [hy144]; with_reducible exact H) | (have H2_ := (Option.bind_some _ _).symm.trans H; rw [hy144]; with_reducible exact H2_) | (have H2_ := (Option.bind_some _ _).symm.trans H; with_reducible exact H2_) | with_reducible exact H | (rw [hy144]; exact H) | exact H
    have Ny144 := Aside0.mk hy144
    clear hy144
    replace H := Option.bind_eq_some_iff.mp H
    obtain ⟨t147, A90, H⟩ := H
    replace H : (if t147 = true then ((phaetonref03_Ints.f k t118 (([0, 0, 0, 0, 0, 1] : List Int))).bind fun t151 => (if t151 = true then (if t119 = (-1) then ((phaetonref03_Ints.f k t125 (([1, 0, 0, 0, 0, 0] : List Int))).bind fun t155 => (if t155 = true then (if t126 = 6 then ((phaetonref03_Ints.f k t132 (([0, 0, 0, 0, 0] : List Int))).bind fun t159 => (if t159 = true then (if t133 = 5 then (if (t136.length : Int) = 0 then (if t137 = (-1) then ((stuff_Stuff.f ([] : List Int)).bind fun t160 => (if (t160.length : Int) = 0 then ((stuff_Runs.f (([1, 0, 0, 1, 1, 1] : List Int))).bind fun t166 => (if t166 = 3 then ((stuff_Runs.f ([] : List Int)).bind fun t167 => (if t167 = 0 then (some true) else (none))) else (none))) else (none))) else (none)) else (none)) else (none)) else (none))) else (none)) else (none))) else (none)) else (none))) else (none)) = some r := H
    have A9 := Aside0.mk A90
    clear A90
    by_cases c10 : t147 = true
    · subst c10
      have H1 : ((phaetonref03_Ints.f k t118 (([0, 0, 0, 0, 0, 1] : List Int))).bind fun t151 => (if t151 = true then (if t119 = (-1) then ((phaetonref03_Ints.f k t125 (([1, 0, 0, 0, 0, 0] : List Int))).bind fun t155 => (if t155 = true then (if t126 = 6 then ((phaetonref03_Ints.f k t132 (([0, 0, 0, 0, 0] : List Int))).bind fun t159 => (if t159 = true then (if t133 = 5 then (if (t136.length : Int) = 0 then (if t137 = (-1) then ((stuff_Stuff.f ([] : List Int)).bind fun t160 => (if (t160.length : Int) = 0 then ((stuff_Runs.f (([1, 0, 0, 1, 1, 1] : List Int))).bind fun t166 => (if t166 = 3 then ((stuff_Runs.f ([] : List Int)).bind fun t167 => (if t167 = 0 then (some true) else (none))) else (none))) else (none))) else (none)) else (none)) else (none)) else (none))) else (none)) else (none))) else (none)) else (none))) = some r := by rw [if_pos rfl] at H; exact H
      clear H
      have H := H1
      clear H1
      obtain ⟨y148, hy148⟩ : ∃ y_ : List Int, y_ = (([0, 0, 0, 0, 0, 1] : List Int)) := ⟨_, rfl⟩
      replace H : ((phaetonref03_Ints.f k t118 y148).bind fun t151 => (if t151 = true then (if t119 = (-1) then ((phaetonref03_Ints.f k t125 (([1, 0, 0, 0, 0, 0] : List Int))).bind fun t155 => (if t155 = true then (if t126 = 6 then ((phaetonref03_Ints.f k t132 (([0, 0, 0, 0, 0] : List Int))).bind fun t159 => (if t159 = true then (if t133 = 5 then (if (t136.length : Int) = 0 then (if t137 = (-1) then ((stuff_Stuff.f ([] : List Int)).bind fun t160 => (if (t160.length : Int) = 0 then ((stuff_Runs.f (([1, 0, 0, 1, 1, 1] : List Int))).bind fun t166 => (if t166 = 3 then ((stuff_Runs.f ([] : List Int)).bind fun t167 => (if t167 = 0 then (some true) else (none))) else (none))) else (none))) else (none)) else (none)) else (none)) else (none))) else (none)) else (none))) else (none)) else (none))) = some r := by first | (rw [hy148]; with_reducible exact H) | (have H2_ := (Option.bind_some _ _).symm.trans H; rw [hy148]; with_reducible exact H2_) | (have H2_ := (Option.bind_some _ _).symm.trans H; with_reducible exact H2_) | with_reducible exact H | (rw [hy148]; exact H) | exact H
      have Ny148 := Aside0.mk hy148
      clear hy148
      replace H := Option.bind_eq_some_iff.mp H
      obtain ⟨t151, A110, H⟩ := H
      replace H : (if t151 = true then (if t119 = (-1) then ((phaetonref03_Ints.f k t125 (([1, 0, 0, 0, 0, 0] : List Int))).bind fun t155 => (if t155 = true then (if t126 = 6 then ((phaetonref03_Ints.f k t132 (([0, 0, 0, 0, 0] : List Int))).bind fun t159 => (if t159 = true then (if t133 = 5 then (if (t136.length : Int) = 0 then (if t137 = (-1) then ((stuff_Stuff.f ([] : List Int)).bind fun t160 => (if (t160.length : Int) = 0 then ((stuff_Runs.f (([1, 0, 0, 1, 1, 1] : List Int))).bind fun t166 => (if t166 = 3 then ((stuff_Runs.f ([] : List Int)).bind fun t167 => (if t167 = 0 then (some true) else (none))) else (none))) else (none))) else (none)) else (none)) else (none)) else (none))) else (none)) else (none))) else (none)) else (none)) = some r := H
      have A11 := Aside0.mk A110
      clear A110
      by_cases c12 : t151 = true
      · subst c12
        have H1 : (if t119 = (-1) then ((phaetonref03_Ints.f k t125 (([1, 0, 0, 0, 0, 0] : List Int))).bind fun t155 => (if t155 = true then (if t126 = 6 then ((phaetonref03_Ints.f k t132 (([0, 0, 0, 0, 0] : List Int))).bind fun t159 => (if t159 = true then (if t133 = 5 then (if (t136.length : Int) = 0 then (if t137 = (-1) then ((stuff_Stuff.f ([] : List Int)).bind fun t160 => (if (t160.length : Int) = 0 then ((stuff_Runs.f (([1, 0, 0, 1, 1, 1] : List Int))).bind fun t166 => (if t166 = 3 then ((stuff_Runs.f ([] : List Int)).bind fun t167 => (if t167 = 0 then (some true) else (none))) else (none))) else (none))) else (none)) else (none)) else (none)) else (none))) else (none)) else (none))) else (none)) = some r := by rw [if_pos rfl] at H; exact H
        clear H
        have H := H1
        clear H1
        by_cases c13 : t119 = (-1)
        · rw [if_pos c13] at H
          have c13b0 : (t119 == (-1)) = true := beq_iff_eq.mpr c13
          have c13b1 : (t119 != (-1)) = false := bne_eq_false_iff_eq.mpr c13
          clear c13
          obtain ⟨y152, hy152⟩ : ∃ y_ : List Int, y_ = (([1, 0, 0, 0, 0, 0] : List Int)) := ⟨_, rfl⟩
          replace H : ((phaetonref03_Ints.f k t125 y152).bind fun t155 => (if t155 = true then (if t126 = 6 then ((phaetonref03_Ints.f k t132 (([0, 0, 0, 0, 0] : List Int))).bind fun t159 => (if t159 = true then (if t133 = 5 then (if (t136.length : Int) = 0 then (if t137 = (-1) then ((stuff_Stuff.f ([] : List Int)).bind fun t160 => (if (t160.length : Int) = 0 then ((stuff_Runs.f (([1, 0, 0, 1, 1, 1] : List Int))).bind fun t166 => (if t166 = 3 then ((stuff_Runs.f ([] : List Int)).bind fun t167 => (if t167 = 0 then (some true) else (none))) else (none))) else (none))) else (none)) else (none)) else (none)) else (none))) else (none)) else (none))) = some r := by first | (rw [hy152]; with_reducible exact H) | (have H2_ := (Option.bind_some _ _).symm.trans H; rw [hy152]; with_reducible exact H2_) | (have H2_ := (Option.bind_some _ _).symm.trans H; with_reducible exact H2_) | with_reducible exact H | (rw [hy152]; exact H) | exact H
          have Ny152 := Aside0.mk hy152
          clear hy152
          replace H := Option.bind_eq_some_iff.mp H
          obtain ⟨t155, A140, H⟩ := H
          replace H : (if t155 = true then (if t126 = 6 then ((phaetonref03_Ints.f k t132 (([0, 0, 0, 0, 0] : List Int))).bind fun t159 => (if t159 = true then (if t133 = 5 then (if (t136.length : Int) = 0 then (if t137 = (-1) then ((stuff_Stuff.f ([] : List Int)).bind fun t160 => (if (t160.length : Int) = 0 then ((stuff_Runs.f (([1, 0, 0, 1, 1, 1] : List Int))).bind fun t166 => (if t166 = 3 then ((stuff_Runs.f ([] : List Int)).bind fun t167 => (if t167 = 0 then (some true) else (none))) else (none))) else (none))) else (none)) else (none)) else (none)) else (none))) else (none)) else (none)) = some r := H
          have A14 := Aside0.mk A140
          clear A140
          by_cases c15 : t155 = true
          · subst c15
            have H1 : (if t126 = 6 then ((phaetonref03_Ints.f k t132 (([0, 0, 0, 0, 0] : List Int))).bind fun t159 => (if t159 = true then (if t133 = 5 then (if (t136.length : Int) = 0 then (if t137 = (-1) then ((stuff_Stuff.f ([] : List Int)).bind fun t160 => (if (t160.length : Int) = 0 then ((stuff_Runs.f (([1, 0, 0, 1, 1, 1] : List Int))).bind fun t166 => (if t166 = 3 then ((stuff_Runs.f ([] : List Int)).bind fun t167 => (if t167 = 0 then (some true) else (none))) else (none))) else (none))) else (none)) else (none)) else (none)) else (none))) else (none)) = some r := by rw [if_pos rfl] at H; exact H
            clear H
            have H := H1
            clear H1
            by_cases c16 : t126 = 6
            · rw [if_pos c16] at H
              have c16b0 : (t126 == 6) = true := beq_iff_eq.mpr c16
              have c16b1 : (t126 != 6) = false := bne_eq_false_iff_eq.mpr c16
              clear c16
              obtain ⟨y156, hy156⟩ : ∃ y_ : List Int, y_ = (([0, 0, 0, 0, 0] : List Int)) := ⟨_, rfl⟩
              replace H : ((phaetonref03_Ints.f k t132 y156).bind fun t159 => (if t159 = true then (if t133 = 5 then (if (t136.length : Int) = 0 then (if t137 = (-1) then ((stuff_Stuff.f ([] : List Int)).bind fun t160 => (if (t160.length : Int) = 0 then ((stuff_Runs.f (([1, 0, 0, 1, 1, 1] : List Int))).bind fun t166 => (if t166 = 3 then ((stuff_Runs.f ([] : List Int)).bind fun t167 => (if t167 = 0 then (some true) else (none))) else (none))) else (none))) else (none)) else (none)) else (none)) else (none))) = some r := by first | (rw [hy156]; with_reducible exact H) | (have H2_ := (Option.bind_some _ _).symm.trans H; rw [hy156]; with_reducible exact H2_) | (have H2_ := (Option.bind_some _ _).symm.trans H; with_reducible exact H2_) | with_reducible exact H | (rw [hy156]; exact H) | exact H
              have Ny156 := Aside0.mk hy156
              clear hy156
              replace H := Option.bind_eq_some_iff.mp H
              obtain ⟨t159, A170, H⟩ := H
              replace H : (if t159 = true then (if t133 = 5 then (if (t136.length : Int) = 0 then (if t137 = (-1) then ((stuff_Stuff.f ([] : List Int)).bind fun t160 => (if (t160.length : Int) = 0 then ((stuff_Runs.f (([1, 0, 0, 1, 1, 1] : List Int))).bind fun t166 => (if t166 = 3 then ((stuff_Runs.f ([] : List Int)).bind fun t167 => (if t167 = 0 then (some true) else (none))) else (none))) else (none))) else (none)) else (none)) else (none)) else (none)) = some r := H
              have A17 := Aside0.mk A170
              clear A170
              by_cases c18 : t159 = true
              · subst c18
                have H1 : (if t133 = 5 then (if (t136.length : Int) = 0 then (if t137 = (-1) then ((stuff_Stuff.f ([] : List Int)).bind fun t160 => (if (t160.length : Int) = 0 then ((stuff_Runs.f (([1, 0, 0, 1, 1, 1] : List Int))).bind fun t166 => (if t166 = 3 then ((stuff_Runs.f ([] : List Int)).bind fun t167 => (if t167 = 0 then (some true) else (none))) else (none))) else (none))) else (none)) else (none)) else (none)) = some r := by rw [if_pos rfl] at H; exact H
                clear H
                have H := H1
                clear H1
                by_cases c19 : t133 = 5
                · rw [if_pos c19] at H
                  have c19b0 : (t133 == 5) = true := beq_iff_eq.mpr c19
                  have c19b1 : (t133 != 5) = false := bne_eq_false_iff_eq.mpr c19
                  clear c19
                  by_cases c20 : (t136.length : Int) = 0
                  · rw [if_pos c20] at H
                    have c20b0 : ((t136.length : Int) == 0) = true := beq_iff_eq.mpr c20
                    have c20b1 : ((t136.length : Int) != 0) = false := bne_eq_false_iff_eq.mpr c20
                    clear c20
                    by_cases c21 : t137 = (-1)
                    · rw [if_pos c21] at H
                      have c21b0 : (t137 == (-1)) = true := beq_iff_eq.mpr c21
                      have c21b1 : (t137 != (-1)) = false := bne_eq_false_iff_eq.mpr c21
                      clear c21
                      replace H := Option.bind_eq_some_iff.mp H
                      obtain ⟨t160, A220, H⟩ := H
                      replace H : (if (t160.length : Int) = 0 then ((stuff_Runs.f (([1, 0, 0, 1, 1, 1] : List Int))).bind fun t166 => (if t166 = 3 then ((stuff_Runs.f ([] : List Int)).bind fun t167 => (if t167 = 0 then (some true) else (none))) else (none))) else (none)) = some r := H
                      have A22 := Aside0.mk A220
                      clear A220
                      by_cases c23 : (t160.length : Int) = 0
                      · rw [if_pos c23] at H
                        have c23b0 : ((t160.length : Int) == 0) = true := beq_iff_eq.mpr c23
                        have c23b1 : ((t160.length : Int) != 0) = false := bne_eq_false_iff_eq.mpr c23
                        clear c23
                        obtain ⟨y163, hy163⟩ : ∃ y_ : List Int, y_ = (([1, 0, 0, 1, 1, 1] : List Int)) := ⟨_, rfl⟩
                        replace H : ((stuff_Runs.f y163).bind fun t166 => (if t166 = 3 then ((stuff_Runs.f ([] : List Int)).bind fun t167 => (if t167 = 0 then (some true) else (none))) else (none))) = some r := by first | (rw [hy163]; with_reducible exact H) | (have H2_ := (Option.bind_some _ _).symm.trans H; rw [hy163]; with_reducible exact H2_) | (have H2_ := (Option.bind_some _ _).symm.trans H; with_reducible exact H2_) | with_reducible exact H | (rw [hy163]; exact H) | exact H
                        have Ny163 := Aside0.mk hy163
                        clear hy163
                        replace H := Option.bind_eq_some_iff.mp H
                        obtain ⟨t166, A240, H⟩ := H
                        replace H : (if t166 = 3 then ((stuff_Runs.f ([] : List Int)).bind fun t167 => (if t167 = 0 then (some true) else (none))) else (none)) = some r := H
                        have A24 := Aside0.mk A240
                        clear A240
                        by_cases c25 : t166 = 3
                        · rw [if_pos c25] at H
                          have c25b0 : (t166 == 3) = true := beq_iff_eq.mpr c25
                          have c25b1 : (t166 != 3) = false := bne_eq_false_iff_eq.mpr c25
                          clear c25
                          replace H := Option.bind_eq_some_iff.mp H
                          obtain ⟨t167, A260, H⟩ := H
                          replace H : (if t167 = 0 then (some true) else (none)) = some r := H
                          have A26 := Aside0.mk A260
                          clear A260
                          by_cases c27 : t167 = 0
                          · rw [if_pos c27] at H
                            have c27b0 : (t167 == 0) = true := beq_iff_eq.mpr c27
                            have c27b1 : (t167 != 0) = false := bne_eq_false_iff_eq.mpr c27
                            clear c27
                            obtain rfl := Option.some.inj H
                            go_enter Try.func11, Try.ntmps11
                            go_wp2_with (first | ((with_reducible refine gate_dst (N := 11) rfl ?_); (try (refine gate_guard (by rfl) ?_; dsimp only)); refine Kd.R_lit (Kd.int .i64) _ 3 ?hg (N := 11) ?hd (xs := ([0, 0, 0, 0, 0] : List Int)) (inner := [.int .i64 0, .int .i64 0, .int .i64 0, .int .i64 0, .int .i64 0]) (ok := fun _ => True) (okp := fun _ => True) ?hr ?hp (fun _ hk => hk) trivial (Below.refl _ _) (Nat.le_refl _) (by simp) ?_; (case hd => rfl); (case hg => rfl); (case hr => first | (go_simp; done) | (go_simp; rfl)); (case hp => exact (Reps.one (show Kd.M (Kd.int .i64) _ _ _ 0 [.int .i64 0] from rfl) (Reps.one (show Kd.M (Kd.int .i64) _ _ _ 0 [.int .i64 0] from rfl) (Reps.one (show Kd.M (Kd.int .i64) _ _ _ 0 [.int .i64 0] from rfl) (Reps.one (show Kd.M (Kd.int .i64) _ _ _ 0 [.int .i64 0] from rfl) (Reps.one (show Kd.M (Kd.int .i64) _ _ _ 0 [.int .i64 0] from rfl) (Reps.none _ _))))))); intro v104 w28 ho29 hb hg_ hnew_; clear hg_ hnew_; (first | rw [← Ny103.out] at ho29 | (simp only [Int.reduceToNat] at ho29; rw [← Ny103.out] at ho29)); have n0_ := Aside0.mk (Kd.R_lower ho29 (below_size (by repeat (first | (with_reducible first | exact HB.out | apply below_alloc | apply pw_below_drewN | apply below_drew1) | exact HB.out)))); have n1_ := Aside0.mk (below_step (by repeat (first | (with_reducible first | exact HB.out | apply below_alloc | apply pw_below_drewN | apply below_drew1) | exact HB.out)) hb); clear HB; have HO105 := n0_; have HB := n1_; clear n0_ n1_; clear hb ho29; obtain ⟨Ao30, co30, eo30⟩ := Kd.R_slice HO105.out; subst eo30) | ((with_reducible refine gate_callee (f := 16) rfl ?_); refine goesL_ (some 12) rfl rfl Try.func16 (by kernel_rfl) rfl #[.slice Ao30 y103.length co30] rfl (by (try simp only [List.map_toArray, List.map_cons, List.map_nil]); first | done | rfl | (simp only [List.length_drop, List.length_take]; rfl)) ?_; (with_reducible refine (stuff_Stuff.calls _ _ y103 t106 _ ?side1 ?side2 A1.out).mono ?_); (case side1 => repeat (first | exact (Kd.R_reads' HO105.out).2.2 | (with_reducible refine Kd.C_alloc ?_ _) | (with_reducible refine Kd.C_drewN ?_ _) | (with_reducible refine Kd.C_drew ?_))); (case side2 => exact (Kd.R_reads' HO105.out).2.1); rintro e w31 ⟨v107, rfl, ho0, hb⟩; refine ⟨_, rfl, ?_⟩; have n0_ := Aside0.mk (Kd.R_elder' (by (with_reducible repeat (first | apply Kd.R_alloc | apply Kd.R_drewN | apply Kd.R_drew)); exact HO105.out) (Kd.R_base ho0) hb); have n1_ := Aside0.mk (Kd.R_lower (Kd.R_new' ho0 (Kd.R_lt (by (with_reducible repeat (first | apply Kd.R_alloc | apply Kd.R_drewN | apply Kd.R_drew)); exact HO105.out))) (below_size (by repeat (first | (with_reducible first | exact HB.out | apply below_alloc | apply pw_below_drewN | apply below_drew1) | exact HB.out)))); have n2_ := Aside0.mk (below_step (by repeat (first | (with_reducible first | exact HB.out | apply below_alloc | apply pw_below_drewN | apply below_drew1) | exact HB.out)) hb); clear HO105; clear HB; have HO105 := n0_; have HO108 := n1_; have HB := n2_; clear n0_ n1_ n2_; (try clear hb); (try clear hb2); (try clear hk); (try clear hi); (try clear ho0)) | ((with_reducible refine gate_dst (N := 13) rfl ?_); (try (refine gate_guard (by rfl) ?_; dsimp only)); refine Kd.R_lit (Kd.int .i64) _ 3 ?hg (N := 13) ?hd (xs := ([1, 1, 1, 1, 1, 0, 0, 0, 0, 1] : List Int)) (inner := [.int .i64 1, .int .i64 1, .int .i64 1, .int .i64 1, .int .i64 1, .int .i64 0, .int .i64 0, .int .i64 0, .int .i64 0, .int .i64 1]) (ok := fun _ => True) (okp := fun _ => True) ?hr ?hp (fun _ hk => hk) trivial (Below.refl _ _) (Nat.le_refl _) (by simp) ?_; (case hd => rfl); (case hg => rfl); (case hr => first | (go_simp; done) | (go_simp; rfl)); (case hp => exact (Reps.one (show Kd.M (Kd.int .i64) _ _ _ 1 [.int .i64 1] from rfl) (Reps.one (show Kd.M (Kd.int .i64) _ _ _ 1 [.int .i64 1] from rfl) (Reps.one (show Kd.M (Kd.int .i64) _ _ _ 1 [.int .i64 1] from rfl) (Reps.one (show Kd.M (Kd.int .i64) _ _ _ 1 [.int .i64 1] from rfl) (Reps.one (show Kd.M (Kd.int .i64) _ _ _ 1 [.int .i64 1] from rfl) (Reps.one (show Kd.M (Kd.int .i64) _ _ _ 0 [.int .i64 0] from rfl) (Reps.one (show Kd.M (Kd.int .i64) _ _ _ 0 [.int .i64 0] from rfl) (Reps.one (show Kd.M (Kd.int .i64) _ _ _ 0 [.int .i64 0] from rfl) (Reps.one (show Kd.M (Kd.int .i64) _ _ _ 0 [.int .i64 0] from rfl) (Reps.one (show Kd.M (Kd.int .i64) _ _ _ 1 [.int .i64 1] from rfl) (Reps.none _ _)))))))))))); intro v110 w32 ho33 hb hg_ hnew_; clear hg_ hnew_; (first | rw [← Ny109.out] at ho33 | (simp only [Int.reduceToNat] at ho33; rw [← Ny109.out] at ho33)); have n0_ := Aside0.mk (Kd.R_elder' (by (with_reducible repeat (first | apply Kd.R_alloc | apply Kd.R_drewN | apply Kd.R_drew)); exact HO105.out) (Kd.R_base ho33) hb); have n1_ := Aside0.mk (Kd.R_elder' (by (with_reducible repeat (first | apply Kd.R_alloc | apply Kd.R_drewN | apply Kd.R_drew)); exact HO108.out) (Kd.R_base ho33) hb); have n2_ := Aside0.mk (Kd.R_lower (Kd.R_new' (Kd.R_new' ho33 (Kd.R_lt (by (with_reducible repeat (first | apply Kd.R_alloc | apply Kd.R_drewN | apply Kd.R_drew)); exact HO105.out))) (Kd.R_lt (by (with_reducible repeat (first | apply Kd.R_alloc | apply Kd.R_drewN | apply Kd.R_drew)); exact HO108.out))) (below_size (by repeat (first | (with_reducible first | exact HB.out | apply below_alloc | apply pw_below_drewN | apply below_drew1) | exact HB.out)))); have n3_ := Aside0.mk (below_step (by repeat (first | (with_reducible first | exact HB.out | apply below_alloc | apply pw_below_drewN | apply below_drew1) | exact HB.out)) hb); clear HO105; clear HO108; clear HB; have HO105 := n0_; have HO108 := n1_; have HO111 := n2_; have HB := n3_; clear n0_ n1_ n2_ n3_; clear hb ho33; obtain ⟨Ao34, co34, eo34⟩ := Kd.R_slice HO111.out; subst eo34) | ((with_reducible refine gate_callee (f := 16) rfl ?_); refine goesL_ (some 14) rfl rfl Try.func16 (by kernel_rfl) rfl #[.slice Ao34 y109.length co34] rfl (by (try simp only [List.map_toArray, List.map_cons, List.map_nil]); first | done | rfl | (simp only [List.length_drop, List.length_take]; rfl)) ?_; (with_reducible refine (stuff_Stuff.calls _ _ y109 t112 _ ?side1 ?side2 A2.out).mono ?_); (case side1 => repeat (first | exact (Kd.R_reads' HO111.out).2.2 | (with_reducible refine Kd.C_alloc ?_ _) | (with_reducible refine Kd.C_drewN ?_ _) | (with_reducible refine Kd.C_drew ?_))); (case side2 => exact (Kd.R_reads' HO111.out).2.1); rintro e w35 ⟨v113, rfl, ho0, hb⟩; refine ⟨_, rfl, ?_⟩; have n0_ := Aside0.mk (Kd.R_elder' (by (with_reducible repeat (first | apply Kd.R_alloc | apply Kd.R_drewN | apply Kd.R_drew)); exact HO105.out) (Kd.R_base ho0) hb); have n1_ := Aside0.mk (Kd.R_elder' (by (with_reducible repeat (first | apply Kd.R_alloc | apply Kd.R_drewN | apply Kd.R_drew)); exact HO108.out) (Kd.R_base ho0) hb); have n2_ := Aside0.mk (Kd.R_elder' (by (with_reducible repeat (first | apply Kd.R_alloc | apply Kd.R_drewN | apply Kd.R_drew)); exact HO111.out) (Kd.R_base ho0) hb); have n3_ := Aside0.mk (Kd.R_lower (Kd.R_new' (Kd.R_new' (Kd.R_new' ho0 (Kd.R_lt (by (with_reducible repeat (first | apply Kd.R_alloc | apply Kd.R_drewN | apply Kd.R_drew)); exact HO105.out))) (Kd.R_lt (by (with_reducible repeat (first | apply Kd.R_alloc | apply Kd.R_drewN | apply Kd.R_drew)); exact HO108.out))) (Kd.R_lt (by (with_reducible repeat (first | apply Kd.R_alloc | apply Kd.R_drewN | apply Kd.R_drew)); exact HO111.out))) (below_size (by repeat (first | (with_reducible first | exact HB.out | apply below_alloc | apply pw_below_drewN | apply below_drew1) | exact HB.out)))); have n4_ := Aside0.mk (below_step (by repeat (first | (with_reducible first | exact HB.out | apply below_alloc | apply pw_below_drewN | apply below_drew1) | exact HB.out)) hb); clear HO105; clear HO108; clear HO111; clear HB; have HO105 := n0_; have HO108 := n1_; have HO111 := n2_; have HO114 := n3_; have HB := n4_; clear n0_ n1_ n2_ n3_ n4_; (try clear hb); (try clear hb2); (try clear hk); (try clear hi); (try clear ho0)) | ((with_reducible refine gate_dst (N := 16) rfl ?_); (try (refine gate_guard (by rfl) ?_; dsimp only)); refine Kd.R_lit (Kd.int .i64) _ 3 ?hg (N := 16) ?hd (xs := ([0, 0, 0, 0, 0, 1, 1] : List Int)) (inner := [.int .i64 0, .int .i64 0, .int .i64 0, .int .i64 0, .int .i64 0, .int .i64 1, .int .i64 1]) (ok := fun _ => True) (okp := fun _ => True) ?hr ?hp (fun _ hk => hk) trivial (Below.refl _ _) (Nat.le_refl _) (by simp) ?_; (case hd => rfl); (case hg => rfl); (case hr => first | (go_simp; done) | (go_simp; rfl)); (case hp => exact (Reps.one (show Kd.M (Kd.int .i64) _ _ _ 0 [.int .i64 0] from rfl) (Reps.one (show Kd.M (Kd.int .i64) _ _ _ 0 [.int .i64 0] from rfl) (Reps.one (show Kd.M (Kd.int .i64) _ _ _ 0 [.int .i64 0] from rfl) (Reps.one (show Kd.M (Kd.int .i64) _ _ _ 0 [.int .i64 0] from rfl) (Reps.one (show Kd.M (Kd.int .i64) _ _ _ 0 [.int .i64 0] from rfl) (Reps.one (show Kd.M (Kd.int .i64) _ _ _ 1 [.int .i64 1] from rfl) (Reps.one (show Kd.M (Kd.int .i64) _ _ _ 1 [.int .i64 1] from rfl) (Reps.none _ _))))))))); intro v116 w36 ho37 hb hg_ hnew_; clear hg_ hnew_; (first | rw [← Ny115.out] at ho37 | (simp only [Int.reduceToNat] at ho37; rw [← Ny115.out] at ho37)); have n0_ := Aside0.mk (Kd.R_elder' (by (with_reducible repeat (first | apply Kd.R_alloc | apply Kd.R_drewN | apply Kd.R_drew)); exact HO105.out) (Kd.R_base ho37) hb); have n1_ := Aside0.mk (Kd.R_elder' (by (with_reducible repeat (first | apply Kd.R_alloc | apply Kd.R_drewN | apply Kd.R_drew)); exact HO108.out) (Kd.R_base ho37) hb); have n2_ := Aside0.mk (Kd.R_elder' (by (with_reducible repeat (first | apply Kd.R_alloc | apply Kd.R_drewN | apply Kd.R_drew)); exact HO111.out) (Kd.R_base ho37) hb); have n3_ := Aside0.mk (Kd.R_elder' (by (with_reducible repeat (first | apply Kd.R_alloc | apply Kd.R_drewN | apply Kd.R_drew)); exact HO114.out) (Kd.R_base ho37) hb); have n4_ := Aside0.mk (Kd.R_lower (Kd.R_new' (Kd.R_new' (Kd.R_new' (Kd.R_new' ho37 (Kd.R_lt (by (with_reducible repeat (first | apply Kd.R_alloc | apply Kd.R_drewN | apply Kd.R_drew)); exact HO105.out))) (Kd.R_lt (by (with_reducible repeat (first | apply Kd.R_alloc | apply Kd.R_drewN | apply Kd.R_drew)); exact HO108.out))) (Kd.R_lt (by (with_reducible repeat (first | apply Kd.R_alloc | apply Kd.R_drewN | apply Kd.R_drew)); exact HO111.out))) (Kd.R_lt (by (with_reducible repeat (first | apply Kd.R_alloc | apply Kd.R_drewN | apply Kd.R_drew)); exact HO114.out))) (below_size (by repeat (first | (with_reducible first | exact HB.out | apply below_alloc | apply pw_below_drewN | apply below_drew1) | exact HB.out)))); have n5_ := Aside0.mk (below_step (by repeat (first | (with_reducible first | exact HB.out | apply below_alloc | apply pw_below_drewN | apply below_drew1) | exact HB.out)) hb); clear HO105; clear HO108; clear HO111; clear HO114; clear HB; have HO105 := n0_; have HO108 := n1_; have HO111 := n2_; have HO114 := n3_; have HO117 := n4_; have HB := n5_; clear n0_ n1_ n2_ n3_ n4_ n5_; clear hb ho37; obtain ⟨Ao38, co38, eo38⟩ := Kd.R_slice HO117.out; subst eo38) | ((with_reducible refine gate_callee (f := 13) rfl ?_); refine goesL_ (some 17) rfl rfl Try.func13 (by kernel_rfl) rfl #[.slice Ao38 y115.length co38] rfl (by (try simp only [List.map_toArray, List.map_cons, List.map_nil]); first | done | rfl | (simp only [List.length_drop, List.length_take]; rfl)) ?_; (with_reducible refine (stuff_Strip.calls _ _ y115 t118 t119 _ ?side1 ?side2 A3.out).mono ?_); (case side1 => repeat (first | exact (Kd.R_reads' HO117.out).2.2 | (with_reducible refine Kd.C_alloc ?_ _) | (with_reducible refine Kd.C_drewN ?_ _) | (with_reducible refine Kd.C_drew ?_))); (case side2 => exact (Kd.R_reads' HO117.out).2.1); rintro e w39 ⟨v120, rfl, ho0, hb⟩; refine ⟨_, rfl, ?_⟩; have n0_ := Aside0.mk (Kd.R_elder' (by (with_reducible repeat (first | apply Kd.R_alloc | apply Kd.R_drewN | apply Kd.R_drew)); exact HO105.out) (Kd.R_base ho0) hb); have n1_ := Aside0.mk (Kd.R_elder' (by (with_reducible repeat (first | apply Kd.R_alloc | apply Kd.R_drewN | apply Kd.R_drew)); exact HO108.out) (Kd.R_base ho0) hb); have n2_ := Aside0.mk (Kd.R_elder' (by (with_reducible repeat (first | apply Kd.R_alloc | apply Kd.R_drewN | apply Kd.R_drew)); exact HO111.out) (Kd.R_base ho0) hb); have n3_ := Aside0.mk (Kd.R_elder' (by (with_reducible repeat (first | apply Kd.R_alloc | apply Kd.R_drewN | apply Kd.R_drew)); exact HO114.out) (Kd.R_base ho0) hb); have n4_ := Aside0.mk (Kd.R_elder' (by (with_reducible repeat (first | apply Kd.R_alloc | apply Kd.R_drewN | apply Kd.R_drew)); exact HO117.out) (Kd.R_base ho0) hb); have n5_ := Aside0.mk (Kd.R_lower (Kd.R_new' (Kd.R_new' (Kd.R_new' (Kd.R_new' (Kd.R_new' ho0 (Kd.R_lt (by (with_reducible repeat (first | apply Kd.R_alloc | apply Kd.R_drewN | apply Kd.R_drew)); exact HO105.out))) (Kd.R_lt (by (with_reducible repeat (first | apply Kd.R_alloc | apply Kd.R_drewN | apply Kd.R_drew)); exact HO108.out))) (Kd.R_lt (by (with_reducible repeat (first | apply Kd.R_alloc | apply Kd.R_drewN | apply Kd.R_drew)); exact HO111.out))) (Kd.R_lt (by (with_reducible repeat (first | apply Kd.R_alloc | apply Kd.R_drewN | apply Kd.R_drew)); exact HO114.out))) (Kd.R_lt (by (with_reducible repeat (first | apply Kd.R_alloc | apply Kd.R_drewN | apply Kd.R_drew)); exact HO117.out))) (below_size (by repeat (first | (with_reducible first | exact HB.out | apply below_alloc | apply pw_below_drewN | apply below_drew1) | exact HB.out)))); have n6_ := Aside0.mk (below_step (by repeat (first | (with_reducible first | exact HB.out | apply below_alloc | apply pw_below_drewN | apply below_drew1) | exact HB.out)) hb); clear HO105; clear HO108; clear HO111; clear HO114; clear HO117; clear HB; have HO105 := n0_; have HO108 := n1_; have HO111 := n2_; have HO114 := n3_; have HO117 := n4_; have HO121 := n5_; have HB := n6_; clear n0_ n1_ n2_ n3_ n4_ n5_ n6_; (try clear hb); (try clear hb2); (try clear hk); (try clear hi); (try clear ho0)) | ((with_reducible refine gate_dst (N := 21) rfl ?_); (try (refine gate_guard (by rfl) ?_; dsimp only)); refine Kd.R_lit (Kd.int .i64) _ 3 ?hg (N := 21) ?hd (xs := ([1, 0, 0, 0, 0, 0, 0] : List Int)) (inner := [.int .i64 1, .int .i64 0, .int .i64 0, .int .i64 0, .int .i64 0, .int .i64 0, .int .i64 0]) (ok := fun _ => True) (okp := fun _ => True) ?hr ?hp (fun _ hk => hk) trivial (Below.refl _ _) (Nat.le_refl _) (by simp) ?_; (case hd => rfl); (case hg => rfl); (case hr => first | (go_simp; done) | (go_simp; rfl)); (case hp => exact (Reps.one (show Kd.M (Kd.int .i64) _ _ _ 1 [.int .i64 1] from rfl) (Reps.one (show Kd.M (Kd.int .i64) _ _ _ 0 [.int .i64 0] from rfl) (Reps.one (show Kd.M (Kd.int .i64) _ _ _ 0 [.int .i64 0] from rfl) (Reps.one (show Kd.M (Kd.int .i64) _ _ _ 0 [.int .i64 0] from rfl) (Reps.one (show Kd.M (Kd.int .i64) _ _ _ 0 [.int .i64 0] from rfl) (Reps.one (show Kd.M (Kd.int .i64) _ _ _ 0 [.int .i64 0] from rfl) (Reps.one (show Kd.M (Kd.int .i64) _ _ _ 0 [.int .i64 0] from rfl) (Reps.none _ _))))))))); intro v123 w40 ho41 hb hg_ hnew_; clear hg_ hnew_; (first | rw [← Ny122.out] at ho41 | (simp only [Int.reduceToNat] at ho41; rw [← Ny122.out] at ho41)); have n0_ := Aside0.mk (Kd.R_elder' (by (with_reducible repeat (first | apply Kd.R_alloc | apply Kd.R_drewN | apply Kd.R_drew)); exact HO105.out) (Kd.R_base ho41) hb); have n1_ := Aside0.mk (Kd.R_elder' (by (with_reducible repeat (first | apply Kd.R_alloc | apply Kd.R_drewN | apply Kd.R_drew)); exact HO108.out) (Kd.R_base ho41) hb); have n2_ := Aside0.mk (Kd.R_elder' (by (with_reducible repeat (first | apply Kd.R_alloc | apply Kd.R_drewN | apply Kd.R_drew)); exact HO111.out) (Kd.R_base ho41) hb); have n3_ := Aside0.mk (Kd.R_elder' (by (with_reducible repeat (first | apply Kd.R_alloc | apply Kd.R_drewN | apply Kd.R_drew)); exact HO114.out) (Kd.R_base ho41) hb); have n4_ := Aside0.mk (Kd.R_elder' (by (with_reducible repeat (first | apply Kd.R_alloc | apply Kd.R_drewN | apply Kd.R_drew)); exact HO117.out) (Kd.R_base ho41) hb); have n5_ := Aside0.mk (Kd.R_elder' (by (with_reducible repeat (first | apply Kd.R_alloc | apply Kd.R_drewN | apply Kd.R_drew)); exact HO121.out) (Kd.R_base ho41) hb); have n6_ := Aside0.mk (Kd.R_lower (Kd.R_new' (Kd.R_new' (Kd.R_new' (Kd.R_new' (Kd.R_new' (Kd.R_new' ho41 (Kd.R_lt (by (with_reducible repeat (first | apply Kd.R_alloc | apply Kd.R_drewN | apply Kd.R_drew)); exact HO105.out))) (Kd.R_lt (by (with_reducible repeat (first | apply Kd.R_alloc | apply Kd.R_drewN | apply Kd.R_drew)); exact HO108.out))) (Kd.R_lt (by (with_reducible repeat (first | apply Kd.R_alloc | apply Kd.R_drewN | apply Kd.R_drew)); exact HO111.out))) (Kd.R_lt (by (with_reducible repeat (first | apply Kd.R_alloc | apply Kd.R_drewN | apply Kd.R_drew)); exact HO114.out))) (Kd.R_lt (by (with_reducible repeat (first | apply Kd.R_alloc | apply Kd.R_drewN | apply Kd.R_drew)); exact HO117.out))) (Kd.R_lt (by (with_reducible repeat (first | apply Kd.R_alloc | apply Kd.R_drewN | apply Kd.R_drew)); exact HO121.out))) (below_size (by repeat (first | (with_reducible first | exact HB.out | apply below_alloc | apply pw_below_drewN | apply below_drew1) | exact HB.out)))); have n7_ := Aside0.mk (below_step (by repeat (first | (with_reducible first | exact HB.out | apply below_alloc | apply pw_below_drewN | apply below_drew1) | exact HB.out)) hb); clear HO105; clear HO108; clear HO111; clear HO114; clear HO117; clear HO121; clear HB; have HO105 := n0_; have HO108 := n1_; have HO111 := n2_; have HO114 := n3_; have HO117 := n4_; have HO121 := n5_; have HO124 := n6_; have HB := n7_; clear n0_ n1_ n2_ n3_ n4_ n5_ n6_ n7_; clear hb ho41; obtain ⟨Ao42, co42, eo42⟩ := Kd.R_slice HO124.out; subst eo42) | ((with_reducible refine gate_callee (f := 13) rfl ?_); refine goesL_ (some 22) rfl rfl Try.func13 (by kernel_rfl) rfl #[.slice Ao42 y122.length co42] rfl (by (try simp only [List.map_toArray, List.map_cons, List.map_nil]); first | done | rfl | (simp only [List.length_drop, List.length_take]; rfl)) ?_; (with_reducible refine (stuff_Strip.calls _ _ y122 t125 t126 _ ?side1 ?side2 A4.out).mono ?_); (case side1 => repeat (first | exact (Kd.R_reads' HO124.out).2.2 | (with_reducible refine Kd.C_alloc ?_ _) | (with_reducible refine Kd.C_drewN ?_ _) | (with_reducible refine Kd.C_drew ?_))); (case side2 => exact (Kd.R_reads' HO124.out).2.1); rintro e w43 ⟨v127, rfl, ho0, hb⟩; refine ⟨_, rfl, ?_⟩; have n0_ := Aside0.mk (Kd.R_elder' (by (with_reducible repeat (first | apply Kd.R_alloc | apply Kd.R_drewN | apply Kd.R_drew)); exact HO105.out) (Kd.R_base ho0) hb); have n1_ := Aside0.mk (Kd.R_elder' (by (with_reducible repeat (first | apply Kd.R_alloc | apply Kd.R_drewN | apply Kd.R_drew)); exact HO108.out) (Kd.R_base ho0) hb); have n2_ := Aside0.mk (Kd.R_elder' (by (with_reducible repeat (first | apply Kd.R_alloc | apply Kd.R_drewN | apply Kd.R_drew)); exact HO111.out) (Kd.R_base ho0) hb); have n3_ := Aside0.mk (Kd.R_elder' (by (with_reducible repeat (first | apply Kd.R_alloc | apply Kd.R_drewN | apply Kd.R_drew)); exact HO114.out) (Kd.R_base ho0) hb); have n4_ := Aside0.mk (Kd.R_elder' (by (with_reducible repeat (first | apply Kd.R_alloc | apply Kd.R_drewN | apply Kd.R_drew)); exact HO117.out) (Kd.R_base ho0) hb); have n5_ := Aside0.mk (Kd.R_elder' (by (with_reducible repeat (first | apply Kd.R_alloc | apply Kd.R_drewN | apply Kd.R_drew)); exact HO121.out) (Kd.R_base ho0) hb); have n6_ := Aside0.mk (Kd.R_elder' (by (with_reducible repeat (first | apply Kd.R_alloc | apply Kd.R_drewN | apply Kd.R_drew)); exact HO124.out) (Kd.R_base ho0) hb); have n7_ := Aside0.mk (Kd.R_lower (Kd.R_new' (Kd.R_new' (Kd.R_new' (Kd.R_new' (Kd.R_new' (Kd.R_new' (Kd.R_new' ho0 (Kd.R_lt (by (with_reducible repeat (first | apply Kd.R_alloc | apply Kd.R_drewN | apply Kd.R_drew)); exact HO105.out))) (Kd.R_lt (by (with_reducible repeat (first | apply Kd.R_alloc | apply Kd.R_drewN | apply Kd.R_drew)); exact HO108.out))) (Kd.R_lt (by (with_reducible repeat (first | apply Kd.R_alloc | apply Kd.R_drewN | apply Kd.R_drew)); exact HO111.out))) (Kd.R_lt (by (with_reducible repeat (first | apply Kd.R_alloc | apply Kd.R_drewN | apply Kd.R_drew)); exact HO114.out))) (Kd.R_lt (by (with_reducible repeat (first | apply Kd.R_alloc | apply Kd.R_drewN | apply Kd.R_drew)); exact HO117.out))) (Kd.R_lt (by (with_reducible repeat (first | apply Kd.R_alloc | apply Kd.R_drewN | apply Kd.R_drew)); exact HO121.out))) (Kd.R_lt (by (with_reducible repeat (first | apply Kd.R_alloc | apply Kd.R_drewN | apply Kd.R_drew)); exact HO124.out))) (below_size (by repeat (first | (with_reducible first | exact HB.out | apply below_alloc | apply pw_below_drewN | apply below_drew1) | exact HB.out)))); have n8_ := Aside0.mk (below_step (by repeat (first | (with_reducible first | exact HB.out | apply below_alloc | apply pw_below_drewN | apply below_drew1) | exact HB.out)) hb); clear HO105; clear HO108; clear HO111; clear HO114; clear HO117; clear HO121; clear HO124; clear HB; have HO105 := n0_; have HO108 := n1_; have HO111 := n2_; have HO114 := n3_; have HO117 := n4_; have HO121 := n5_; have HO124 := n6_; have HO128 := n7_; have HB := n8_; clear n0_ n1_ n2_ n3_ n4_ n5_ n6_ n7_ n8_; (try clear hb); (try clear hb2); (try clear hk); (try clear hi); (try clear ho0)) | ((with_reducible refine gate_dst (N := 26) rfl ?_); (try (refine gate_guard (by rfl) ?_; dsimp only)); refine Kd.R_lit (Kd.int .i64) _ 3 ?hg (N := 26) ?hd (xs := ([0, 0, 0, 0, 0] : List Int)) (inner := [.int .i64 0, .int .i64 0, .int .i64 0, .int .i64 0, .int .i64 0]) (ok := fun _ => True) (okp := fun _ => True) ?hr ?hp (fun _ hk => hk) trivial (Below.refl _ _) (Nat.le_refl _) (by simp) ?_; (case hd => rfl); (case hg => rfl); (case hr => first | (go_simp; done) | (go_simp; rfl)); (case hp => exact (Reps.one (show Kd.M (Kd.int .i64) _ _ _ 0 [.int .i64 0] from rfl) (Reps.one (show Kd.M (Kd.int .i64) _ _ _ 0 [.int .i64 0] from rfl) (Reps.one (show Kd.M (Kd.int .i64) _ _ _ 0 [.int .i64 0] from rfl) (Reps.one (show Kd.M (Kd.int .i64) _ _ _ 0 [.int .i64 0] from rfl) (Reps.one (show Kd.M (Kd.int .i64) _ _ _ 0 [.int .i64 0] from rfl) (Reps.none _ _))))))); intro v130 w44 ho45 hb hg_ hnew_; clear hg_ hnew_; (first | rw [← Ny129.out] at ho45 | (simp only [Int.reduceToNat] at ho45; rw [← Ny129.out] at ho45)); have n0_ := Aside0.mk (Kd.R_elder' (by (with_reducible repeat (first | apply Kd.R_alloc | apply Kd.R_drewN | apply Kd.R_drew)); exact HO105.out) (Kd.R_base ho45) hb); have n1_ := Aside0.mk (Kd.R_elder' (by (with_reducible repeat (first | apply Kd.R_alloc | apply Kd.R_drewN | apply Kd.R_drew)); exact HO108.out) (Kd.R_base ho45) hb); have n2_ := Aside0.mk (Kd.R_elder' (by (with_reducible repeat (first | apply Kd.R_alloc | apply Kd.R_drewN | apply Kd.R_drew)); exact HO111.out) (Kd.R_base ho45) hb); have n3_ := Aside0.mk (Kd.R_elder' (by (with_reducible repeat (first | apply Kd.R_alloc | apply Kd.R_drewN | apply Kd.R_drew)); exact HO114.out) (Kd.R_base ho45) hb); have n4_ := Aside0.mk (Kd.R_elder' (by (with_reducible repeat (first | apply Kd.R_alloc | apply Kd.R_drewN | apply Kd.R_drew)); exact HO117.out) (Kd.R_base ho45) hb); have n5_ := Aside0.mk (Kd.R_elder' (by (with_reducible repeat (first | apply Kd.R_alloc | apply Kd.R_drewN | apply Kd.R_drew)); exact HO121.out) (Kd.R_base ho45) hb); have n6_ := Aside0.mk (Kd.R_elder' (by (with_reducible repeat (first | apply Kd.R_alloc | apply Kd.R_drewN | apply Kd.R_drew)); exact HO124.out) (Kd.R_base ho45) hb); have n7_ := Aside0.mk (Kd.R_elder' (by (with_reducible repeat (first | apply Kd.R_alloc | apply Kd.R_drewN | apply Kd.R_drew)); exact HO128.out) (Kd.R_base ho45) hb); have n8_ := Aside0.mk (Kd.R_lower (Kd.R_new' (Kd.R_new' (Kd.R_new' (Kd.R_new' (Kd.R_new' (Kd.R_new' (Kd.R_new' (Kd.R_new' ho45 (Kd.R_lt (by (with_reducible repeat (first | apply Kd.R_alloc | apply Kd.R_drewN | apply Kd.R_drew)); exact HO105.out))) (Kd.R_lt (by (with_reducible repeat (first | apply Kd.R_alloc | apply Kd.R_drewN | apply Kd.R_drew)); exact HO108.out))) (Kd.R_lt (by (with_reducible repeat (first | apply Kd.R_alloc | apply Kd.R_drewN | apply Kd.R_drew)); exact HO111.out))) (Kd.R_lt (by (with_reducible repeat (first | apply Kd.R_alloc | apply Kd.R_drewN | apply Kd.R_drew)); exact HO114.out))) (Kd.R_lt (by (with_reducible repeat (first | apply Kd.R_alloc | apply Kd.R_drewN | apply Kd.R_drew)); exact HO117.out))) (Kd.R_lt (by (with_reducible repeat (first | apply Kd.R_alloc | apply Kd.R_drewN | apply Kd.R_drew)); exact HO121.out))) (Kd.R_lt (by (with_reducible repeat (first | apply Kd.R_alloc | apply Kd.R_drewN | apply Kd.R_drew)); exact HO124.out))) (Kd.R_lt (by (with_reducible repeat (first | apply Kd.R_alloc | apply Kd.R_drewN | apply Kd.R_drew)); exact HO128.out))) (below_size (by repeat (first | (with_reducible first | exact HB.out | apply below_alloc | apply pw_below_drewN | apply below_drew1) | exact HB.out)))); have n9_ := Aside0.mk (below_step (by repeat (first | (with_reducible first | exact HB.out | apply below_alloc | apply pw_below_drewN | apply below_drew1) | exact HB.out)) hb); clear HO105; clear HO108; clear HO111; clear HO114; clear HO117; clear HO121; clear HO124; clear HO128; clear HB; have HO105 := n0_; have HO108 := n1_; have HO111 := n2_; have HO114 := n3_; have HO117 := n4_; have HO121 := n5_; have HO124 := n6_; have HO128 := n7_; have HO131 := n8_; have HB := n9_; clear n0_ n1_ n2_ n3_ n4_ n5_ n6_ n7_ n8_ n9_; clear hb ho45; obtain ⟨Ao46, co46, eo46⟩ := Kd.R_slice HO131.out; subst eo46) | ((with_reducible refine gate_callee (f := 13) rfl ?_); refine goesL_ (some 27) rfl rfl Try.func13 (by kernel_rfl) rfl #[.slice Ao46 y129.length co46] rfl (by (try simp only [List.map_toArray, List.map_cons, List.map_nil]); first | done | rfl | (simp only [List.length_drop, List.length_take]; rfl)) ?_; (with_reducible refine (stuff_Strip.calls _ _ y129 t132 t133 _ ?side1 ?side2 A5.out).mono ?_); (case side1 => repeat (first | exact (Kd.R_reads' HO131.out).2.2 | (with_reducible refine Kd.C_alloc ?_ _) | (with_reducible refine Kd.C_drewN ?_ _) | (with_reducible refine Kd.C_drew ?_))); (case side2 => exact (Kd.R_reads' HO131.out).2.1); rintro e w47 ⟨v134, rfl, ho0, hb⟩; refine ⟨_, rfl, ?_⟩; have n0_ := Aside0.mk (Kd.R_elder' (by (with_reducible repeat (first | apply Kd.R_alloc | apply Kd.R_drewN | apply Kd.R_drew)); exact HO105.out) (Kd.R_base ho0) hb); have n1_ := Aside0.mk (Kd.R_elder' (by (with_reducible repeat (first | apply Kd.R_alloc | apply Kd.R_drewN | apply Kd.R_drew)); exact HO108.out) (Kd.R_base ho0) hb); have n2_ := Aside0.mk (Kd.R_elder' (by (with_reducible repeat (first | apply Kd.R_alloc | apply Kd.R_drewN | apply Kd.R_drew)); exact HO111.out) (Kd.R_base ho0) hb); have n3_ := Aside0.mk (Kd.R_elder' (by (with_reducible repeat (first | apply Kd.R_alloc | apply Kd.R_drewN | apply Kd.R_drew)); exact HO114.out) (Kd.R_base ho0) hb); have n4_ := Aside0.mk (Kd.R_elder' (by (with_reducible repeat (first | apply Kd.R_alloc | apply Kd.R_drewN | apply Kd.R_drew)); exact HO117.out) (Kd.R_base ho0) hb); have n5_ := Aside0.mk (Kd.R_elder' (by (with_reducible repeat (first | apply Kd.R_alloc | apply Kd.R_drewN | apply Kd.R_drew)); exact HO121.out) (Kd.R_base ho0) hb); have n6_ := Aside0.mk (Kd.R_elder' (by (with_reducible repeat (first | apply Kd.R_alloc | apply Kd.R_drewN | apply Kd.R_drew)); exact HO124.out) (Kd.R_base ho0) hb); have n7_ := Aside0.mk (Kd.R_elder' (by (with_reducible repeat (first | apply Kd.R_alloc | apply Kd.R_drewN | apply Kd.R_drew)); exact HO128.out) (Kd.R_base ho0) hb); have n8_ := Aside0.mk (Kd.R_elder' (by (with_reducible repeat (first | apply Kd.R_alloc | apply Kd.R_drewN | apply Kd.R_drew)); exact HO131.out) (Kd.R_base ho0) hb); have n9_ := Aside0.mk (Kd.R_lower (Kd.R_new' (Kd.R_new' (Kd.R_new' (Kd.R_new' (Kd.R_new' (Kd.R_new' (Kd.R_new' (Kd.R_new' (Kd.R_new' ho0 (Kd.R_lt (by (with_reducible repeat (first | apply Kd.R_alloc | apply Kd.R_drewN | apply Kd.R_drew)); exact HO105.out))) (Kd.R_lt (by (with_reducible repeat (first | apply Kd.R_alloc | apply Kd.R_drewN | apply Kd.R_drew)); exact HO108.out))) (Kd.R_lt (by (with_reducible repeat (first | apply Kd.R_alloc | apply Kd.R_drewN | apply Kd.R_drew)); exact HO111.out))) (Kd.R_lt (by (with_reducible repeat (first | apply Kd.R_alloc | apply Kd.R_drewN | apply Kd.R_drew)); exact HO114.out))) (Kd.R_lt (by (with_reducible repeat (first | apply Kd.R_alloc | apply Kd.R_drewN | apply Kd.R_drew)); exact HO117.out))) (Kd.R_lt (by (with_reducible repeat (first | apply Kd.R_alloc | apply Kd.R_drewN | apply Kd.R_drew)); exact HO121.out))) (Kd.R_lt (by (with_reducible repeat (first | apply Kd.R_alloc | apply Kd.R_drewN | apply Kd.R_drew)); exact HO124.out))) (Kd.R_lt (by (with_reducible repeat (first | apply Kd.R_alloc | apply Kd.R_drewN | apply Kd.R_drew)); exact HO128.out))) (Kd.R_lt (by (with_reducible repeat (first | apply Kd.R_alloc | apply Kd.R_drewN | apply Kd.R_drew)); exact HO131.out))) (below_size (by repeat (first | (with_reducible first | exact HB.out | apply below_alloc | apply pw_below_drewN | apply below_drew1) | exact HB.out)))); have n10_ := Aside0.mk (below_step (by repeat (first | (with_reducible first | exact HB.out | apply below_alloc | apply pw_below_drewN | apply below_drew1) | exact HB.out)) hb); clear HO105; clear HO108; clear HO111; clear HO114; clear HO117; clear HO121; clear HO124; clear HO128; clear HO131; clear HB; have HO105 := n0_; have HO108 := n1_; have HO111 := n2_; have HO114 := n3_; have HO117 := n4_; have HO121 := n5_; have HO124 := n6_; have HO128 := n7_; have HO131 := n8_; have HO135 := n9_; have HB := n10_; clear n0_ n1_ n2_ n3_ n4_ n5_ n6_ n7_ n8_ n9_ n10_; (try clear hb); (try clear hb2); (try clear hk); (try clear hi); (try clear ho0)) | ((with_reducible refine gate_callee (f := 13) rfl ?_); refine goesL_ (some 31) rfl rfl Try.func13 (by kernel_rfl) rfl #[.slice none 0 0] rfl (by (try simp only [List.map_toArray, List.map_cons, List.map_nil]); first | done | rfl | (simp only [List.length_drop, List.length_take]; rfl)) ?_; (refine (stuff_Strip.calls _ _ ([] : List Int) t136 t137 _ ?side1 ?side2 A6.out).mono ?_); (case side1 => exact Kd.C_nil _ _); (case side2 => exact Nat.le_refl _); rintro e w48 ⟨v138, rfl, ho0, hb⟩; refine ⟨_, rfl, ?_⟩; have n0_ := Aside0.mk (Kd.R_elder' (by (with_reducible repeat (first | apply Kd.R_alloc | apply Kd.R_drewN | apply Kd.R_drew)); exact HO105.out) (Kd.R_base ho0) hb); have n1_ := Aside0.mk (Kd.R_elder' (by (with_reducible repeat (first | apply Kd.R_alloc | apply Kd.R_drewN | apply Kd.R_drew)); exact HO108.out) (Kd.R_base ho0) hb); have n2_ := Aside0.mk (Kd.R_elder' (by (with_reducible repeat (first | apply Kd.R_alloc | apply Kd.R_drewN | apply Kd.R_drew)); exact HO111.out) (Kd.R_base ho0) hb); have n3_ := Aside0.mk (Kd.R_elder' (by (with_reducible repeat (first | apply Kd.R_alloc | apply Kd.R_drewN | apply Kd.R_drew)); exact HO114.out) (Kd.R_base ho0) hb); have n4_ := Aside0.mk (Kd.R_elder' (by (with_reducible repeat (first | apply Kd.R_alloc | apply Kd.R_drewN | apply Kd.R_drew)); exact HO117.out) (Kd.R_base ho0) hb); have n5_ := Aside0.mk (Kd.R_elder' (by (with_reducible repeat (first | apply Kd.R_alloc | apply Kd.R_drewN | apply Kd.R_drew)); exact HO121.out) (Kd.R_base ho0) hb); have n6_ := Aside0.mk (Kd.R_elder' (by (with_reducible repeat (first | apply Kd.R_alloc | apply Kd.R_drewN | apply Kd.R_drew)); exact HO124.out) (Kd.R_base ho0) hb); have n7_ := Aside0.mk (Kd.R_elder' (by (with_reducible repeat (first | apply Kd.R_alloc | apply Kd.R_drewN | apply Kd.R_drew)); exact HO128.out) (Kd.R_base ho0) hb); have n8_ := Aside0.mk (Kd.R_elder' (by (with_reducible repeat (first | apply Kd.R_alloc | apply Kd.R_drewN | apply Kd.R_drew)); exact HO131.out) (Kd.R_base ho0) hb); have n9_ := Aside0.mk (Kd.R_elder' (by (with_reducible repeat (first | apply Kd.R_alloc | apply Kd.R_drewN | apply Kd.R_drew)); exact HO135.out) (Kd.R_base ho0) hb); have n10_ := Aside0.mk (Kd.R_lower (Kd.R_new' (Kd.R_new' (Kd.R_new' (Kd.R_new' (Kd.R_new' (Kd.R_new' (Kd.R_new' (Kd.R_new' (Kd.R_new' (Kd.R_new' ho0 (Kd.R_lt (by (with_reducible repeat (first | apply Kd.R_alloc | apply Kd.R_drewN | apply Kd.R_drew)); exact HO105.out))) (Kd.R_lt (by (with_reducible repeat (first | apply Kd.R_alloc | apply Kd.R_drewN | apply Kd.R_drew)); exact HO108.out))) (Kd.R_lt (by (with_reducible repeat (first | apply Kd.R_alloc | apply Kd.R_drewN | apply Kd.R_drew)); exact HO111.out))) (Kd.R_lt (by (with_reducible repeat (first | apply Kd.R_alloc | apply Kd.R_drewN | apply Kd.R_drew)); exact HO114.out))) (Kd.R_lt (by (with_reducible repeat (first | apply Kd.R_alloc | apply Kd.R_drewN | apply Kd.R_drew)); exact HO117.out))) (Kd.R_lt (by (with_reducible repeat (first | apply Kd.R_alloc | apply Kd.R_drewN | apply Kd.R_drew)); exact HO121.out))) (Kd.R_lt (by (with_reducible repeat (first | apply Kd.R_alloc | apply Kd.R_drewN | apply Kd.R_drew)); exact HO124.out))) (Kd.R_lt (by (with_reducible repeat (first | apply Kd.R_alloc | apply Kd.R_drewN | apply Kd.R_drew)); exact HO128.out))) (Kd.R_lt (by (with_reducible repeat (first | apply Kd.R_alloc | apply Kd.R_drewN | apply Kd.R_drew)); exact HO131.out))) (Kd.R_lt (by (with_reducible repeat (first | apply Kd.R_alloc | apply Kd.R_drewN | apply Kd.R_drew)); exact HO135.out))) (below_size (by repeat (first | (with_reducible first | exact HB.out | apply below_alloc | apply pw_below_drewN | apply below_drew1) | exact HB.out)))); have n11_ := Aside0.mk (below_step (by repeat (first | (with_reducible first | exact HB.out | apply below_alloc | apply pw_below_drewN | apply below_drew1) | exact HB.out)) hb); clear HO105; clear HO108; clear HO111; clear HO114; clear HO117; clear HO121; clear HO124; clear HO128; clear HO131; clear HO135; clear HB; have HO105 := n0_; have HO108 := n1_; have HO111 := n2_; have HO114 := n3_; have HO117 := n4_; have HO121 := n5_; have HO124 := n6_; have HO128 := n7_; have HO131 := n8_; have HO135 := n9_; have HO139 := n10_; have HB := n11_; clear n0_ n1_ n2_ n3_ n4_ n5_ n6_ n7_ n8_ n9_ n10_ n11_; (try clear hb); (try clear hb2); (try clear hk); (try clear hi); (try clear ho0)) | ((with_reducible refine gate_dst (N := 35) rfl ?_); (try (refine gate_guard (by rfl) ?_; dsimp only)); refine Kd.R_lit (Kd.int .i64) _ 3 ?hg (N := 35) ?hd (xs := ([0, 0, 0, 0, 0, 1] : List Int)) (inner := [.int .i64 0, .int .i64 0, .int .i64 0, .int .i64 0, .int .i64 0, .int .i64 1]) (ok := fun _ => True) (okp := fun _ => True) ?hr ?hp (fun _ hk => hk) trivial (Below.refl _ _) (Nat.le_refl _) (by simp) ?_; (case hd => rfl); (case hg => rfl); (case hr => first | (go_simp; done) | (go_simp; rfl)); (case hp => exact (Reps.one (show Kd.M (Kd.int .i64) _ _ _ 0 [.int .i64 0] from rfl) (Reps.one (show Kd.M (Kd.int .i64) _ _ _ 0 [.int .i64 0] from rfl) (Reps.one (show Kd.M (Kd.int .i64) _ _ _ 0 [.int .i64 0] from rfl) (Reps.one (show Kd.M (Kd.int .i64) _ _ _ 0 [.int .i64 0] from rfl) (Reps.one (show Kd.M (Kd.int .i64) _ _ _ 0 [.int .i64 0] from rfl) (Reps.one (show Kd.M (Kd.int .i64) _ _ _ 1 [.int .i64 1] from rfl) (Reps.none _ _)))))))); intro v141 w49 ho50 hb hg_ hnew_; clear hg_ hnew_; (first | rw [← Ny140.out] at ho50 | (simp only [Int.reduceToNat] at ho50; rw [← Ny140.out] at ho50)); have n0_ := Aside0.mk (Kd.R_elder' (by (with_reducible repeat (first | apply Kd.R_alloc | apply Kd.R_drewN | apply Kd.R_drew)); exact HO105.out) (Kd.R_base ho50) hb); have n1_ := Aside0.mk (Kd.R_elder' (by (with_reducible repeat (first | apply Kd.R_alloc | apply Kd.R_drewN | apply Kd.R_drew)); exact HO108.out) (Kd.R_base ho50) hb); have n2_ := Aside0.mk (Kd.R_elder' (by (with_reducible repeat (first | apply Kd.R_alloc | apply Kd.R_drewN | apply Kd.R_drew)); exact HO111.out) (Kd.R_base ho50) hb); have n3_ := Aside0.mk (Kd.R_elder' (by (with_reducible repeat (first | apply Kd.R_alloc | apply Kd.R_drewN | apply Kd.R_drew)); exact HO114.out) (Kd.R_base ho50) hb); have n4_ := Aside0.mk (Kd.R_elder' (by (with_reducible repeat (first | apply Kd.R_alloc | apply Kd.R_drewN | apply Kd.R_drew)); exact HO117.out) (Kd.R_base ho50) hb); have n5_ := Aside0.mk (Kd.R_elder' (by (with_reducible repeat (first | apply Kd.R_alloc | apply Kd.R_drewN | apply Kd.R_drew)); exact HO121.out) (Kd.R_base ho50) hb); have n6_ := Aside0.mk (Kd.R_elder' (by (with_reducible repeat (first | apply Kd.R_alloc | apply Kd.R_drewN | apply Kd.R_drew)); exact HO124.out) (Kd.R_base ho50) hb); have n7_ := Aside0.mk (Kd.R_elder' (by (with_reducible repeat (first | apply Kd.R_alloc | apply Kd.R_drewN | apply Kd.R_drew)); exact HO128.out) (Kd.R_base ho50) hb); have n8_ := Aside0.mk (Kd.R_elder' (by (with_reducible repeat (first | apply Kd.R_alloc | apply Kd.R_drewN | apply Kd.R_drew)); exact HO131.out) (Kd.R_base ho50) hb); have n9_ := Aside0.mk (Kd.R_elder' (by (with_reducible repeat (first | apply Kd.R_alloc | apply Kd.R_drewN | apply Kd.R_drew)); exact HO135.out) (Kd.R_base ho50) hb); have n10_ := Aside0.mk (Kd.R_elder' (by (with_reducible repeat (first | apply Kd.R_alloc | apply Kd.R_drewN | apply Kd.R_drew)); exact HO139.out) (Kd.R_base ho50) hb); have n11_ := Aside0.mk (Kd.R_lower (Kd.R_new' (Kd.R_new' (Kd.R_new' (Kd.R_new' (Kd.R_new' (Kd.R_new' (Kd.R_new' (Kd.R_new' (Kd.R_new' (Kd.R_new' (Kd.R_new' ho50 (Kd.R_lt (by (with_reducible repeat (first | apply Kd.R_alloc | apply Kd.R_drewN | apply Kd.R_drew)); exact HO105.out))) (Kd.R_lt (by (with_reducible repeat (first | apply Kd.R_alloc | apply Kd.R_drewN | apply Kd.R_drew)); exact HO108.out))) (Kd.R_lt (by (with_reducible repeat (first | apply Kd.R_alloc | apply Kd.R_drewN | apply Kd.R_drew)); exact HO111.out))) (Kd.R_lt (by (with_reducible repeat (first | apply Kd.R_alloc | apply Kd.R_drewN | apply Kd.R_drew)); exact HO114.out))) (Kd.R_lt (by (with_reducible repeat (first | apply Kd.R_alloc | apply Kd.R_drewN | apply Kd.R_drew)); exact HO117.out))) (Kd.R_lt (by (with_reducible repeat (first | apply Kd.R_alloc | apply Kd.R_drewN | apply Kd.R_drew)); exact HO121.out))) (Kd.R_lt (by (with_reducible repeat (first | apply Kd.R_alloc | apply Kd.R_drewN | apply Kd.R_drew)); exact HO124.out))) (Kd.R_lt (by (with_reducible repeat (first | apply Kd.R_alloc | apply Kd.R_drewN | apply Kd.R_drew)); exact HO128.out))) (Kd.R_lt (by (with_reducible repeat (first | apply Kd.R_alloc | apply Kd.R_drewN | apply Kd.R_drew)); exact HO131.out))) (Kd.R_lt (by (with_reducible repeat (first | apply Kd.R_alloc | apply Kd.R_drewN | apply Kd.R_drew)); exact HO135.out))) (Kd.R_lt (by (with_reducible repeat (first | apply Kd.R_alloc | apply Kd.R_drewN | apply Kd.R_drew)); exact HO139.out))) (below_size (by repeat (first | (with_reducible first | exact HB.out | apply below_alloc | apply pw_below_drewN | apply below_drew1) | exact HB.out)))); have n12_ := Aside0.mk (below_step (by repeat (first | (with_reducible first | exact HB.out | apply below_alloc | apply pw_below_drewN | apply below_drew1) | exact HB.out)) hb); clear HO105; clear HO108; clear HO111; clear HO114; clear HO117; clear HO121; clear HO124; clear HO128; clear HO131; clear HO135; clear HO139; clear HB; have HO105 := n0_; have HO108 := n1_; have HO111 := n2_; have HO114 := n3_; have HO117 := n4_; have HO121 := n5_; have HO124 := n6_; have HO128 := n7_; have HO131 := n8_; have HO135 := n9_; have HO139 := n10_; have HO142 := n11_; have HB := n12_; clear n0_ n1_ n2_ n3_ n4_ n5_ n6_ n7_ n8_ n9_ n10_ n11_ n12_; clear hb ho50; obtain ⟨Ao51, co51, eo51⟩ := Kd.R_slice HO108.out; subst eo51; obtain ⟨Ao52, co52, eo52⟩ := Kd.R_slice HO142.out; subst eo52) | ((with_reducible refine gate_callee (f := 15) rfl ?_); refine goesL_ (some 36) rfl rfl Try.func15 (by kernel_rfl) rfl #[.slice Ao51 t106.length co51, .slice Ao52 y140.length co52] rfl (by (try simp only [List.map_toArray, List.map_cons, List.map_nil]); first | done | rfl | (simp only [List.length_drop, List.length_take]; rfl)) ?_; (with_reducible refine (phaetonref03_Ints.calls k _ _ t106 _ _ y140 true _ ?side1 ?side2 ?side3 ?side4 A7.out).mono ?_); (case side1 => repeat (first | exact (Kd.R_reads' HO108.out).2.2 | (with_reducible refine Kd.C_alloc ?_ _) | (with_reducible refine Kd.C_drewN ?_ _) | (with_reducible refine Kd.C_drew ?_))); (case side2 => exact (Kd.R_reads' HO108.out).2.1); (case side3 => repeat (first | exact (Kd.R_reads' HO142.out).2.2 | (with_reducible refine Kd.C_alloc ?_ _) | (with_reducible refine Kd.C_drewN ?_ _) | (with_reducible refine Kd.C_drew ?_))); (case side4 => exact (Kd.R_reads' HO142.out).2.1); rintro e w' ⟨rfl, ⟨nd, rfl⟩⟩; refine ⟨_, rfl, ?_⟩) | ((with_reducible refine gate_dst (N := 39) rfl ?_); (try (refine gate_guard (by rfl) ?_; dsimp only)); refine Kd.R_lit (Kd.int .i64) _ 3 ?hg (N := 39) ?hd (xs := ([1, 1, 1, 1, 1, 0, 0, 0, 0, 0, 1, 1] : List Int)) (inner := [.int .i64 1, .int .i64 1, .int .i64 1, .int .i64 1, .int .i64 1, .int .i64 0, .int .i64 0, .int .i64 0, .int .i64 0, .int .i64 0, .int .i64 1, .int .i64 1]) (ok := fun _ => True) (okp := fun _ => True) ?hr ?hp (fun _ hk => hk) trivial (Below.refl _ _) (Nat.le_refl _) (by simp) ?_; (case hd => rfl); (case hg => rfl); (case hr => first | (go_simp; done) | (go_simp; rfl)); (case hp => exact (Reps.one (show Kd.M (Kd.int .i64) _ _ _ 1 [.int .i64 1] from rfl) (Reps.one (show Kd.M (Kd.int .i64) _ _ _ 1 [.int .i64 1] from rfl) (Reps.one (show Kd.M (Kd.int .i64) _ _ _ 1 [.int .i64 1] from rfl) (Reps.one (show Kd.M (Kd.int .i64) _ _ _ 1 [.int .i64 1] from rfl) (Reps.one (show Kd.M (Kd.int .i64) _ _ _ 1 [.int .i64 1] from rfl) (Reps.one (show Kd.M (Kd.int .i64) _ _ _ 0 [.int .i64 0] from rfl) (Reps.one (show Kd.M (Kd.int .i64) _ _ _ 0 [.int .i64 0] from rfl) (Reps.one (show Kd.M (Kd.int .i64) _ _ _ 0 [.int .i64 0] from rfl) (Reps.one (show Kd.M (Kd.int .i64) _ _ _ 0 [.int .i64 0] from rfl) (Reps.one (show Kd.M (Kd.int .i64) _ _ _ 0 [.int .i64 0] from rfl) (Reps.one (show Kd.M (Kd.int .i64) _ _ _ 1 [.int .i64 1] from rfl) (Reps.one (show Kd.M (Kd.int .i64) _ _ _ 1 [.int .i64 1] from rfl) (Reps.none _ _)))))))))))))); intro v145 w53 ho54 hb hg_ hnew_; clear hg_ hnew_; (first | rw [← Ny144.out] at ho54 | (simp only [Int.reduceToNat] at ho54; rw [← Ny144.out] at ho54)); have n0_ := Aside0.mk (Kd.R_elder' (by (with_reducible repeat (first | apply Kd.R_alloc | apply Kd.R_drewN | apply Kd.R_drew)); exact HO105.out) (Kd.R_base ho54) hb); have n1_ := Aside0.mk (Kd.R_elder' (by (with_reducible repeat (first | apply Kd.R_alloc | apply Kd.R_drewN | apply Kd.R_drew)); exact HO108.out) (Kd.R_base ho54) hb); have n2_ := Aside0.mk (Kd.R_elder' (by (with_reducible repeat (first | apply Kd.R_alloc | apply Kd.R_drewN | apply Kd.R_drew)); exact HO111.out) (Kd.R_base ho54) hb); have n3_ := Aside0.mk (Kd.R_elder' (by (with_reducible repeat (first | apply Kd.R_alloc | apply Kd.R_drewN | apply Kd.R_drew)); exact HO114.out) (Kd.R_base ho54) hb); have n4_ := Aside0.mk (Kd.R_elder' (by (with_reducible repeat (first | apply Kd.R_alloc | apply Kd.R_drewN | apply Kd.R_drew)); exact HO117.out) (Kd.R_base ho54) hb); have n5_ := Aside0.mk (Kd.R_elder' (by (with_reducible repeat (first | apply Kd.R_alloc | apply Kd.R_drewN | apply Kd.R_drew)); exact HO121.out) (Kd.R_base ho54) hb); have n6_ := Aside0.mk (Kd.R_elder' (by (with_reducible repeat (first | apply Kd.R_alloc | apply Kd.R_drewN | apply Kd.R_drew)); exact HO124.out) (Kd.R_base ho54) hb); have n7_ := Aside0.mk (Kd.R_elder' (by (with_reducible repeat (first | apply Kd.R_alloc | apply Kd.R_drewN | apply Kd.R_drew)); exact HO128.out) (Kd.R_base ho54) hb); have n8_ := Aside0.mk (Kd.R_elder' (by (with_reducible repeat (first | apply Kd.R_alloc | apply Kd.R_drewN | apply Kd.R_drew)); exact HO131.out) (Kd.R_base ho54) hb); have n9_ := Aside0.mk (Kd.R_elder' (by (with_reducible repeat (first | apply Kd.R_alloc | apply Kd.R_drewN | apply Kd.R_drew)); exact HO135.out) (Kd.R_base ho54) hb); have n10_ := Aside0.mk (Kd.R_elder' (by (with_reducible repeat (first | apply Kd.R_alloc | apply Kd.R_drewN | apply Kd.R_drew)); exact HO139.out) (Kd.R_base ho54) hb); have n11_ := Aside0.mk (Kd.R_elder' (by (with_reducible repeat (first | apply Kd.R_alloc | apply Kd.R_drewN | apply Kd.R_drew)); exact HO142.out) (Kd.R_base ho54) hb); have n12_ := Aside0.mk (Kd.R_lower (Kd.R_new' (Kd.R_new' (Kd.R_new' (Kd.R_new' (Kd.R_new' (Kd.R_new' (Kd.R_new' (Kd.R_new' (Kd.R_new' (Kd.R_new' (Kd.R_new' (Kd.R_new' ho54 (Kd.R_lt (by (with_reducible repeat (first | apply Kd.R_alloc | apply Kd.R_drewN | apply Kd.R_drew)); exact HO105.out))) (Kd.R_lt (by (with_reducible repeat (first | apply Kd.R_alloc | apply Kd.R_drewN | apply Kd.R_drew)); exact HO108.out))) (Kd.R_lt (by (with_reducible repeat (first | apply Kd.R_alloc | apply Kd.R_drewN | apply Kd.R_drew)); exact HO111.out))) (Kd.R_lt (by (with_reducible repeat (first | apply Kd.R_alloc | apply Kd.R_drewN | apply Kd.R_drew)); exact HO114.out))) (Kd.R_lt (by (with_reducible repeat (first | apply Kd.R_alloc | apply Kd.R_drewN | apply Kd.R_drew)); exact HO117.out))) (Kd.R_lt (by (with_reducible repeat (first | apply Kd.R_alloc | apply Kd.R_drewN | apply Kd.R_drew)); exact HO121.out))) (Kd.R_lt (by (with_reducible repeat (first | apply Kd.R_alloc | apply Kd.R_drewN | apply Kd.R_drew)); exact HO124.out))) (Kd.R_lt (by (with_reducible repeat (first | apply Kd.R_alloc | apply Kd.R_drewN | apply Kd.R_drew)); exact HO128.out))) (Kd.R_lt (by (with_reducible repeat (first | apply Kd.R_alloc | apply Kd.R_drewN | apply Kd.R_drew)); exact HO131.out))) (Kd.R_lt (by (with_reducible repeat (first | apply Kd.R_alloc | apply Kd.R_drewN | apply Kd.R_drew)); exact HO135.out))) (Kd.R_lt (by (with_reducible repeat (first | apply Kd.R_alloc | apply Kd.R_drewN | apply Kd.R_drew)); exact HO139.out))) (Kd.R_lt (by (with_reducible repeat (first | apply Kd.R_alloc | apply Kd.R_drewN | apply Kd.R_drew)); exact HO142.out))) (below_size (by repeat (first | (with_reducible first | exact HB.out | apply below_alloc | apply pw_below_drewN | apply below_drew1) | exact HB.out)))); have n13_ := Aside0.mk (below_step (by repeat (first | (with_reducible first | exact HB.out | apply below_alloc | apply pw_below_drewN | apply below_drew1) | exact HB.out)) hb); clear HO105; clear HO108; clear HO111; clear HO114; clear HO117; clear HO121; clear HO124; clear HO128; clear HO131; clear HO135; clear HO139; clear HO142; clear HB; have HO105 := n0_; have HO108 := n1_; have HO111 := n2_; have HO114 := n3_; have HO117 := n4_; have HO121 := n5_; have HO124 := n6_; have HO128 := n7_; have HO131 := n8_; have HO135 := n9_; have HO139 := n10_; have HO142 := n11_; have HO146 := n12_; have HB := n13_; clear n0_ n1_ n2_ n3_ n4_ n5_ n6_ n7_ n8_ n9_ n10_ n11_ n12_ n13_; clear hb ho54; obtain ⟨Ao55, co55, eo55⟩ := Kd.R_slice HO114.out; subst eo55; obtain ⟨Ao56, co56, eo56⟩ := Kd.R_slice HO146.out; subst eo56) | (go_at_call 15; (with_reducible refine (phaetonref03_Ints.calls k _ _ t112 _ _ y144 true _ ?side1 ?side2 ?side3 ?side4 A9.out).mono ?_); (case side1 => repeat (first | exact (Kd.R_reads' HO114.out).2.2 | (with_reducible refine Kd.C_alloc ?_ _) | (with_reducible refine Kd.C_drewN ?_ _) | (with_reducible refine Kd.C_drew ?_))); (case side2 => exact (Kd.R_reads' HO114.out).2.1); (case side3 => repeat (first | exact (Kd.R_reads' HO146.out).2.2 | (with_reducible refine Kd.C_alloc ?_ _) | (with_reducible refine Kd.C_drewN ?_ _) | (with_reducible refine Kd.C_drew ?_))); (case side4 => exact (Kd.R_reads' HO146.out).2.1); rintro e w' ⟨rfl, ⟨nd, rfl⟩⟩) | ((with_reducible refine gate_dst (N := 44) rfl ?_); (try (refine gate_guard (by rfl) ?_; dsimp only)); refine Kd.R_lit (Kd.int .i64) _ 3 ?hg (N := 44) ?hd (xs := ([0, 0, 0, 0, 0, 1] : List Int)) (inner := [.int .i64 0, .int .i64 0, .int .i64 0, .int .i64 0, .int .i64 0, .int .i64 1]) (ok := fun _ => True) (okp := fun _ => True) ?hr ?hp (fun _ hk => hk) trivial (Below.refl _ _) (Nat.le_refl _) (by simp) ?_; (case hd => rfl); (case hg => rfl); (case hr => first | (go_simp; done) | (go_simp; rfl)); (case hp => exact (Reps.one (show Kd.M (Kd.int .i64) _ _ _ 0 [.int .i64 0] from rfl) (Reps.one (show Kd.M (Kd.int .i64) _ _ _ 0 [.int .i64 0] from rfl) (Reps.one (show Kd.M (Kd.int .i64) _ _ _ 0 [.int .i64 0] from rfl) (Reps.one (show Kd.M (Kd.int .i64) _ _ _ 0 [.int .i64 0] from rfl) (Reps.one (show Kd.M (Kd.int .i64) _ _ _ 0 [.int .i64 0] from rfl) (Reps.one (show Kd.M (Kd.int .i64) _ _ _ 1 [.int .i64 1] from rfl) (Reps.none _ _)))))))); intro v149 w57 ho58 hb hg_ hnew_; clear hg_ hnew_; (first | rw [← Ny148.out] at ho58 | (simp only [Int.reduceToNat] at ho58; rw [← Ny148.out] at ho58)); have n0_ := Aside0.mk (Kd.R_elder' (by (with_reducible repeat (first | apply Kd.R_alloc | apply Kd.R_drewN | apply Kd.R_drew)); exact HO105.out) (Kd.R_base ho58) hb); have n1_ := Aside0.mk (Kd.R_elder' (by (with_reducible repeat (first | apply Kd.R_alloc | apply Kd.R_drewN | apply Kd.R_drew)); exact HO108.out) (Kd.R_base ho58) hb); have n2_ := Aside0.mk (Kd.R_elder' (by (with_reducible repeat (first | apply Kd.R_alloc | apply Kd.R_drewN | apply Kd.R_drew)); exact HO111.out) (Kd.R_base ho58) hb); have n3_ := Aside0.mk (Kd.R_elder' (by (with_reducible repeat (first | apply Kd.R_alloc | apply Kd.R_drewN | apply Kd.R_drew)); exact HO114.out) (Kd.R_base ho58) hb); have n4_ := Aside0.mk (Kd.R_elder' (by (with_reducible repeat (first | apply Kd.R_alloc | apply Kd.R_drewN | apply Kd.R_drew)); exact HO117.out) (Kd.R_base ho58) hb); have n5_ := Aside0.mk (Kd.R_elder' (by (with_reducible repeat (first | apply Kd.R_alloc | apply Kd.R_drewN | apply Kd.R_drew)); exact HO121.out) (Kd.R_base ho58) hb); have n6_ := Aside0.mk (Kd.R_elder' (by (with_reducible repeat (first | apply Kd.R_alloc | apply Kd.R_drewN | apply Kd.R_drew)); exact HO124.out) (Kd.R_base ho58) hb); have n7_ := Aside0.mk (Kd.R_elder' (by (with_reducible repeat (first | apply Kd.R_alloc | apply Kd.R_drewN | apply Kd.R_drew)); exact HO128.out) (Kd.R_base ho58) hb); have n8_ := Aside0.mk (Kd.R_elder' (by (with_reducible repeat (first | apply Kd.R_alloc | apply Kd.R_drewN | apply Kd.R_drew)); exact HO131.out) (Kd.R_base ho58) hb); have n9_ := Aside0.mk (Kd.R_elder' (by (with_reducible repeat (first | apply Kd.R_alloc | apply Kd.R_drewN | apply Kd.R_drew)); exact HO135.out) (Kd.R_base ho58) hb); have n10_ := Aside0.mk (Kd.R_elder' (by (with_reducible repeat (first | apply Kd.R_alloc | apply Kd.R_drewN | apply Kd.R_drew)); exact HO139.out) (Kd.R_base ho58) hb); have n11_ := Aside0.mk (Kd.R_elder' (by (with_reducible repeat (first | apply Kd.R_alloc | apply Kd.R_drewN | apply Kd.R_drew)); exact HO142.out) (Kd.R_base ho58) hb); have n12_ := Aside0.mk (Kd.R_elder' (by (with_reducible repeat (first | apply Kd.R_alloc | apply Kd.R_drewN | apply Kd.R_drew)); exact HO146.out) (Kd.R_base ho58) hb); have n13_ := Aside0.mk (Kd.R_lower (Kd.R_new' (Kd.R_new' (Kd.R_new' (Kd.R_new' (Kd.R_new' (Kd.R_new' (Kd.R_new' (Kd.R_new' (Kd.R_new' (Kd.R_new' (Kd.R_new' (Kd.R_new' (Kd.R_new' ho58 (Kd.R_lt (by (with_reducible repeat (first | apply Kd.R_alloc | apply Kd.R_drewN | apply Kd.R_drew)); exact HO105.out))) (Kd.R_lt (by (with_reducible repeat (first | apply Kd.R_alloc | apply Kd.R_drewN | apply Kd.R_drew)); exact HO108.out))) (Kd.R_lt (by (with_reducible repeat (first | apply Kd.R_alloc | apply Kd.R_drewN | apply Kd.R_drew)); exact HO111.out))) (Kd.R_lt (by (with_reducible repeat (first | apply Kd.R_alloc | apply Kd.R_drewN | apply Kd.R_drew)); exact HO114.out))) (Kd.R_lt (by (with_reducible repeat (first | apply Kd.R_alloc | apply Kd.R_drewN | apply Kd.R_drew)); exact HO117.out))) (Kd.R_lt (by (with_reducible repeat (first | apply Kd.R_alloc | apply Kd.R_drewN | apply Kd.R_drew)); exact HO121.out))) (Kd.R_lt (by (with_reducible repeat (first | apply Kd.R_alloc | apply Kd.R_drewN | apply Kd.R_drew)); exact HO124.out))) (Kd.R_lt (by (with_reducible repeat (first | apply Kd.R_alloc | apply Kd.R_drewN | apply Kd.R_drew)); exact HO128.out))) (Kd.R_lt (by (with_reducible repeat (first | apply Kd.R_alloc | apply Kd.R_drewN | apply Kd.R_drew)); exact HO131.out))) (Kd.R_lt (by (with_reducible repeat (first | apply Kd.R_alloc | apply Kd.R_drewN | apply Kd.R_drew)); exact HO135.out))) (Kd.R_lt (by (with_reducible repeat (first | apply Kd.R_alloc | apply Kd.R_drewN | apply Kd.R_drew)); exact HO139.out))) (Kd.R_lt (by (with_reducible repeat (first | apply Kd.R_alloc | apply Kd.R_drewN | apply Kd.R_drew)); exact HO142.out))) (Kd.R_lt (by (with_reducible repeat (first | apply Kd.R_alloc | apply Kd.R_drewN | apply Kd.R_drew)); exact HO146.out))) (below_size (by repeat (first | (with_reducible first | exact HB.out | apply below_alloc | apply pw_below_drewN | apply below_drew1) | exact HB.out)))); have n14_ := Aside0.mk (below_step (by repeat (first | (with_reducible first | exact HB.out | apply below_alloc | apply pw_below_drewN | apply below_drew1) | exact HB.out)) hb); clear HO105; clear HO108; clear HO111; clear HO114; clear HO117; clear HO121; clear HO124; clear HO128; clear HO131; clear HO135; clear HO139; clear HO142; clear HO146; clear HB; have HO105 := n0_; have HO108 := n1_; have HO111 := n2_; have HO114 := n3_; have HO117 := n4_; have HO121 := n5_; have HO124 := n6_; have HO128 := n7_; have HO131 := n8_; have HO135 := n9_; have HO139 := n10_; have HO142 := n11_; have HO146 := n12_; have HO150 := n13_; have HB := n14_; clear n0_ n1_ n2_ n3_ n4_ n5_ n6_ n7_ n8_ n9_ n10_ n11_ n12_ n13_ n14_; clear hb ho58; obtain ⟨Ao59, co59, eo59⟩ := Kd.R_slice HO121.out; subst eo59; obtain ⟨Ao60, co60, eo60⟩ := Kd.R_slice HO150.out; subst eo60) | (go_at_call 15; (with_reducible refine (phaetonref03_Ints.calls k _ _ t118 _ _ y148 true _ ?side1 ?side2 ?side3 ?side4 A11.out).mono ?_); (case side1 => repeat (first | exact (Kd.R_reads' HO121.out).2.2 | (with_reducible refine Kd.C_alloc ?_ _) | (with_reducible refine Kd.C_drewN ?_ _) | (with_reducible refine Kd.C_drew ?_))); (case side2 => exact (Kd.R_reads' HO121.out).2.1); (case side3 => repeat (first | exact (Kd.R_reads' HO150.out).2.2 | (with_reducible refine Kd.C_alloc ?_ _) | (with_reducible refine Kd.C_drewN ?_ _) | (with_reducible refine Kd.C_drew ?_))); (case side4 => exact (Kd.R_reads' HO150.out).2.1); rintro e w' ⟨rfl, ⟨nd, rfl⟩⟩) | ((with_reducible refine gate_dst (N := 53) rfl ?_); (try (refine gate_guard (by rfl) ?_; dsimp only)); refine Kd.R_lit (Kd.int .i64) _ 3 ?hg (N := 53) ?hd (xs := ([1, 0, 0, 0, 0, 0] : List Int)) (inner := [.int .i64 1, .int .i64 0, .int .i64 0, .int .i64 0, .int .i64 0, .int .i64 0]) (ok := fun _ => True) (okp := fun _ => True) ?hr ?hp (fun _ hk => hk) trivial (Below.refl _ _) (Nat.le_refl _) (by simp) ?_; (case hd => rfl); (case hg => rfl); (case hr => first | (go_simp; done) | (go_simp; rfl)); (case hp => exact (Reps.one (show Kd.M (Kd.int .i64) _ _ _ 1 [.int .i64 1] from rfl) (Reps.one (show Kd.M (Kd.int .i64) _ _ _ 0 [.int .i64 0] from rfl) (Reps.one (show Kd.M (Kd.int .i64) _ _ _ 0 [.int .i64 0] from rfl) (Reps.one (show Kd.M (Kd.int .i64) _ _ _ 0 [.int .i64 0] from rfl) (Reps.one (show Kd.M (Kd.int .i64) _ _ _ 0 [.int .i64 0] from rfl) (Reps.one (show Kd.M (Kd.int .i64) _ _ _ 0 [.int .i64 0] from rfl) (Reps.none _ _)))))))); intro v153 w61 ho62 hb hg_ hnew_; clear hg_ hnew_; (first | rw [← Ny152.out] at ho62 | (simp only [Int.reduceToNat] at ho62; rw [← Ny152.out] at ho62)); have n0_ := Aside0.mk (Kd.R_elder' (by (with_reducible repeat (first | apply Kd.R_alloc | apply Kd.R_drewN | apply Kd.R_drew)); exact HO105.out) (Kd.R_base ho62) hb); have n1_ := Aside0.mk (Kd.R_elder' (by (with_reducible repeat (first | apply Kd.R_alloc | apply Kd.R_drewN | apply Kd.R_drew)); exact HO108.out) (Kd.R_base ho62) hb); have n2_ := Aside0.mk (Kd.R_elder' (by (with_reducible repeat (first | apply Kd.R_alloc | apply Kd.R_drewN | apply Kd.R_drew)); exact HO111.out) (Kd.R_base ho62) hb); have n3_ := Aside0.mk (Kd.R_elder' (by (with_reducible repeat (first | apply Kd.R_alloc | apply Kd.R_drewN | apply Kd.R_drew)); exact HO114.out) (Kd.R_base ho62) hb); have n4_ := Aside0.mk (Kd.R_elder' (by (with_reducible repeat (first | apply Kd.R_alloc | apply Kd.R_drewN | apply Kd.R_drew)); exact HO117.out) (Kd.R_base ho62) hb); have n5_ := Aside0.mk (Kd.R_elder' (by (with_reducible repeat (first | apply Kd.R_alloc | apply Kd.R_drewN | apply Kd.R_drew)); exact HO121.out) (Kd.R_base ho62) hb); have n6_ := Aside0.mk (Kd.R_elder' (by (with_reducible repeat (first | apply Kd.R_alloc | apply Kd.R_drewN | apply Kd.R_drew)); exact HO124.out) (Kd.R_base ho62) hb); have n7_ := Aside0.mk (Kd.R_elder' (by (with_reducible repeat (first | apply Kd.R_alloc | apply Kd.R_drewN | apply Kd.R_drew)); exact HO128.out) (Kd.R_base ho62) hb); have n8_ := Aside0.mk (Kd.R_elder' (by (with_reducible repeat (first | apply Kd.R_alloc | apply Kd.R_drewN | apply Kd.R_drew)); exact HO131.out) (Kd.R_base ho62) hb); have n9_ := Aside0.mk (Kd.R_elder' (by (with_reducible repeat (first | apply Kd.R_alloc | apply Kd.R_drewN | apply Kd.R_drew)); exact HO135.out) (Kd.R_base ho62) hb); have n10_ := Aside0.mk (Kd.R_elder' (by (with_reducible repeat (first | apply Kd.R_alloc | apply Kd.R_drewN | apply Kd.R_drew)); exact HO139.out) (Kd.R_base ho62) hb); have n11_ := Aside0.mk (Kd.R_elder' (by (with_reducible repeat (first | apply Kd.R_alloc | apply Kd.R_drewN | apply Kd.R_drew)); exact HO142.out) (Kd.R_base ho62) hb); have n12_ := Aside0.mk (Kd.R_elder' (by (with_reducible repeat (first | apply Kd.R_alloc | apply Kd.R_drewN | apply Kd.R_drew)); exact HO146.out) (Kd.R_base ho62) hb); have n13_ := Aside0.mk (Kd.R_elder' (by (with_reducible repeat (first | apply Kd.R_alloc | apply Kd.R_drewN | apply Kd.R_drew)); exact HO150.out) (Kd.R_base ho62) hb); have n14_ := Aside0.mk (Kd.R_lower (Kd.R_new' (Kd.R_new' (Kd.R_new' (Kd.R_new' (Kd.R_new' (Kd.R_new' (Kd.R_new' (Kd.R_new' (Kd.R_new' (Kd.R_new' (Kd.R_new' (Kd.R_new' (Kd.R_new' (Kd.R_new' ho62 (Kd.R_lt (by (with_reducible repeat (first | apply Kd.R_alloc | apply Kd.R_drewN | apply Kd.R_drew)); exact HO105.out))) (Kd.R_lt (by (with_reducible repeat (first | apply Kd.R_alloc | apply Kd.R_drewN | apply Kd.R_drew)); exact HO108.out))) (Kd.R_lt (by (with_reducible repeat (first | apply Kd.R_alloc | apply Kd.R_drewN | apply Kd.R_drew)); exact HO111.out))) (Kd.R_lt (by (with_reducible repeat (first | apply Kd.R_alloc | apply Kd.R_drewN | apply Kd.R_drew)); exact HO114.out))) (Kd.R_lt (by (with_reducible repeat (first | apply Kd.R_alloc | apply Kd.R_drewN | apply Kd.R_drew)); exact HO117.out))) (Kd.R_lt (by (with_reducible repeat (first | apply Kd.R_alloc | apply Kd.R_drewN | apply Kd.R_drew)); exact HO121.out))) (Kd.R_lt (by (with_reducible repeat (first | apply Kd.R_alloc | apply Kd.R_drewN | apply Kd.R_drew)); exact HO124.out))) (Kd.R_lt (by (with_reducible repeat (first | apply Kd.R_alloc | apply Kd.R_drewN | apply Kd.R_drew)); exact HO128.out))) (Kd.R_lt (by (with_reducible repeat (first | apply Kd.R_alloc | apply Kd.R_drewN | apply Kd.R_drew)); exact HO131.out))) (Kd.R_lt (by (with_reducible repeat (first | apply Kd.R_alloc | apply Kd.R_drewN | apply Kd.R_drew)); exact HO135.out))) (Kd.R_lt (by (with_reducible repeat (first | apply Kd.R_alloc | apply Kd.R_drewN | apply Kd.R_drew)); exact HO139.out))) (Kd.R_lt (by (with_reducible repeat (first | apply Kd.R_alloc | apply Kd.R_drewN | apply Kd.R_drew)); exact HO142.out))) (Kd.R_lt (by (with_reducible repeat (first | apply Kd.R_alloc | apply Kd.R_drewN | apply Kd.R_drew)); exact HO146.out))) (Kd.R_lt (by (with_reducible repeat (first | apply Kd.R_alloc | apply Kd.R_drewN | apply Kd.R_drew)); exact HO150.out))) (below_size (by repeat (first | (with_reducible first | exact HB.out | apply below_alloc | apply pw_below_drewN | apply below_drew1) | exact HB.out)))); have n15_ := Aside0.mk (below_step (by repeat (first | (with_reducible first | exact HB.out | apply below_alloc | apply pw_below_drewN | apply below_drew1) | exact HB.out)) hb); clear HO105; clear HO108; clear HO111; clear HO114; clear HO117; clear HO121; clear HO124; clear HO128; clear HO131; clear HO135; clear HO139; clear HO142; clear HO146; clear HO150; clear HB; have HO105 := n0_; have HO108 := n1_; have HO111 := n2_; have HO114 := n3_; have HO117 := n4_; have HO121 := n5_; have HO124 := n6_; have HO128 := n7_; have HO131 := n8_; have HO135 := n9_; have HO139 := n10_; have HO142 := n11_; have HO146 := n12_; have HO150 := n13_; have HO154 := n14_; have HB := n15_; clear n0_ n1_ n2_ n3_ n4_ n5_ n6_ n7_ n8_ n9_ n10_ n11_ n12_ n13_ n14_ n15_; clear hb ho62; obtain ⟨Ao63, co63, eo63⟩ := Kd.R_slice HO128.out; subst eo63; obtain ⟨Ao64, co64, eo64⟩ := Kd.R_slice HO154.out; subst eo64) | (go_at_call 15; (with_reducible refine (phaetonref03_Ints.calls k _ _ t125 _ _ y152 true _ ?side1 ?side2 ?side3 ?side4 A14.out).mono ?_); (case side1 => repeat (first | exact (Kd.R_reads' HO128.out).2.2 | (with_reducible refine Kd.C_alloc ?_ _) | (with_reducible refine Kd.C_drewN ?_ _) | (with_reducible refine Kd.C_drew ?_))); (case side2 => exact (Kd.R_reads' HO128.out).2.1); (case side3 => repeat (first | exact (Kd.R_reads' HO154.out).2.2 | (with_reducible refine Kd.C_alloc ?_ _) | (with_reducible refine Kd.C_drewN ?_ _) | (with_reducible refine Kd.C_drew ?_))); (case side4 => exact (Kd.R_reads' HO154.out).2.1); rintro e w' ⟨rfl, ⟨nd, rfl⟩⟩) | ((with_reducible refine gate_dst (N := 62) rfl ?_); (try (refine gate_guard (by rfl) ?_; dsimp only)); refine Kd.R_lit (Kd.int .i64) _ 3 ?hg (N := 62) ?hd (xs := ([0, 0, 0, 0, 0] : List Int)) (inner := [.int .i64 0, .int .i64 0, .int .i64 0, .int .i64 0, .int .i64 0]) (ok := fun _ => True) (okp := fun _ => True) ?hr ?hp (fun _ hk => hk) trivial (Below.refl _ _) (Nat.le_refl _) (by simp) ?_; (case hd => rfl); (case hg => rfl); (case hr => first | (go_simp; done) | (go_simp; rfl)); (case hp => exact (Reps.one (show Kd.M (Kd.int .i64) _ _ _ 0 [.int .i64 0] from rfl) (Reps.one (show Kd.M (Kd.int .i64) _ _ _ 0 [.int .i64 0] from rfl) (Reps.one (show Kd.M (Kd.int .i64) _ _ _ 0 [.int .i64 0] from rfl) (Reps.one (show Kd.M (Kd.int .i64) _ _ _ 0 [.int .i64 0] from rfl) (Reps.one (show Kd.M (Kd.int .i64) _ _ _ 0 [.int .i64 0] from rfl) (Reps.none _ _))))))); intro v157 w65 ho66 hb hg_ hnew_; clear hg_ hnew_; (first | rw [← Ny156.out] at ho66 | (simp only [Int.reduceToNat] at ho66; rw [← Ny156.out] at ho66)); have n0_ := Aside0.mk (Kd.R_elder' (by (with_reducible repeat (first | apply Kd.R_alloc | apply Kd.R_drewN | apply Kd.R_drew)); exact HO105.out) (Kd.R_base ho66) hb); have n1_ := Aside0.mk (Kd.R_elder' (by (with_reducible repeat (first | apply Kd.R_alloc | apply Kd.R_drewN | apply Kd.R_drew)); exact HO108.out) (Kd.R_base ho66) hb); have n2_ := Aside0.mk (Kd.R_elder' (by (with_reducible repeat (first | apply Kd.R_alloc | apply Kd.R_drewN | apply Kd.R_drew)); exact HO111.out) (Kd.R_base ho66) hb); have n3_ := Aside0.mk (Kd.R_elder' (by (with_reducible repeat (first | apply Kd.R_alloc | apply Kd.R_drewN | apply Kd.R_drew)); exact HO114.out) (Kd.R_base ho66) hb); have n4_ := Aside0.mk (Kd.R_elder' (by (with_reducible repeat (first | apply Kd.R_alloc | apply Kd.R_drewN | apply Kd.R_drew)); exact HO117.out) (Kd.R_base ho66) hb); have n5_ := Aside0.mk (Kd.R_elder' (by (with_reducible repeat (first | apply Kd.R_alloc | apply Kd.R_drewN | apply Kd.R_drew)); exact HO121.out) (Kd.R_base ho66) hb); have n6_ := Aside0.mk (Kd.R_elder' (by (with_reducible repeat (first | apply Kd.R_alloc | apply Kd.R_drewN | apply Kd.R_drew)); exact HO124.out) (Kd.R_base ho66) hb); have n7_ := Aside0.mk (Kd.R_elder' (by (with_reducible repeat (first | apply Kd.R_alloc | apply Kd.R_drewN | apply Kd.R_drew)); exact HO128.out) (Kd.R_base ho66) hb); have n8_ := Aside0.mk (Kd.R_elder' (by (with_reducible repeat (first | apply Kd.R_alloc | apply Kd.R_drewN | apply Kd.R_drew)); exact HO131.out) (Kd.R_base ho66) hb); have n9_ := Aside0.mk (Kd.R_elder' (by (with_reducible repeat (first | apply Kd.R_alloc | apply Kd.R_drewN | apply Kd.R_drew)); exact HO135.out) (Kd.R_base ho66) hb); have n10_ := Aside0.mk (Kd.R_elder' (by (with_reducible repeat (first | apply Kd.R_alloc | apply Kd.R_drewN | apply Kd.R_drew)); exact HO139.out) (Kd.R_base ho66) hb); have n11_ := Aside0.mk (Kd.R_elder' (by (with_reducible repeat (first | apply Kd.R_alloc | apply Kd.R_drewN | apply Kd.R_drew)); exact HO142.out) (Kd.R_base ho66) hb); have n12_ := Aside0.mk (Kd.R_elder' (by (with_reducible repeat (first | apply Kd.R_alloc | apply Kd.R_drewN | apply Kd.R_drew)); exact HO146.out) (Kd.R_base ho66) hb); have n13_ := Aside0.mk (Kd.R_elder' (by (with_reducible repeat (first | apply Kd.R_alloc | apply Kd.R_drewN | apply Kd.R_drew)); exact HO150.out) (Kd.R_base ho66) hb); have n14_ := Aside0.mk (Kd.R_elder' (by (with_reducible repeat (first | apply Kd.R_alloc | apply Kd.R_drewN | apply Kd.R_drew)); exact HO154.out) (Kd.R_base ho66) hb); have n15_ := Aside0.mk (Kd.R_lower (Kd.R_new' (Kd.R_new' (Kd.R_new' (Kd.R_new' (Kd.R_new' (Kd.R_new' (Kd.R_new' (Kd.R_new' (Kd.R_new' (Kd.R_new' (Kd.R_new' (Kd.R_new' (Kd.R_new' (Kd.R_new' (Kd.R_new' ho66 (Kd.R_lt (by (with_reducible repeat (first | apply Kd.R_alloc | apply Kd.R_drewN | apply Kd.R_drew)); exact HO105.out))) (Kd.R_lt (by (with_reducible repeat (first | apply Kd.R_alloc | apply Kd.R_drewN | apply Kd.R_drew)); exact HO108.out))) (Kd.R_lt (by (with_reducible repeat (first | apply Kd.R_alloc | apply Kd.R_drewN | apply Kd.R_drew)); exact HO111.out))) (Kd.R_lt (by (with_reducible repeat (first | apply Kd.R_alloc | apply Kd.R_drewN | apply Kd.R_drew)); exact HO114.out))) (Kd.R_lt (by (with_reducible repeat (first | apply Kd.R_alloc | apply Kd.R_drewN | apply Kd.R_drew)); exact HO117.out))) (Kd.R_lt (by (with_reducible repeat (first | apply Kd.R_alloc | apply Kd.R_drewN | apply Kd.R_drew)); exact HO121.out))) (Kd.R_lt (by (with_reducible repeat (first | apply Kd.R_alloc | apply Kd.R_drewN | apply Kd.R_drew)); exact HO124.out))) (Kd.R_lt (by (with_reducible repeat (first | apply Kd.R_alloc | apply Kd.R_drewN | apply Kd.R_drew)); exact HO128.out))) (Kd.R_lt (by (with_reducible repeat (first | apply Kd.R_alloc | apply Kd.R_drewN | apply Kd.R_drew)); exact HO131.out))) (Kd.R_lt (by (with_reducible repeat (first | apply Kd.R_alloc | apply Kd.R_drewN | apply Kd.R_drew)); exact HO135.out))) (Kd.R_lt (by (with_reducible repeat (first | apply Kd.R_alloc | apply Kd.R_drewN | apply Kd.R_drew)); exact HO139.out))) (Kd.R_lt (by (with_reducible repeat (first | apply Kd.R_alloc | apply Kd.R_drewN | apply Kd.R_drew)); exact HO142.out))) (Kd.R_lt (by (with_reducible repeat (first | apply Kd.R_alloc | apply Kd.R_drewN | apply Kd.R_drew)); exact HO146.out))) (Kd.R_lt (by (with_reducible repeat (first | apply Kd.R_alloc | apply Kd.R_drewN | apply Kd.R_drew)); exact HO150.out))) (Kd.R_lt (by (with_reducible repeat (first | apply Kd.R_alloc | apply Kd.R_drewN | apply Kd.R_drew)); exact HO154.out))) (below_size (by repeat (first | (with_reducible first | exact HB.out | apply below_alloc | apply pw_below_drewN | apply below_drew1) | exact HB.out)))); have n16_ := Aside0.mk (below_step (by repeat (first | (with_reducible first | exact HB.out | apply below_alloc | apply pw_below_drewN | apply below_drew1) | exact HB.out)) hb); clear HO105; clear HO108; clear HO111; clear HO114; clear HO117; clear HO121; clear HO124; clear HO128; clear HO131; clear HO135; clear HO139; clear HO142; clear HO146; clear HO150; clear HO154; clear HB; have HO105 := n0_; have HO108 := n1_; have HO111 := n2_; have HO114 := n3_; have HO117 := n4_; have HO121 := n5_; have HO124 := n6_; have HO128 := n7_; have HO131 := n8_; have HO135 := n9_; have HO139 := n10_; have HO142 := n11_; have HO146 := n12_; have HO150 := n13_; have HO154 := n14_; have HO158 := n15_; have HB := n16_; clear n0_ n1_ n2_ n3_ n4_ n5_ n6_ n7_ n8_ n9_ n10_ n11_ n12_ n13_ n14_ n15_ n16_; clear hb ho66; obtain ⟨Ao67, co67, eo67⟩ := Kd.R_slice HO135.out; subst eo67; obtain ⟨Ao68, co68, eo68⟩ := Kd.R_slice HO158.out; subst eo68) | (go_at_call 15; (with_reducible refine (phaetonref03_Ints.calls k _ _ t132 _ _ y156 true _ ?side1 ?side2 ?side3 ?side4 A17.out).mono ?_); (case side1 => repeat (first | exact (Kd.R_reads' HO135.out).2.2 | (with_reducible refine Kd.C_alloc ?_ _) | (with_reducible refine Kd.C_drewN ?_ _) | (with_reducible refine Kd.C_drew ?_))); (case side2 => exact (Kd.R_reads' HO135.out).2.1); (case side3 => repeat (first | exact (Kd.R_reads' HO158.out).2.2 | (with_reducible refine Kd.C_alloc ?_ _) | (with_reducible refine Kd.C_drewN ?_ _) | (with_reducible refine Kd.C_drew ?_))); (case side4 => exact (Kd.R_reads' HO158.out).2.1); rintro e w' ⟨rfl, ⟨nd, rfl⟩⟩; obtain ⟨Ao69, co69, eo69⟩ := Kd.R_slice HO139.out; subst eo69) | (go_at_call 16; (refine (stuff_Stuff.calls _ _ ([] : List Int) t160 _ ?side1 ?side2 A22.out).mono ?_); (case side1 => exact Kd.C_nil _ _); (case side2 => exact Nat.le_refl _); rintro e w70 ⟨v161, rfl, ho0, hb⟩; have n0_ := Aside0.mk (Kd.R_elder' (by (with_reducible repeat (first | apply Kd.R_alloc | apply Kd.R_drewN | apply Kd.R_drew)); exact HO105.out) (Kd.R_base ho0) hb); have n1_ := Aside0.mk (Kd.R_elder' (by (with_reducible repeat (first | apply Kd.R_alloc | apply Kd.R_drewN | apply Kd.R_drew)); exact HO108.out) (Kd.R_base ho0) hb); have n2_ := Aside0.mk (Kd.R_elder' (by (with_reducible repeat (first | apply Kd.R_alloc | apply Kd.R_drewN | apply Kd.R_drew)); exact HO111.out) (Kd.R_base ho0) hb); have n3_ := Aside0.mk (Kd.R_elder' (by (with_reducible repeat (first | apply Kd.R_alloc | apply Kd.R_drewN | apply Kd.R_drew)); exact HO114.out) (Kd.R_base ho0) hb); have n4_ := Aside0.mk (Kd.R_elder' (by (with_reducible repeat (first | apply Kd.R_alloc | apply Kd.R_drewN | apply Kd.R_drew)); exact HO117.out) (Kd.R_base ho0) hb); have n5_ := Aside0.mk (Kd.R_elder' (by (with_reducible repeat (first | apply Kd.R_alloc | apply Kd.R_drewN | apply Kd.R_drew)); exact HO121.out) (Kd.R_base ho0) hb); have n6_ := Aside0.mk (Kd.R_elder' (by (with_reducible repeat (first | apply Kd.R_alloc | apply Kd.R_drewN | apply Kd.R_drew)); exact HO124.out) (Kd.R_base ho0) hb); have n7_ := Aside0.mk (Kd.R_elder' (by (with_reducible repeat (first | apply Kd.R_alloc | apply Kd.R_drewN | apply Kd.R_drew)); exact HO128.out) (Kd.R_base ho0) hb); have n8_ := Aside0.mk (Kd.R_elder' (by (with_reducible repeat (first | apply Kd.R_alloc | apply Kd.R_drewN | apply Kd.R_drew)); exact HO131.out) (Kd.R_base ho0) hb); have n9_ := Aside0.mk (Kd.R_elder' (by (with_reducible repeat (first | apply Kd.R_alloc | apply Kd.R_drewN | apply Kd.R_drew)); exact HO135.out) (Kd.R_base ho0) hb); have n10_ := Aside0.mk (Kd.R_elder' (by (with_reducible repeat (first | apply Kd.R_alloc | apply Kd.R_drewN | apply Kd.R_drew)); exact HO139.out) (Kd.R_base ho0) hb); have n11_ := Aside0.mk (Kd.R_elder' (by (with_reducible repeat (first | apply Kd.R_alloc | apply Kd.R_drewN | apply Kd.R_drew)); exact HO142.out) (Kd.R_base ho0) hb); have n12_ := Aside0.mk (Kd.R_elder' (by (with_reducible repeat (first | apply Kd.R_alloc | apply Kd.R_drewN | apply Kd.R_drew)); exact HO146.out) (Kd.R_base ho0) hb); have n13_ := Aside0.mk (Kd.R_elder' (by (with_reducible repeat (first | apply Kd.R_alloc | apply Kd.R_drewN | apply Kd.R_drew)); exact HO150.out) (Kd.R_base ho0) hb); have n14_ := Aside0.mk (Kd.R_elder' (by (with_reducible repeat (first | apply Kd.R_alloc | apply Kd.R_drewN | apply Kd.R_drew)); exact HO154.out) (Kd.R_base ho0) hb); have n15_ := Aside0.mk (Kd.R_elder' (by (with_reducible repeat (first | apply Kd.R_alloc | apply Kd.R_drewN | apply Kd.R_drew)); exact HO158.out) (Kd.R_base ho0) hb); have n16_ := Aside0.mk (Kd.R_lower (Kd.R_new' (Kd.R_new' (Kd.R_new' (Kd.R_new' (Kd.R_new' (Kd.R_new' (Kd.R_new' (Kd.R_new' (Kd.R_new' (Kd.R_new' (Kd.R_new' (Kd.R_new' (Kd.R_new' (Kd.R_new' (Kd.R_new' (Kd.R_new' ho0 (Kd.R_lt (by (with_reducible repeat (first | apply Kd.R_alloc | apply Kd.R_drewN | apply Kd.R_drew)); exact HO105.out))) (Kd.R_lt (by (with_reducible repeat (first | apply Kd.R_alloc | apply Kd.R_drewN | apply Kd.R_drew)); exact HO108.out))) (Kd.R_lt (by (with_reducible repeat (first | apply Kd.R_alloc | apply Kd.R_drewN | apply Kd.R_drew)); exact HO111.out))) (Kd.R_lt (by (with_reducible repeat (first | apply Kd.R_alloc | apply Kd.R_drewN | apply Kd.R_drew)); exact HO114.out))) (Kd.R_lt (by (with_reducible repeat (first | apply Kd.R_alloc | apply Kd.R_drewN | apply Kd.R_drew)); exact HO117.out))) (Kd.R_lt (by (with_reducible repeat (first | apply Kd.R_alloc | apply Kd.R_drewN | apply Kd.R_drew)); exact HO121.out))) (Kd.R_lt (by (with_reducible repeat (first | apply Kd.R_alloc | apply Kd.R_drewN | apply Kd.R_drew)); exact HO124.out))) (Kd.R_lt (by (with_reducible repeat (first | apply Kd.R_alloc | apply Kd.R_drewN | apply Kd.R_drew)); exact HO128.out))) (Kd.R_lt (by (with_reducible repeat (first | apply Kd.R_alloc | apply Kd.R_drewN | apply Kd.R_drew)); exact HO131.out))) (Kd.R_lt (by (with_reducible repeat (first | apply Kd.R_alloc | apply Kd.R_drewN | apply Kd.R_drew)); exact HO135.out))) (Kd.R_lt (by (with_reducible repeat (first | apply Kd.R_alloc | apply Kd.R_drewN | apply Kd.R_drew)); exact HO139.out))) (Kd.R_lt (by (with_reducible repeat (first | apply Kd.R_alloc | apply Kd.R_drewN | apply Kd.R_drew)); exact HO142.out))) (Kd.R_lt (by (with_reducible repeat (first | apply Kd.R_alloc | apply Kd.R_drewN | apply Kd.R_drew)); exact HO146.out))) (Kd.R_lt (by (with_reducible repeat (first | apply Kd.R_alloc | apply Kd.R_drewN | apply Kd.R_drew)); exact HO150.out))) (Kd.R_lt (by (with_reducible repeat (first | apply Kd.R_alloc | apply Kd.R_drewN | apply Kd.R_drew)); exact HO154.out))) (Kd.R_lt (by (with_reducible repeat (first | apply Kd.R_alloc | apply Kd.R_drewN | apply Kd.R_drew)); exact HO158.out))) (below_size (by repeat (first | (with_reducible first | exact HB.out | apply below_alloc | apply pw_below_drewN | apply below_drew1) | exact HB.out)))); have n17_ := Aside0.mk (below_step (by repeat (first | (with_reducible first | exact HB.out | apply below_alloc | apply pw_below_drewN | apply below_drew1) | exact HB.out)) hb); clear HO105; clear HO108; clear HO111; clear HO114; clear HO117; clear HO121; clear HO124; clear HO128; clear HO131; clear HO135; clear HO139; clear HO142; clear HO146; clear HO150; clear HO154; clear HO158; clear HB; have HO105 := n0_; have HO108 := n1_; have HO111 := n2_; have HO114 := n3_; have HO117 := n4_; have HO121 := n5_; have HO124 := n6_; have HO128 := n7_; have HO131 := n8_; have HO135 := n9_; have HO139 := n10_; have HO142 := n11_; have HO146 := n12_; have HO150 := n13_; have HO154 := n14_; have HO158 := n15_; have HO162 := n16_; have HB := n17_; clear n0_ n1_ n2_ n3_ n4_ n5_ n6_ n7_ n8_ n9_ n10_ n11_ n12_ n13_ n14_ n15_ n16_ n17_; (try clear hb); (try clear hb2); (try clear hk); (try clear hi); (try clear ho0); obtain ⟨Ao71, co71, eo71⟩ := Kd.R_slice HO162.out; subst eo71) | ((with_reducible refine gate_dst (N := 84) rfl ?_); (try (refine gate_guard (by rfl) ?_; dsimp only)); refine Kd.R_lit (Kd.int .i64) _ 3 ?hg (N := 84) ?hd (xs := ([1, 0, 0, 1, 1, 1] : List Int)) (inner := [.int .i64 1, .int .i64 0, .int .i64 0, .int .i64 1, .int .i64 1, .int .i64 1]) (ok := fun _ => True) (okp := fun _ => True) ?hr ?hp (fun _ hk => hk) trivial (Below.refl _ _) (Nat.le_refl _) (by simp) ?_; (case hd => rfl); (case hg => rfl); (case hr => first | (go_simp; done) | (go_simp; rfl)); (case hp => exact (Reps.one (show Kd.M (Kd.int .i64) _ _ _ 1 [.int .i64 1] from rfl) (Reps.one (show Kd.M (Kd.int .i64) _ _ _ 0 [.int .i64 0] from rfl) (Reps.one (show Kd.M (Kd.int .i64) _ _ _ 0 [.int .i64 0] from rfl) (Reps.one (show Kd.M (Kd.int .i64) _ _ _ 1 [.int .i64 1] from rfl) (Reps.one (show Kd.M (Kd.int .i64) _ _ _ 1 [.int .i64 1] from rfl) (Reps.one (show Kd.M (Kd.int .i64) _ _ _ 1 [.int .i64 1] from rfl) (Reps.none _ _)))))))); intro v164 w72 ho73 hb hg_ hnew_; clear hg_ hnew_; (first | rw [← Ny163.out] at ho73 | (simp only [Int.reduceToNat] at ho73; rw [← Ny163.out] at ho73)); have n0_ := Aside0.mk (Kd.R_elder' (by (with_reducible repeat (first | apply Kd.R_alloc | apply Kd.R_drewN | apply Kd.R_drew)); exact HO105.out) (Kd.R_base ho73) hb); have n1_ := Aside0.mk (Kd.R_elder' (by (with_reducible repeat (first | apply Kd.R_alloc | apply Kd.R_drewN | apply Kd.R_drew)); exact HO108.out) (Kd.R_base ho73) hb); have n2_ := Aside0.mk (Kd.R_elder' (by (with_reducible repeat (first | apply Kd.R_alloc | apply Kd.R_drewN | apply Kd.R_drew)); exact HO111.out) (Kd.R_base ho73) hb); have n3_ := Aside0.mk (Kd.R_elder' (by (with_reducible repeat (first | apply Kd.R_alloc | apply Kd.R_drewN | apply Kd.R_drew)); exact HO114.out) (Kd.R_base ho73) hb); have n4_ := Aside0.mk (Kd.R_elder' (by (with_reducible repeat (first | apply Kd.R_alloc | apply Kd.R_drewN | apply Kd.R_drew)); exact HO117.out) (Kd.R_base ho73) hb); have n5_ := Aside0.mk (Kd.R_elder' (by (with_reducible repeat (first | apply Kd.R_alloc | apply Kd.R_drewN | apply Kd.R_drew)); exact HO121.out) (Kd.R_base ho73) hb); have n6_ := Aside0.mk (Kd.R_elder' (by (with_reducible repeat (first | apply Kd.R_alloc | apply Kd.R_drewN | apply Kd.R_drew)); exact HO124.out) (Kd.R_base ho73) hb); have n7_ := Aside0.mk (Kd.R_elder' (by (with_reducible repeat (first | apply Kd.R_alloc | apply Kd.R_drewN | apply Kd.R_drew)); exact HO128.out) (Kd.R_base ho73) hb); have n8_ := Aside0.mk (Kd.R_elder' (by (with_reducible repeat (first | apply Kd.R_alloc | apply Kd.R_drewN | apply Kd.R_drew)); exact HO131.out) (Kd.R_base ho73) hb); have n9_ := Aside0.mk (Kd.R_elder' (by (with_reducible repeat (first | apply Kd.R_alloc | apply Kd.R_drewN | apply Kd.R_drew)); exact HO135.out) (Kd.R_base ho73) hb); have n10_ := Aside0.mk (Kd.R_elder' (by (with_reducible repeat (first | apply Kd.R_alloc | apply Kd.R_drewN | apply Kd.R_drew)); exact HO139.out) (Kd.R_base ho73) hb); have n11_ := Aside0.mk (Kd.R_elder' (by (with_reducible repeat (first | apply Kd.R_alloc | apply Kd.R_drewN | apply Kd.R_drew)); exact HO142.out) (Kd.R_base ho73) hb); have n12_ := Aside0.mk (Kd.R_elder' (by (with_reducible repeat (first | apply Kd.R_alloc | apply Kd.R_drewN | apply Kd.R_drew)); exact HO146.out) (Kd.R_base ho73) hb); have n13_ := Aside0.mk (Kd.R_elder' (by (with_reducible repeat (first | apply Kd.R_alloc | apply Kd.R_drewN | apply Kd.R_drew)); exact HO150.out) (Kd.R_base ho73) hb); have n14_ := Aside0.mk (Kd.R_elder' (by (with_reducible repeat (first | apply Kd.R_alloc | apply Kd.R_drewN | apply Kd.R_drew)); exact HO154.out) (Kd.R_base ho73) hb); have n15_ := Aside0.mk (Kd.R_elder' (by (with_reducible repeat (first | apply Kd.R_alloc | apply Kd.R_drewN | apply Kd.R_drew)); exact HO158.out) (Kd.R_base ho73) hb); have n16_ := Aside0.mk (Kd.R_elder' (by (with_reducible repeat (first | apply Kd.R_alloc | apply Kd.R_drewN | apply Kd.R_drew)); exact HO162.out) (Kd.R_base ho73) hb); have n17_ := Aside0.mk (Kd.R_lower (Kd.R_new' (Kd.R_new' (Kd.R_new' (Kd.R_new' (Kd.R_new' (Kd.R_new' (Kd.R_new' (Kd.R_new' (Kd.R_new' (Kd.R_new' (Kd.R_new' (Kd.R_new' (Kd.R_new' (Kd.R_new' (Kd.R_new' (Kd.R_new' (Kd.R_new' ho73 (Kd.R_lt (by (with_reducible repeat (first | apply Kd.R_alloc | apply Kd.R_drewN | apply Kd.R_drew)); exact HO105.out))) (Kd.R_lt (by (with_reducible repeat (first | apply Kd.R_alloc | apply Kd.R_drewN | apply Kd.R_drew)); exact HO108.out))) (Kd.R_lt (by (with_reducible repeat (first | apply Kd.R_alloc | apply Kd.R_drewN | apply Kd.R_drew)); exact HO111.out))) (Kd.R_lt (by (with_reducible repeat (first | apply Kd.R_alloc | apply Kd.R_drewN | apply Kd.R_drew)); exact HO114.out))) (Kd.R_lt (by (with_reducible repeat (first | apply Kd.R_alloc | apply Kd.R_drewN | apply Kd.R_drew)); exact HO117.out))) (Kd.R_lt (by (with_reducible repeat (first | apply Kd.R_alloc | apply Kd.R_drewN | apply Kd.R_drew)); exact HO121.out))) (Kd.R_lt (by (with_reducible repeat (first | apply Kd.R_alloc | apply Kd.R_drewN | apply Kd.R_drew)); exact HO124.out))) (Kd.R_lt (by (with_reducible repeat (first | apply Kd.R_alloc | apply Kd.R_drewN | apply Kd.R_drew)); exact HO128.out))) (Kd.R_lt (by (with_reducible repeat (first | apply Kd.R_alloc | apply Kd.R_drewN | apply Kd.R_drew)); exact HO131.out))) (Kd.R_lt (by (with_reducible repeat (first | apply Kd.R_alloc | apply Kd.R_drewN | apply Kd.R_drew)); exact HO135.out))) (Kd.R_lt (by (with_reducible repeat (first | apply Kd.R_alloc | apply Kd.R_drewN | apply Kd.R_drew)); exact HO139.out))) (Kd.R_lt (by (with_reducible repeat (first | apply Kd.R_alloc | apply Kd.R_drewN | apply Kd.R_drew)); exact HO142.out))) (Kd.R_lt (by (with_reducible repeat (first | apply Kd.R_alloc | apply Kd.R_drewN | apply Kd.R_drew)); exact HO146.out))) (Kd.R_lt (by (with_reducible repeat (first | apply Kd.R_alloc | apply Kd.R_drewN | apply Kd.R_drew)); exact HO150.out))) (Kd.R_lt (by (with_reducible repeat (first | apply Kd.R_alloc | apply Kd.R_drewN | apply Kd.R_drew)); exact HO154.out))) (Kd.R_lt (by (with_reducible repeat (first | apply Kd.R_alloc | apply Kd.R_drewN | apply Kd.R_drew)); exact HO158.out))) (Kd.R_lt (by (with_reducible repeat (first | apply Kd.R_alloc | apply Kd.R_drewN | apply Kd.R_drew)); exact HO162.out))) (below_size (by repeat (first | (with_reducible first | exact HB.out | apply below_alloc | apply pw_below_drewN | apply below_drew1) | exact HB.out)))); have n18_ := Aside0.mk (below_step (by repeat (first | (with_reducible first | exact HB.out | apply below_alloc | apply pw_below_drewN | apply below_drew1) | exact HB.out)) hb); clear HO105; clear HO108; clear HO111; clear HO114; clear HO117; clear HO121; clear HO124; clear HO128; clear HO131; clear HO135; clear HO139; clear HO142; clear HO146; clear HO150; clear HO154; clear HO158; clear HO162; clear HB; have HO105 := n0_; have HO108 := n1_; have HO111 := n2_; have HO114 := n3_; have HO117 := n4_; have HO121 := n5_; have HO124 := n6_; have HO128 := n7_; have HO131 := n8_; have HO135 := n9_; have HO139 := n10_; have HO142 := n11_; have HO146 := n12_; have HO150 := n13_; have HO154 := n14_; have HO158 := n15_; have HO162 := n16_; have HO165 := n17_; have HB := n18_; clear n0_ n1_ n2_ n3_ n4_ n5_ n6_ n7_ n8_ n9_ n10_ n11_ n12_ n13_ n14_ n15_ n16_ n17_ n18_; clear hb ho73; obtain ⟨Ao74, co74, eo74⟩ := Kd.R_slice HO165.out; subst eo74) | (go_at_call 18; (with_reducible refine (stuff_Runs.calls _ _ y163 t166 _ ?side1 ?side2 A24.out).mono ?_); (case side1 => repeat (first | exact (Kd.R_reads' HO165.out).2.2 | (with_reducible refine Kd.C_alloc ?_ _) | (with_reducible refine Kd.C_drewN ?_ _) | (with_reducible refine Kd.C_drew ?_))); (case side2 => exact (Kd.R_reads' HO165.out).2.1); rintro e w75 ⟨rfl, hb⟩; have n0_ := Aside0.mk (Kd.R_below (by (with_reducible repeat (first | apply Kd.R_alloc | apply Kd.R_drewN | apply Kd.R_drew)); exact HO105.out) hb); have n1_ := Aside0.mk (Kd.R_below (by (with_reducible repeat (first | apply Kd.R_alloc | apply Kd.R_drewN | apply Kd.R_drew)); exact HO108.out) hb); have n2_ := Aside0.mk (Kd.R_below (by (with_reducible repeat (first | apply Kd.R_alloc | apply Kd.R_drewN | apply Kd.R_drew)); exact HO111.out) hb); have n3_ := Aside0.mk (Kd.R_below (by (with_reducible repeat (first | apply Kd.R_alloc | apply Kd.R_drewN | apply Kd.R_drew)); exact HO114.out) hb); have n4_ := Aside0.mk (Kd.R_below (by (with_reducible repeat (first | apply Kd.R_alloc | apply Kd.R_drewN | apply Kd.R_drew)); exact HO117.out) hb); have n5_ := Aside0.mk (Kd.R_below (by (with_reducible repeat (first | apply Kd.R_alloc | apply Kd.R_drewN | apply Kd.R_drew)); exact HO121.out) hb); have n6_ := Aside0.mk (Kd.R_below (by (with_reducible repeat (first | apply Kd.R_alloc | apply Kd.R_drewN | apply Kd.R_drew)); exact HO124.out) hb); have n7_ := Aside0.mk (Kd.R_below (by (with_reducible repeat (first | apply Kd.R_alloc | apply Kd.R_drewN | apply Kd.R_drew)); exact HO128.out) hb); have n8_ := Aside0.mk (Kd.R_below (by (with_reducible repeat (first | apply Kd.R_alloc | apply Kd.R_drewN | apply Kd.R_drew)); exact HO131.out) hb); have n9_ := Aside0.mk (Kd.R_below (by (with_reducible repeat (first | apply Kd.R_alloc | apply Kd.R_drewN | apply Kd.R_drew)); exact HO135.out) hb); have n10_ := Aside0.mk (Kd.R_below (by (with_reducible repeat (first | apply Kd.R_alloc | apply Kd.R_drewN | apply Kd.R_drew)); exact HO139.out) hb); have n11_ := Aside0.mk (Kd.R_below (by (with_reducible repeat (first | apply Kd.R_alloc | apply Kd.R_drewN | apply Kd.R_drew)); exact HO142.out) hb); have n12_ := Aside0.mk (Kd.R_below (by (with_reducible repeat (first | apply Kd.R_alloc | apply Kd.R_drewN | apply Kd.R_drew)); exact HO146.out) hb); have n13_ := Aside0.mk (Kd.R_below (by (with_reducible repeat (first | apply Kd.R_alloc | apply Kd.R_drewN | apply Kd.R_drew)); exact HO150.out) hb); have n14_ := Aside0.mk (Kd.R_below (by (with_reducible repeat (first | apply Kd.R_alloc | apply Kd.R_drewN | apply Kd.R_drew)); exact HO154.out) hb); have n15_ := Aside0.mk (Kd.R_below (by (with_reducible repeat (first | apply Kd.R_alloc | apply Kd.R_drewN | apply Kd.R_drew)); exact HO158.out) hb); have n16_ := Aside0.mk (Kd.R_below (by (with_reducible repeat (first | apply Kd.R_alloc | apply Kd.R_drewN | apply Kd.R_drew)); exact HO162.out) hb); have n17_ := Aside0.mk (Kd.R_below (by (with_reducible repeat (first | apply Kd.R_alloc | apply Kd.R_drewN | apply Kd.R_drew)); exact HO165.out) hb); have n18_ := Aside0.mk (below_step (by repeat (first | (with_reducible first | exact HB.out | apply below_alloc | apply pw_below_drewN | apply below_drew1) | exact HB.out)) hb); clear HO105; clear HO108; clear HO111; clear HO114; clear HO117; clear HO121; clear HO124; clear HO128; clear HO131; clear HO135; clear HO139; clear HO142; clear HO146; clear HO150; clear HO154; clear HO158; clear HO162; clear HO165; clear HB; have HO105 := n0_; have HO108 := n1_; have HO111 := n2_; have HO114 := n3_; have HO117 := n4_; have HO121 := n5_; have HO124 := n6_; have HO128 := n7_; have HO131 := n8_; have HO135 := n9_; have HO139 := n10_; have HO142 := n11_; have HO146 := n12_; have HO150 := n13_; have HO154 := n14_; have HO158 := n15_; have HO162 := n16_; have HO165 := n17_; have HB := n18_; clear n0_ n1_ n2_ n3_ n4_ n5_ n6_ n7_ n8_ n9_ n10_ n11_ n12_ n13_ n14_ n15_ n16_ n17_ n18_; (try clear hb); (try clear hb2); (try clear hk); (try clear hi)) | (go_at_call 18; (refine (stuff_Runs.calls _ _ ([] : List Int) t167 _ ?side1 ?side2 A26.out).mono ?_); (case side1 => exact Kd.C_nil _ _); (case side2 => exact Nat.le_refl _); rintro e w76 ⟨rfl, hb⟩; have n0_ := Aside0.mk (Kd.R_below (by (with_reducible repeat (first | apply Kd.R_alloc | apply Kd.R_drewN | apply Kd.R_drew)); exact HO105.out) hb); have n1_ := Aside0.mk (Kd.R_below (by (with_reducible repeat (first | apply Kd.R_alloc | apply Kd.R_drewN | apply Kd.R_drew)); exact HO108.out) hb); have n2_ := Aside0.mk (Kd.R_below (by (with_reducible repeat (first | apply Kd.R_alloc | apply Kd.R_drewN | apply Kd.R_drew)); exact HO111.out) hb); have n3_ := Aside0.mk (Kd.R_below (by (with_reducible repeat (first | apply Kd.R_alloc | apply Kd.R_drewN | apply Kd.R_drew)); exact HO114.out) hb); have n4_ := Aside0.mk (Kd.R_below (by (with_reducible repeat (first | apply Kd.R_alloc | apply Kd.R_drewN | apply Kd.R_drew)); exact HO117.out) hb); have n5_ := Aside0.mk (Kd.R_below (by (with_reducible repeat (first | apply Kd.R_alloc | apply Kd.R_drewN | apply Kd.R_drew)); exact HO121.out) hb); have n6_ := Aside0.mk (Kd.R_below (by (with_reducible repeat (first | apply Kd.R_alloc | apply Kd.R_drewN | apply Kd.R_drew)); exact HO124.out) hb); have n7_ := Aside0.mk (Kd.R_below (by (with_reducible repeat (first | apply Kd.R_alloc | apply Kd.R_drewN | apply Kd.R_drew)); exact HO128.out) hb); have n8_ := Aside0.mk (Kd.R_below (by (with_reducible repeat (first | apply Kd.R_alloc | apply Kd.R_drewN | apply Kd.R_drew)); exact HO131.out) hb); have n9_ := Aside0.mk (Kd.R_below (by (with_reducible repeat (first | apply Kd.R_alloc | apply Kd.R_drewN | apply Kd.R_drew)); exact HO135.out) hb); have n10_ := Aside0.mk (Kd.R_below (by (with_reducible repeat (first | apply Kd.R_alloc | apply Kd.R_drewN | apply Kd.R_drew)); exact HO139.out) hb); have n11_ := Aside0.mk (Kd.R_below (by (with_reducible repeat (first | apply Kd.R_alloc | apply Kd.R_drewN | apply Kd.R_drew)); exact HO142.out) hb); have n12_ := Aside0.mk (Kd.R_below (by (with_reducible repeat (first | apply Kd.R_alloc | apply Kd.R_drewN | apply Kd.R_drew)); exact HO146.out) hb); have n13_ := Aside0.mk (Kd.R_below (by (with_reducible repeat (first | apply Kd.R_alloc | apply Kd.R_drewN | apply Kd.R_drew)); exact HO150.out) hb); have n14_ := Aside0.mk (Kd.R_below (by (with_reducible repeat (first | apply Kd.R_alloc | apply Kd.R_drewN | apply Kd.R_drew)); exact HO154.out) hb); have n15_ := Aside0.mk (Kd.R_below (by (with_reducible repeat (first | apply Kd.R_alloc | apply Kd.R_drewN | apply Kd.R_drew)); exact HO158.out) hb); have n16_ := Aside0.mk (Kd.R_below (by (with_reducible repeat (first | apply Kd.R_alloc | apply Kd.R_drewN | apply Kd.R_drew)); exact HO162.out) hb); have n17_ := Aside0.mk (Kd.R_below (by (with_reducible repeat (first | apply Kd.R_alloc | apply Kd.R_drewN | apply Kd.R_drew)); exact HO165.out) hb); have n18_ := Aside0.mk (below_step (by repeat (first | (with_reducible first | exact HB.out | apply below_alloc | apply pw_below_drewN | apply below_drew1) | exact HB.out)) hb); clear HO105; clear HO108; clear HO111; clear HO114; clear HO117; clear HO121; clear HO124; clear HO128; clear HO131; clear HO135; clear HO139; clear HO142; clear HO146; clear HO150; clear HO154; clear HO158; clear HO162; clear HO165; clear HB; have HO105 := n0_; have HO108 := n1_; have HO111 := n2_; have HO114 := n3_; have HO117 := n4_; have HO121 := n5_; have HO124 := n6_; have HO128 := n7_; have HO131 := n8_; have HO135 := n9_; have HO139 := n10_; have HO142 := n11_; have HO146 := n12_; have HO150 := n13_; have HO154 := n14_; have HO158 := n15_; have HO162 := n16_; have HO165 := n17_; have HB := n18_; clear n0_ n1_ n2_ n3_ n4_ n5_ n6_ n7_ n8_ n9_ n10_ n11_ n12_ n13_ n14_ n15_ n16_ n17_ n18_; (try clear hb); (try clear hb2); (try clear hk); (try clear hi)))
                            go_ret
                            exact ⟨by first | rfl | (simp [errW_none, errW_some] <;> rfl) | (simp [*, errW_none, errW_some] <;> rfl), by repeat (first | (with_reducible first | exact HB.out | apply below_alloc | apply pw_below_drewN | apply below_drew1) | exact HB.out)⟩
                          · rw [if_neg c27] at H
                            exact absurd H (by simp)
                        · rw [if_neg c25] at H
                          exact absurd H (by simp)
                      · rw [if_neg c23] at H
                        exact absurd H (by simp)
                    · rw [if_neg c21] at H
                      exact absurd H (by simp)
                  · rw [if_neg c20] at H
                    exact absurd H (by simp)
                · rw [if_neg c19] at H
                  exact absurd H (by simp)
              · replace c18 := Bool.eq_false_iff.mpr c18
                subst c18
                have H1 : (none) = some r := by rw [if_neg (show ¬ (false = true) by decide)] at H; exact H
                clear H
                have H := H1
                clear H1
                exact absurd H (by simp)
            · rw [if_neg c16] at H
              exact absurd H (by simp)
          · replace c15 := Bool.eq_false_iff.mpr c15
            subst c15
            have H1 : (none) = some r := by rw [if_neg (show ¬ (false = true) by decide)] at H; exact H
            clear H
            have H := H1
            clear H1
            exact absurd H (by simp)
        · rw [if_neg c13] at H
          exact absurd H (by simp)
      · replace c12 := Bool.eq_false_iff.mpr c12
        subst c12
        have H1 : (none) = some r := by rw [if_neg (show ¬ (false = true) by decide)] at H; exact H
        clear H
        have H := H1
        clear H1
        exact absurd H (by simp)
    · replace c10 := Bool.eq_false_iff.mpr c10
      subst c10
      have H1 : (none) = some r := by rw [if_neg (show ¬ (false = true) by decide)] at H; exact H
      clear H
      have H := H1
      clear H1
      exact absurd H (by simp)
  · replace c8 := Bool.eq_false_iff.mpr c8
    subst c8
    have H1 : (none) = some r := by rw [if_neg (show ¬ (false = true) by decide)] at H; exact H
    clear H
    have H := H1
    clear H1
    exact absurd H (by simp)

end Go.Proofs.Ytlggjgabefjjoaa.Px
