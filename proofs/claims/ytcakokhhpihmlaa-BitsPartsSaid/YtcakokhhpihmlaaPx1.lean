-- Written by myprint.py, a program of this session's, over the kit's print.py; not a text of print.sh's own.
import Derived.Test.YtcakokhhpihmlaaPx0
namespace Go.Proofs.Ytcakokhhpihmlaa.Px
open Go.RowKit Go.Proofs.YtcakokhhpihmlaaW.PrintWords Go.Proofs.YtcakokhhpihmlaaW.PrintLast Go.Proofs.YtcakokhhpihmlaaW.PrintMore
attribute [local go_sem] max2_int min2_int max_two min_two max_three min_three max_four min_four   -- for this text's walks alone
set_option linter.unusedVariables false
set_option linter.unusedSimpArgs false

/-! ### phaeton/bits.shifts: helper -/
theorem bits_prefix_snoc (xs pre : List Int) (x : Int) (h : pre <+: xs) (hx : xs[pre.length]? = some x) : (pre ++ [x]) <+: xs := by
  obtain ⟨r, rfl⟩ := h
  cases r with
  | nil => simp at hx
  | cons y r =>
    have : y = x := by simpa using hx
    subst this
    exact ⟨r, by simp⟩
section
attribute [local go_sem] Oper.semAt_some
set_option maxRecDepth 100000 in
set_option maxHeartbeats 1000000 in
theorem bits_shifts1 (d l Nb Mb : Nat) (n : Int) (m : Nat) (hm : m ≤ 62) (Kp : World → World → Prop) (hKp : ∀ A B, Kp A B → ∀ t v, Boxed A Nb t v → Boxed B Nb t v) (J Jx : List Int → World → Prop)
    (hY : ∀ pre x W, J pre W → pre.length < m → YieldAt Fence.wide (d - 1) Try.prog l #[.int .i64 x] W fun e W' =>
      (e = .returned (.bool true) ∧ J (pre ++ [x]) W' ∧ Kp W W') ∨ (e = .returned (.bool false) ∧ Jx (pre ++ [x]) W'))
    (W : World) (hN : Boxed W Nb 3 (.int .i64 n)) (hM : Boxed W Mb 3 (.int .i64 m)) (h0 : J [] W) :
    CallsIn Fence.wide d Try.prog 25 #[.func (.yield l) #[] #[], .pointer (some ⟨Mb, 0, none⟩), .pointer (some ⟨Nb, 0, none⟩)] W fun e W' => (∃ v, e = .returned v) ∧
      ((∃ ys, ys = H.bitsOf n m ∧ J ys W') ∨ (∃ pre, pre <+: H.bitsOf n m ∧ Jx pre W')) := by
  have hcM := hM.cell
  refine callsIn_of_wp Try.func25 rfl trivial ?_ rfl
  simp only [Try.ntmps25, List.size_toArray, List.length_cons, List.length_nil, Nat.reduceAdd, Nat.reduceSub, Array.replicate_succ, Array.replicate_zero, List.push_toArray, List.append_toArray, List.nil_append, List.cons_append]
  gi_wp2
  gi_loopw [4] (fun v wr => ∃ (pre : List Int), pre <+: H.bitsOf n m ∧ v = .int .i64 ((m : Int) - 1 - pre.length) ∧ Aside0 (Boxed wr Nb 3 (.int .i64 n)) ∧ J pre wr)
    (fun v wr => (intOf v + 1).toNat)
  case atStart => exact ⟨[], List.nil_prefix, by simp, ⟨hN⟩, h0⟩
  case round =>
    obtain ⟨pre, hp, rfl, HN, hJ⟩ := hrel
    have hlen := hp.length_le
    rw [H.bitsOf_length] at hlen
    have hcN := HN.out.cell
    by_cases hlt : pre.length < m
    · have hb0 : 0 ≤ (m : Int) - 1 - pre.length := by omega
      have hb1 : (m : Int) - 1 - pre.length ≤ 62 := by omega
      have HE := Aside0.mk (show ((m : Int) - 1 - (pre.length : Int)) = ((m - 1 - pre.length : Nat) : Int) by omega)
      have hx := H.bitsOf_get n m pre.length hlt
      have HX := Aside0.mk hx
      clear hx
      obtain ⟨fn, tmps, assign, body, hy, hR⟩ := hY pre (n / 2 ^ (m - 1 - pre.length) % 2) wr hJ hlt
      rw [HE.out]
      gi_wp2_with fail
      rw [H.and_one, hy, Oper.uponIn_round]
      refine ⟨fun h => by simp [Fence.wide] at h, hR.mono ?_⟩
      rintro e W3 (⟨rfl, hJ3, hk3⟩ | ⟨rfl, hJx3⟩)
      · gi_wp2
        go_roundw
        case rel => exact ⟨pre ++ [n / 2 ^ (m - 1 - pre.length) % 2], bits_prefix_snoc _ _ _ hp HX.out, by simp only [List.length_append, List.length_singleton]; go_num, ⟨hKp _ _ hk3 _ _ HN.out⟩, hJ3⟩
        case measure => first | (simp [intOf]; done) | (simp [intOf]; omega)
      · gi_wp2
        refine bodyPost_ret (results_none rfl _ _ _) rfl ?_
        exact ⟨⟨_, rfl⟩, .inr ⟨_, bits_prefix_snoc _ _ _ hp HX.out, hJx3⟩⟩
    · have hge : (m : Int) - 1 - pre.length < 0 := by omega
      gi_wp2
      go_end0
      refine ⟨⟨_, rfl⟩, .inl ⟨pre, hp.eq_of_length ?_, hJ⟩⟩
      rw [H.bitsOf_length]; omega
set_option maxHeartbeats 1000000 in
theorem bits_shifts_calls (n m : Int) (w : World) : Calls Try.prog 23 #[.int .i64 n, .int .i64 m] w fun e w' => e = .returned (.func (.func 25) #[] #[.pointer (some ⟨w.heap.size + 1, 0, none⟩), .pointer (some ⟨w.heap.size, 0, none⟩)]) ∧ w' = (w.alloc (.cells #[.int .i64 n] 3)).alloc (.cells #[.int .i64 m] 3) := by
  have hmf : ∀ (fn : Fn) (first cap : Array Value) (w : World), (Instr.makeFunc fn first cap).run Try.prog w = .ok (.func fn first cap) w := fun _ _ _ _ => rfl
  go_enter Try.func23, Try.ntmps23
  go_wp2
  go_ret
  exact ⟨rfl, rfl⟩
/-- 'out = append(out, ..)', out in a box B below the row's blocks (from base on): what the walk owes behind it. -/
theorem bits_appended {W w1 : World} {n₀ base B : Nat} {t e : TypeId} {size : Nat} {v v' : Value} {k m : Nat} {xs ys : List Value} {tmp : Obj}
    (hv : Boxed W B t v) (hrow : W.ownsRow base e size v k xs) (hn₀ : n₀ ≤ W.heap.size) (hB : n₀ ≤ B) (hBb : B < base)
    (hown' : w1.ownsRow base e size v' m ys) (hgrow : (W.alloc tmp).grownBy w1 v.ownBlock) :
    Boxed w1 B t v ∧ Boxed (w1.setCell ⟨B, 0, none⟩ v') B t v' ∧ (w1.setCell ⟨B, 0, none⟩ v').ownsRow base e size v' m ys ∧ KeepsOthers W (w1.setCell ⟨B, 0, none⟩ v') ∧ Below n₀ W (w1.setCell ⟨B, 0, none⟩ v') ∧
    (∀ Nb t' u, Nb < base → Nb ≠ B → Boxed W Nb t' u → Boxed (w1.setCell ⟨B, 0, none⟩ v') Nb t' u) ∧ W.heap.size ≤ (w1.setCell ⟨B, 0, none⟩ v').heap.size := by
  have hnr : some B ≠ v.ownBlock := fun he => by have := own_base hrow B he.symm; omega
  have hnr' : some B ≠ v'.ownBlock := fun he => by have := own_base hown' B he.symm; omega
  have hv1 : Boxed w1 B t v := (hv.alloc tmp).kept hgrow hnr
  have hsz : W.heap.size ≤ w1.heap.size := Nat.le_trans (by simp) hgrow.size
  refine ⟨hv1, hv1.set v', hown'.kept (grownBy_setCell' w1 B v') (.inr hnr'.symm), ?_, ?_, ?_, Nat.le_trans hsz (by simp [World.setCell])⟩
  · refine ((KeepsOthers.alloc W tmp).trans (KeepsOthers.of_grownBy hgrow fun j o ej hj => ?_)).trans (KeepsOthers.setCell _ _ _)
    rcases (hrow.alloc tmp).2 with ⟨rfl, _⟩ | ⟨g, cap, cur, rfl, _, hgb, _⟩
    · simp [Value.ownBlock] at ej
    · obtain rfl : g = j := by simpa [Value.ownBlock] using ej
      rw [hgb] at hj; cases hj; rfl
  · refine (((Below.refl n₀ W).alloc hn₀ tmp).grown hgrow (by simp; omega) fun j ej => ?_).setCell (p := ⟨B, 0, none⟩) hB v'
    have := own_base hrow j ej
    omega
  · intro Nb t' u hNb hne h
    have h1 : Boxed w1 Nb t' u := (h.alloc tmp).kept hgrow (fun he => by have := own_base hrow Nb he.symm; omega)
    exact h1.kept (grownBy_setCell' w1 B v') (fun he => hne (by simpa using he))
/-- The same where the slice stays in its block. -/
theorem bits_appended' {W w1 : World} {n₀ base B g len cap m : Nat} {t e : TypeId} {size : Nat} {k : Nat} {xs ys : List Value} {tmp : Obj}
    (hv : Boxed W B t (.slice (some ⟨g, 0, none⟩) len cap)) (hrow : W.ownsRow base e size (.slice (some ⟨g, 0, none⟩) len cap) k xs) (hn₀ : n₀ ≤ W.heap.size) (hB : n₀ ≤ B) (hg : n₀ ≤ g) (hgB : g ≠ B)
    (hown' : w1.ownsRow base e size (.slice (some ⟨g, 0, none⟩) m cap) m ys) (hgrow : (W.alloc tmp).grownBy w1 (some g)) :
    Boxed w1 B t (.slice (some ⟨g, 0, none⟩) len cap) ∧ Boxed (w1.setCell ⟨B, 0, none⟩ (.slice (some ⟨g, 0, none⟩) m cap)) B t (.slice (some ⟨g, 0, none⟩) m cap) ∧ (w1.setCell ⟨B, 0, none⟩ (.slice (some ⟨g, 0, none⟩) m cap)).ownsRow base e size (.slice (some ⟨g, 0, none⟩) m cap) m ys ∧
    KeepsOthers W (w1.setCell ⟨B, 0, none⟩ (.slice (some ⟨g, 0, none⟩) m cap)) ∧ Below n₀ W (w1.setCell ⟨B, 0, none⟩ (.slice (some ⟨g, 0, none⟩) m cap)) ∧
    (∀ Nb t' u, Nb ≠ g → Nb ≠ B → Boxed W Nb t' u → Boxed (w1.setCell ⟨B, 0, none⟩ (.slice (some ⟨g, 0, none⟩) m cap)) Nb t' u) ∧ W.heap.size ≤ (w1.setCell ⟨B, 0, none⟩ (.slice (some ⟨g, 0, none⟩) m cap)).heap.size := by
  have hv1 : Boxed w1 B t (.slice (some ⟨g, 0, none⟩) len cap) := (hv.alloc tmp).kept hgrow (fun he => hgB (by simpa using he.symm))
  have hsz : W.heap.size ≤ w1.heap.size := Nat.le_trans (by simp) hgrow.size
  refine ⟨hv1, hv1.set _, hown'.kept (grownBy_setCell' w1 B _) (.inr (by simp [Value.ownBlock]; exact hgB)), ?_, ?_, ?_, Nat.le_trans hsz (by simp [World.setCell])⟩
  · refine ((KeepsOthers.alloc W tmp).trans (KeepsOthers.of_grownBy hgrow fun j o ej hj => ?_)).trans (KeepsOthers.setCell _ _ _)
    rcases (hrow.alloc tmp).2 with ⟨he, _⟩ | ⟨g', cap, cur, he, _, hgb, _⟩
    · cases he
    · cases he
      cases ej
      rw [hgb] at hj; cases hj; rfl
  · refine (((Below.refl n₀ W).alloc hn₀ tmp).grown hgrow (by simp; omega) fun j ej => ?_).setCell (p := ⟨B, 0, none⟩) hB _
    cases ej; exact hg
  · intro Nb t' u hNb hne h
    have h1 : Boxed w1 Nb t' u := (h.alloc tmp).kept hgrow (fun he => hNb (by simpa using he))
    exact h1.kept (grownBy_setCell' w1 B _) (fun he => hne (by simpa using he))
theorem bits_own_size (n : Nat) : Own (fun (_ : List Int) W => n ≤ W.heap.size) := fun _ _ _ _ hs hg _ => Nat.le_trans hs hg.size
/-- The iterator's contract: all of a number's bits, or, where a round has said 'no more', a beginning of them. -/
theorem bits_stops (d Nb Mb : Nat) (n : Int) (m : Nat) (hm : m ≤ 62) (Kp : World → World → Prop) (hKp : ∀ A B, Kp A B → ∀ t v, Boxed A Nb t v → Boxed B Nb t v) (w : World) (hN : Boxed w Nb 3 (.int .i64 n)) (hM : Boxed w Mb 3 (.int .i64 m)) :
    SeqStopsK Fence.wide d Try.prog 25 #[.pointer (some ⟨Mb, 0, none⟩), .pointer (some ⟨Nb, 0, none⟩)] (fun x : Int => #[Value.int .i64 x]) Kp (fun ys => ys = H.bitsOf n m) (fun pre => pre <+: H.bitsOf n m) m w := fun l J Jx W hW _ _ hY h0 =>
  bits_shifts1 d l Nb Mb n m hm Kp hKp J Jx hY W ((hW.block _ hN.lt).trans hN) ((hW.block _ hM.lt).trans hM) h0
end

/-! ### bits_Put: function 11 -/
def bits_Put.f (a0 a1 : Int) : Option (List Int × Bool) := some (H.putB a0 a1)
section
attribute [local go_sem] Oper.semAt_some
theorem bits_Put_no (a0 a1 : Int) (w : World) (h : a1 < 0 ∨ 32 < a1 ∨ (0 ≤ a1 ∧ a1 ≤ 32 ∧ a0 / 2 ^ a1.toNat ≠ 0)) :
    Calls Try.prog 11 #[.int .i64 a0, .int .i64 a1] w fun e w' => e = .returned (.tuple #[.slice none 0 0, .bool false]) ∧ Below w.heap.size w w' := by
  rcases h with h | h | ⟨h1, h2, h3⟩
  · have hb : decide (a1 < 0) = true := decide_eq_true h
    go_enter Try.func11, Try.ntmps11
    go_wp2
    go_ret2
    exact ⟨rfl, Below.refl _ _⟩
  · have hb : decide (a1 < 0) = false := decide_eq_false (by omega)
    have hc : decide (32 < a1) = true := decide_eq_true h
    go_enter Try.func11, Try.ntmps11
    go_wp2
    go_ret2
    exact ⟨rfl, Below.refl _ _⟩
  · obtain ⟨m, rfl⟩ := Int.eq_ofNat_of_zero_le h1
    have hb : decide ((m : Int) < 0) = false := decide_eq_false (by omega)
    have hc : decide (32 < (m : Int)) = false := decide_eq_false (by omega)
    rw [Int.toNat_natCast] at h3
    have hd : (a0 / 2 ^ m != 0) = true := bne_iff_ne.mpr h3
    clear h3
    go_enter Try.func11, Try.ntmps11
    go_wp2
    go_ret2
    exact ⟨rfl, Below.refl _ _⟩
set_option maxRecDepth 100000 in
set_option maxHeartbeats 2000000 in
theorem bits_Put_yes (a0 : Int) (m : Nat) (w : World) (h2 : m ≤ 32) (h3 : a0 / 2 ^ m = 0) :
    Calls Try.prog 11 #[.int .i64 a0, .int .i64 m] w fun e w' => ∃ v0_ : Value, e = .returned (.tuple #[v0_, .bool true]) ∧ Kd.R (Kd.int .i64) 3 w' w.heap.size (fun _ => True) v0_ (H.bitsOf a0 m) ∧ Below w.heap.size w w' := by
  have hb : decide ((m : Int) < 0) = false := decide_eq_false (by omega)
  have hc : decide (32 < (m : Int)) = false := decide_eq_false (by omega)
  have hd : (a0 / 2 ^ m != 0) = false := bne_eq_false_iff_eq.mpr h3
  have H3 := Aside0.mk h3
  clear h3
  obtain ⟨i0, hi, hz0, hz1, hz2⟩ := info_parts info3
  have hf1 : Fence.wide.fn 23 := trivial
  have hf2 : Fence.wide.fn 25 := trivial
  refine (callsIn_wide (n := 5)).1 ?_
  refine callsIn_of_wp_marks Try.func11 rfl trivial ?_ rfl
  simp only [Try.ntmps11, List.size_toArray, List.length_cons, List.length_nil, Nat.reduceAdd, Nat.reduceSub, Array.replicate_succ, Array.replicate_zero, List.push_toArray, List.append_toArray, List.nil_append, List.cons_append]
  gi_wp2_with (gi_at_call 23; refine (callsIn_wide.2 (bits_shifts_calls _ _ _)).mono ?_; rintro e w' ⟨rfl, rfl⟩)
  have bO := Boxed.new w 22 (.slice none 0 0)
  have bN := Boxed.new (w.alloc (.cells #[.slice none 0 0] 22)) 3 (.int .i64 a0)
  have bM := Boxed.new ((w.alloc (.cells #[.slice none 0 0] 22)).alloc (.cells #[.int .i64 a0] 3)) 3 (.int .i64 m)
  simp only [World.size_alloc] at bN bM
  have hB0 : Below w.heap.size w (((w.alloc (.cells #[.slice none 0 0] 22)).alloc (.cells #[.int .i64 a0] 3)).alloc (.cells #[.int .i64 m] 3)) := (((Below.refl _ w).alloc (Nat.le_refl _) _).alloc (by simp) _).alloc (by simp; omega) _
  refine wpIn_rangeFunc_ownG rfl (by omega) (gf := 25) (lb := #[.pointer (some ⟨w.heap.size + 1 + 1, 0, none⟩), .pointer (some ⟨w.heap.size + 1, 0, none⟩)]) rfl trivial (enters_of Try.func25 (by kernel_rfl) rfl)
    (bits_stops _ (w.heap.size + 1) (w.heap.size + 1 + 1) a0 m (by omega) (fun A B => ∀ t v, Boxed A (w.heap.size + 1) t v → Boxed B (w.heap.size + 1) t v) (fun A B h => h) _ (bN.alloc _) bM)
    (fun h k t v hv => k t v (h t v hv)) (fun W l o o' hl ho hc _ t v hv => hv.kept (grownBy_putObj' W l o') (fun he => by cases he; rw [show W.heap[_]? = _ from hv] at ho; cases ho; cases hc)) (Below.refl _ _) (fun _ => rfl)
    (fun pre W => (∃ v, Boxed W w.heap.size 22 v ∧ W.ownsRow (w.heap.size + 3) 3 1 v pre.length (encs (Value.int .i64) pre) ∧ True) ∧ w.heap.size + 3 ≤ W.heap.size ∧ Below w.heap.size w W)
    (fun _ _ _ => False)
    (OwnFrom.and (Own.from (holdsRow_own (w.heap.size + 3) w.heap.size 22 3 1 (fun pre => pre.length) (fun pre => encs (Value.int .i64) pre) (fun _ _ => True)) _) (OwnFrom.and (Own.from (bits_own_size (w.heap.size + 3)) _) (ownFrom_below (Nat.le_refl _) (by simp; omega))))
    (fun _ _ _ _ _ hs _ _ => hs)
    ⟨⟨_, (bO.alloc _).alloc _, World.ownsRow_nil _ _ _ _, trivial⟩, by simp, hB0⟩
    (fun x => { tmps := #[.int .i64 a0, .int .i64 m, undef, undef, .slice none 0 0, .bool false, .pointer (some ⟨w.heap.size, 0, none⟩), .int .i64 x, .int .i64 m, .bool false, .bool false, .int .i64 m, .bool false, .bool false, .bool false, .int .i64 a0, .int .i64 m, .int .i64 (a0 / 2 ^ m), .bool false, .bool false, .int .i64 a0, .int .i64 m, .func (.func 25) #[] #[.pointer (some ⟨w.heap.size + 1 + 1, 0, none⟩), .pointer (some ⟨w.heap.size + 1, 0, none⟩)], .int .i64 x, undef, undef, undef, undef, undef], defers := [] }) ?assign ?body ?done ?stop
  case assign =>
    intro l x W K hK
    gi_wp2
    exact hK
  case body =>
    rintro l pre x W ⟨⟨v, hv, hrow, _⟩, hW3, hB⟩ hlt
    have hc := hv.cell
    have s1 : pre.length + 1 ≤ maxLen := by simp only [maxLen]; omega
    have s2 : (pre.length + 1) * 8 ≤ 140737488355328 := by omega
    have s3 : w.heap.size + 3 ≤ (W.alloc (.cells #[.int .i64 x] 3)).heap.size := by simp; omega
    gi_wp2_with (gi_at_builtin; refine wpListIn_append_own _ rfl _ _ 22 rfl (w.heap.size + 3) 3 i0 (.int .i64 0) 1 8 Try.underlying22 hi hz0 hz1 hz2 rfl (by decide) _ _ _ rfl (hrow.alloc _) ⟨W.heap.size, 0, none⟩ 1 1 [.int .i64 x] rfl rfl (cell_one_new _ _ _) (by simp [Value.oneCell']) s1 s2 s3 ?_; intro v' w1 hown' hgrow _; obtain ⟨g', cap', rfl⟩ := ownsRow_succ hown'; obtain ⟨hv1, hv2, hr2, hk2, hb2, hx2, hz2⟩ := bits_appended hv hrow hB.size (Nat.le_refl _) (by omega) hown' hgrow; have hc1 := hv1.cell; have hf1 := hv1.frozen)
    exact ⟨hk2.from _, fun t u hu => hx2 _ t u (by omega) (by omega) hu, ⟨_, hv2, by simpa [encs] using hr2, trivial⟩, Nat.le_trans hW3 hz2, hB.trans hb2⟩
  case done =>
    rintro D ys W hD rfl ⟨⟨v, hv, hrow, _⟩, hW3, hB⟩ hK
    have hc := hv.cell
    gi_wp2
    refine ⟨by simp, .inl ⟨_, _, rfl, run_takeDeferred hK, ?_⟩⟩
    exact ⟨_, results_tmp2 rfl _ _ _, v, rfl, Kd.R_of_own (own_weaken (ownsRow_putObj hrow _ hK rfl) (by omega)) (fun _ _ => trivial), hB.trans (belowK_b (w := w) (Nat.le_refl _) W D _ _ (by simp at hD; omega) hK rfl rfl)⟩
  case stop =>
    rintro D c pre W _ _ h _
    exact h.elim
end
theorem bits_Put.calls (a0 a1 : Int) (r1 : List Int) (r2 : Bool) (w : World) (h : bits_Put.f a0 a1 = some (r1, r2)) :
    Calls Try.prog 11 #[.int .i64 a0, .int .i64 a1] w fun e w' => ∃ v0_ : Value, e = .returned (.tuple #[v0_, .bool r2]) ∧ Kd.R (Kd.int .i64) 3 w' w.heap.size (fun _ => True) v0_ r1 ∧ Below w.heap.size w w' := by
  have h' : H.putB a0 a1 = (r1, r2) := Option.some.inj h
  have no : ∀ (_ : a1 < 0 ∨ 32 < a1 ∨ (0 ≤ a1 ∧ a1 ≤ 32 ∧ a0 / 2 ^ a1.toNat ≠ 0)), ([], false) = (r1, r2) → Calls Try.prog 11 #[.int .i64 a0, .int .i64 a1] w fun e w' => ∃ v0_ : Value, e = .returned (.tuple #[v0_, .bool r2]) ∧ Kd.R (Kd.int .i64) 3 w' w.heap.size (fun _ => True) v0_ r1 ∧ Below w.heap.size w w' := by
    intro hn he
    injection he with e1 e2
    subst e1 e2
    exact (bits_Put_no a0 a1 w hn).mono fun e w' ⟨h1, h2⟩ => ⟨_, h1, Kd.R_nil _ _ _ _ _, h2⟩
  unfold H.putB at h'
  by_cases c1 : a1 < 0
  · rw [if_pos c1] at h'; exact no (.inl c1) h'
  rw [if_neg c1] at h'
  by_cases c2 : 32 < a1
  · rw [if_pos c2] at h'; exact no (.inr (.inl c2)) h'
  rw [if_neg c2] at h'
  by_cases c3 : a0 / 2 ^ a1.toNat = 0
  · rw [if_pos c3] at h'
    injection h' with e1 e2
    subst e1 e2
    obtain ⟨m, rfl⟩ := Int.eq_ofNat_of_zero_le (show 0 ≤ a1 by omega)
    exact bits_Put_yes a0 m w (by omega) c3
  · rw [if_neg c3] at h'
    exact no (.inr (.inr ⟨by omega, by omega, c3⟩)) h'

/-! ### bits_Right: function 17 -/
def bits_Right.l0 : Nat → List Int → Int → Int → Option (Bool)
  | 0, _, _, _ => none
  | k + 1, x5, x6, x7 => if x7 < x6 then (if 0 ≤ x7 then (if x7 < (x5.length : Int) then (if (Go.bits .andNot .i64 (rd x5 x7) 1) = 0 then (bits_Right.l0 k x5 x6 (wrap64 (x7 + 1))) else (some false)) else (none)) else (none)) else (some true)
def bits_Right.f (k : Nat) (l0 : List Int) : Option (Bool) := bits_Right.l0 k l0 (l0.length : Int) 0
theorem bits_Right.mono_l : ∀ k, (∀ y0 y1 y2, LeO (bits_Right.l0 k y0 y1 y2) (bits_Right.l0 (k + 1) y0 y1 y2))
  | 0 => fun _ _ _ r h => by simp [bits_Right.l0] at h
  | k + 1 => by
    have ih0 := bits_Right.mono_l k
    · intro y0 y1 y2
      unfold bits_Right.l0
      repeat' first
      | (with_reducible exact ih0 _ _ _)
      | (with_reducible exact LeO.refl _)
      | (with_reducible exact LeO.none _)
      | (with_reducible refine LeO.ite ?_ ?_)
      | (with_reducible refine LeO.bind ?_ (fun _ => ?_))
      | exact ih0 _ _ _
      | exact LeO.none _
      | refine LeO.ite ?_ ?_
      | refine LeO.bind ?_ (fun _ => ?_)
theorem bits_Right.mono : ∀ a0 k, LeO (bits_Right.f k a0) (bits_Right.f (k + 1) a0) := by
  intro a0 k
  have ih0 := bits_Right.mono_l k
  unfold bits_Right.f
  repeat' first
      | (with_reducible exact ih0 _ _ _)
      | (with_reducible exact LeO.refl _)
      | (with_reducible exact LeO.none _)
      | (with_reducible refine LeO.ite ?_ ?_)
      | (with_reducible refine LeO.bind ?_ (fun _ => ?_))
      | exact ih0 _ _ _
      | exact LeO.none _
      | refine LeO.ite ?_ ?_
      | refine LeO.bind ?_ (fun _ => ?_)
set_option maxHeartbeats 8000000 in
set_option maxRecDepth 100000 in
theorem bits_Right.calls (k : Nat) (A0 : Option Addr) (c0 : Nat) (l0 : List Int) (r : Bool) (w : World) (hr0 : Kd.C (Kd.int .i64) w A0 l0.length l0) (hc0 : l0.length ≤ c0) (h : bits_Right.f k l0 = some r) :
    Calls Try.prog 17 #[.slice A0 l0.length c0] w fun e w' => e = .returned (.bool r) ∧ Drawn0 w w' := by
  have HR0 := Aside0.mk hr0
  have HC0 := Aside0.mk hc0
  clear hr0 hc0
  have H : (bits_Right.l0 k l0 (l0.length : Int) 0) = some r := h
  clear h
  have H' := Aside0.mk H
  clear H
  go_enter Try.func17, Try.ntmps17
  go_wp2
  go_loopg [7] k (fun kq v7 w' => ∃ (x7_1 : Int), v7 = .int .i64 x7_1 ∧ Aside0 (bits_Right.l0 kq l0 (l0.length : Int) x7_1 = some r) ∧ Aside0 (kq ≤ k) ∧ Drawn0 w w')
  case atStart => exact ⟨(0), (by first | rfl | (simp; done) | (simp [*]; done)), H', ⟨Nat.le_refl _⟩, by repeat (first | exact Drawn0.refl _ | apply Drawn0.step)⟩
  case round =>
    clear H'
    try clear c1
    obtain ⟨x7_1, rfl, HA, HK1, ⟨m1, rfl⟩⟩ := hrel
    cases gk with
    | zero => exact absurd HA.out (by simp [bits_Right.l0])
    | succ k1 =>
      have H := HA.out
      clear HA
      simp only [bits_Right.l0] at H
      by_cases c2 : x7_1 < (l0.length : Int)
      · rw [if_pos c2] at H
        have c2b0 : decide (x7_1 < (l0.length : Int)) = true := decide_eq_true c2
        clear c2
        by_cases c3 : 0 ≤ x7_1
        · rw [if_pos c3] at H
          have c3b0 : decide (0 ≤ x7_1) = true := decide_eq_true c3
          clear c3
          by_cases c4 : x7_1 < (l0.length : Int)
          · rw [if_pos c4] at H
            have c4b0 : decide (x7_1 < (l0.length : Int)) = true := decide_eq_true c4
            clear c4
            by_cases c5 : (Go.bits .andNot .i64 (rd l0 x7_1) 1) = 0
            · rw [if_pos c5] at H
              have c5b0 : ((Go.bits .andNot .i64 (rd l0 x7_1) 1) == 0) = true := beq_iff_eq.mpr c5
              have c5b1 : ((Go.bits .andNot .i64 (rd l0 x7_1) 1) != 0) = false := bne_eq_false_iff_eq.mpr c5
              clear c5
              have H' := Aside0.mk H
              clear H
              have p101 : 0 ≤ (x7_1 : Int) := of_decide_eq_true (by first | (with_reducible assumption) | assumption)
              have q101 : x7_1 < (l0.length : Int) := of_decide_eq_true (by first | (with_reducible assumption) | assumption)
              obtain ⟨ad101, e101, hx101_0⟩ := Kd.at_int HR0.out x7_1 p101 q101
              cases e101
              replace p101 := eq_true p101
              replace q101 := eq_true q101
              go_wp2
              go_roundg k1
              case measure => have := HK1.out; omega
              case rel => exact ⟨(wrap64 (x7_1 + 1)), (by first | rfl | (simp; done) | (simp [*]; done)), H', ⟨by have := HK1.out; omega⟩, by repeat (first | exact Drawn0.refl _ | apply Drawn0.step)⟩
            · rw [if_neg c5] at H
              have c5b0 : ((Go.bits .andNot .i64 (rd l0 x7_1) 1) == 0) = false := beq_eq_false_iff_ne.mpr c5
              have c5b1 : ((Go.bits .andNot .i64 (rd l0 x7_1) 1) != 0) = true := bne_iff_ne.mpr c5
              obtain rfl := Option.some.inj H
              have p101 : 0 ≤ (x7_1 : Int) := of_decide_eq_true (by first | (with_reducible assumption) | assumption)
              have q101 : x7_1 < (l0.length : Int) := of_decide_eq_true (by first | (with_reducible assumption) | assumption)
              obtain ⟨ad101, e101, hx101_0⟩ := Kd.at_int HR0.out x7_1 p101 q101
              cases e101
              replace p101 := eq_true p101
              replace q101 := eq_true q101
              go_wp2
              go_ret
              exact ⟨by first | rfl | (simp; done) | (simp [*]; done), by repeat (first | exact Drawn0.refl _ | apply Drawn0.step)⟩
          · rw [if_neg c4] at H
            exact absurd H (by simp)
        · rw [if_neg c3] at H
          exact absurd H (by simp)
      · rw [if_neg c2] at H
        have c2b0 : decide (x7_1 < (l0.length : Int)) = false := decide_eq_false c2
        clear c2
        obtain rfl := Option.some.inj H
        go_wp2
        go_ret
        exact ⟨by first | rfl | (simp; done) | (simp [*]; done), by repeat (first | exact Drawn0.refl _ | apply Drawn0.step)⟩

/-! ### bits_Get: function 13 -/
mutual
def bits_Get.j0 : Nat → List Int → Bool → Option (Int × Bool)
  | 0, _, _ => none
  | k + 1, x0, x14 => if x14 = true then (some (0, false)) else (bits_Get.l0 k 0 x0 (x0.length : Int) 0)
def bits_Get.l0 : Nat → Int → List Int → Int → Int → Option (Int × Bool)
  | 0, _, _, _, _ => none
  | k + 1, x4, x15, x16, x17 => if x17 < x16 then (if 0 ≤ x17 then (if x17 < (x15.length : Int) then (bits_Get.l0 k (Go.bits .or .i64 (wrap64 (x4 * 2)) (rd x15 x17)) x15 x16 (wrap64 (x17 + 1))) else (none)) else (none)) else (some (x4, true))
end
def bits_Get.f (k : Nat) (l0 : List Int) : Option (Int × Bool) := if (l0.length : Int) > 32 then (bits_Get.j0 k l0 true) else ((bits_Right.f k l0).bind fun t102 => (bits_Get.j0 k l0 (!t102)))
theorem bits_Get.mono_l : ∀ k, (∀ y0 y1, LeO (bits_Get.j0 k y0 y1) (bits_Get.j0 (k + 1) y0 y1)) ∧ (∀ y0 y1 y2 y3, LeO (bits_Get.l0 k y0 y1 y2 y3) (bits_Get.l0 (k + 1) y0 y1 y2 y3))
  | 0 => ⟨fun _ _ r h => by simp [bits_Get.j0] at h, fun _ _ _ _ r h => by simp [bits_Get.l0] at h⟩
  | k + 1 => by
    obtain ⟨ih0, ih1⟩ := bits_Get.mono_l k
    refine ⟨?_, ?_⟩
    · intro y0 y1
      unfold bits_Get.j0
      repeat' first
      | (with_reducible exact ih0 _ _)
      | (with_reducible exact ih1 _ _ _ _)
      | (with_reducible exact bits_Right.mono _ _)
      | (with_reducible exact LeO.refl _)
      | (with_reducible exact LeO.none _)
      | (with_reducible refine LeO.ite ?_ ?_)
      | (with_reducible refine LeO.bind ?_ (fun _ => ?_))
      | exact ih0 _ _
      | exact ih1 _ _ _ _
      | exact bits_Right.mono _ _
      | exact LeO.none _
      | refine LeO.ite ?_ ?_
      | refine LeO.bind ?_ (fun _ => ?_)
    · intro y0 y1 y2 y3
      unfold bits_Get.l0
      repeat' first
      | (with_reducible exact ih0 _ _)
      | (with_reducible exact ih1 _ _ _ _)
      | (with_reducible exact bits_Right.mono _ _)
      | (with_reducible exact LeO.refl _)
      | (with_reducible exact LeO.none _)
      | (with_reducible refine LeO.ite ?_ ?_)
      | (with_reducible refine LeO.bind ?_ (fun _ => ?_))
      | exact ih0 _ _
      | exact ih1 _ _ _ _
      | exact bits_Right.mono _ _
      | exact LeO.none _
      | refine LeO.ite ?_ ?_
      | refine LeO.bind ?_ (fun _ => ?_)
theorem bits_Get.mono : ∀ a0 k, LeO (bits_Get.f k a0) (bits_Get.f (k + 1) a0) := by
  intro a0 k
  obtain ⟨ih0, ih1⟩ := bits_Get.mono_l k
  unfold bits_Get.f
  repeat' first
      | (with_reducible exact ih0 _ _)
      | (with_reducible exact ih1 _ _ _ _)
      | (with_reducible exact bits_Right.mono _ _)
      | (with_reducible exact LeO.refl _)
      | (with_reducible exact LeO.none _)
      | (with_reducible refine LeO.ite ?_ ?_)
      | (with_reducible refine LeO.bind ?_ (fun _ => ?_))
      | exact ih0 _ _
      | exact ih1 _ _ _ _
      | exact bits_Right.mono _ _
      | exact LeO.none _
      | refine LeO.ite ?_ ?_
      | refine LeO.bind ?_ (fun _ => ?_)
set_option maxHeartbeats 8000000 in
set_option maxRecDepth 100000 in
theorem bits_Get.calls (k : Nat) (A0 : Option Addr) (c0 : Nat) (l0 : List Int) (r1 : Int) (r2 : Bool) (w : World) (hr0 : Kd.C (Kd.int .i64) w A0 l0.length l0) (hc0 : l0.length ≤ c0) (h : bits_Get.f k l0 = some (r1, r2)) :
    Calls Try.prog 13 #[.slice A0 l0.length c0] w fun e w' => e = .returned (.tuple #[.int .i64 r1, .bool r2]) ∧ Drawn0 w w' := by
  have HR0 := Aside0.mk hr0
  have HC0 := Aside0.mk hc0
  clear hr0 hc0
  have H : (if (l0.length : Int) > 32 then (bits_Get.j0 k l0 true) else ((bits_Right.f k l0).bind fun t102 => (bits_Get.j0 k l0 (!t102)))) = some (r1, r2) := h
  clear h
  have HC2 := Aside0.mk H
  clear H
  go_enter Try.func13, Try.ntmps13
  go_upto_region 1 with (fail)
  go_cut [14] (fun v14 wc => ∃ (kq : Nat) (x14_1 : Bool), v14 = .bool x14_1 ∧ Aside0 (bits_Get.j0 kq l0 x14_1 = some (r1, r2)) ∧ Aside0 (kq ≤ k) ∧ Drawn0 w wc)
  case first =>
    have H := HC2.out
    clear HC2
    by_cases c3 : (l0.length : Int) > 32
    · rw [if_pos c3] at H
      have c3b0 : decide (32 < (l0.length : Int)) = true := decide_eq_true c3
      have c3b1 : decide (32 < l0.length) = true := decide_eq_true (by omega)
      clear c3
      (first | rw [c3b0] | (simp only [i64_w, i32_w]; rw [c3b0]) | skip)
      have H' := Aside0.mk H
      clear H
      go_wp2
      go_meet
      case rel => exact ⟨_, (true), (by first | rfl | (simp; done) | (simp [*]; done)), H', ⟨by first | omega | exact Nat.le_refl _⟩, by repeat (first | exact Drawn0.refl _ | apply Drawn0.step)⟩
    · rw [if_neg c3] at H
      have c3b0 : decide (32 < (l0.length : Int)) = false := decide_eq_false c3
      have c3b1 : decide (32 < l0.length) = false := decide_eq_false (by omega)
      clear c3
      (first | rw [c3b0] | (simp only [i64_w, i32_w]; rw [c3b0]) | skip)
      replace H := Option.bind_eq_some_iff.mp H
      obtain ⟨t102, A40, H⟩ := H
      replace H : (bits_Get.j0 k l0 (!t102)) = some (r1, r2) := H
      have A4 := Aside0.mk A40
      clear A40
      have H' := Aside0.mk H
      clear H
      go_wp2_with (first | (go_at_call 17; (with_reducible refine (bits_Right.calls k _ _ l0 t102 _ ?side1 ?side2 A4.out).mono ?_); (case side1 => repeat (first | exact HR0.out | (with_reducible refine Kd.C_alloc ?_ _) | (with_reducible refine Kd.C_drewN ?_ _) | (with_reducible refine Kd.C_drew ?_))); (case side2 => exact HC0.out); rintro e w' ⟨rfl, ⟨nd, rfl⟩⟩))
      go_meet
      case rel => exact ⟨_, (!t102), (by first | rfl | (simp; done) | (simp [*]; done)), H', ⟨by first | omega | exact Nat.le_refl _⟩, by repeat (first | exact Drawn0.refl _ | apply Drawn0.step)⟩
  case rest =>
    clear HC2
    try clear c1
    try clear p2
    try clear c3
    try clear c3b0
    try clear c3b1
    obtain ⟨kq, x14_1, rfl, HA, HJ1, ⟨mc1, rfl⟩⟩ := hcut
    cases kq with
    | zero => exact absurd HA.out (by simp [bits_Get.j0])
    | succ kj1 =>
      have H := HA.out
      clear HA
      simp only [bits_Get.j0] at H
      by_cases c5 : x14_1 = true
      · subst c5
        have H1 : (some (0, false)) = some (r1, r2) := by rw [if_pos rfl] at H; exact H
        clear H
        have H := H1
        clear H1
        simp only [Option.some.injEq, Prod.mk.injEq] at H
        obtain ⟨rfl, rfl⟩ := H
        go_wp2
        go_ret2
        exact ⟨by first | rfl | (simp; done) | (simp [*]; done), by repeat (first | exact Drawn0.refl _ | apply Drawn0.step)⟩
      · replace c5 := Bool.eq_false_iff.mpr c5
        subst c5
        have H1 : (bits_Get.l0 kj1 0 l0 (l0.length : Int) 0) = some (r1, r2) := by rw [if_neg (show ¬ (false = true) by decide)] at H; exact H
        clear H
        have H := H1
        clear H1
        have H' := Aside0.mk H
        clear H
        go_wp2
        go_loopg [4, 17] kj1 (fun kq v4 v17 w' => ∃ (x4_2 : Int) (x17_2 : Int), v4 = .int .i64 x4_2 ∧ v17 = .int .i64 x17_2 ∧ Aside0 (bits_Get.l0 kq x4_2 l0 (l0.length : Int) x17_2 = some (r1, r2)) ∧ Aside0 (kq ≤ kj1) ∧ Drawn0 w w')
        case atStart => exact ⟨(0), (0), (by first | rfl | (simp; done) | (simp [*]; done)), (by first | rfl | (simp; done) | (simp [*]; done)), H', ⟨Nat.le_refl _⟩, by repeat (first | exact Drawn0.refl _ | apply Drawn0.step)⟩
        case round =>
          clear H'
          try clear c1
          try clear p2
          try clear c3
          try clear c3b0
          try clear c3b1
          try clear c5
          try clear p2
          obtain ⟨x4_2, x17_2, rfl, rfl, HA, HK2, ⟨m2, rfl⟩⟩ := hrel
          cases gk with
          | zero => exact absurd HA.out (by simp [bits_Get.l0])
          | succ k2 =>
            have H := HA.out
            clear HA
            simp only [bits_Get.l0] at H
            by_cases c6 : x17_2 < (l0.length : Int)
            · rw [if_pos c6] at H
              have c6b0 : decide (x17_2 < (l0.length : Int)) = true := decide_eq_true c6
              clear c6
              by_cases c7 : 0 ≤ x17_2
              · rw [if_pos c7] at H
                have c7b0 : decide (0 ≤ x17_2) = true := decide_eq_true c7
                clear c7
                by_cases c8 : x17_2 < (l0.length : Int)
                · rw [if_pos c8] at H
                  have c8b0 : decide (x17_2 < (l0.length : Int)) = true := decide_eq_true c8
                  clear c8
                  have H' := Aside0.mk H
                  clear H
                  have p103 : 0 ≤ (x17_2 : Int) := of_decide_eq_true (by first | (with_reducible assumption) | assumption)
                  have q103 : x17_2 < (l0.length : Int) := of_decide_eq_true (by first | (with_reducible assumption) | assumption)
                  obtain ⟨ad103, e103, hx103_0⟩ := Kd.at_int HR0.out x17_2 p103 q103
                  cases e103
                  replace p103 := eq_true p103
                  replace q103 := eq_true q103
                  go_wp2
                  go_roundg k2
                  case measure => have := HJ1.out; have := HK2.out; omega
                  case rel => exact ⟨(Go.bits .or .i64 (wrap64 (x4_2 * 2)) (rd l0 x17_2)), (wrap64 (x17_2 + 1)), (by first | rfl | (simp; done) | (simp [*]; done)), (by first | rfl | (simp; done) | (simp [*]; done)), H', ⟨by have := HJ1.out; have := HK2.out; omega⟩, by repeat (first | exact Drawn0.refl _ | apply Drawn0.step)⟩
                · rw [if_neg c8] at H
                  exact absurd H (by simp)
              · rw [if_neg c7] at H
                exact absurd H (by simp)
            · rw [if_neg c6] at H
              have c6b0 : decide (x17_2 < (l0.length : Int)) = false := decide_eq_false c6
              clear c6
              simp only [Option.some.injEq, Prod.mk.injEq] at H
              obtain ⟨rfl, rfl⟩ := H
              go_wp2
              go_ret2
              exact ⟨by first | rfl | (simp; done) | (simp [*]; done), by repeat (first | exact Drawn0.refl _ | apply Drawn0.step)⟩

end Go.Proofs.Ytcakokhhpihmlaa.Px
