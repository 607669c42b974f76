-- Written by myprint.py, a program of this session's, over the kit's print.py; not a text of print.sh's own.
import Derived.Test.YtechlakahpkdpaaPx0
namespace Go.Proofs.Ytechlakahpkdpaa.Px
open Go.RowKit Go.Proofs.YtechlakahpkdpaaW.PrintWords Go.Proofs.YtechlakahpkdpaaW.PrintLast Go.Proofs.YtechlakahpkdpaaW.PrintMore
attribute [local go_sem] max2_int min2_int max_two min_two max_three min_three max_four min_four   -- for this text's walks alone
set_option linter.unusedVariables false
set_option linter.unusedSimpArgs false

/-! ### bits_shifts: helper -/
theorem bits_prefix_snoc (xs pre : List Int) (x : Int) (h : pre <+: xs) (hx : xs[pre.length]? = some x) : (pre ++ [x]) <+: xs := by
 obtain ⟨r, rfl⟩ := h
 cases r with
 | nil => simp at hx
 | cons y r =>
  have : y = x := by simpa using hx
  subst this
  exact ⟨r, by simp⟩
section
attribute [local go_sem] Oper.semAt_some
set_option maxRecDepth 100000 in
set_option maxHeartbeats 1000000 in
theorem bits_shifts1 (d l Nb Mb : Nat) (n : Int) (m : Nat) (hm : m ≤ 62) (Kp : World → World → Prop) (hKp : ∀ A B, Kp A B → ∀ t v, Boxed A Nb t v → Boxed B Nb t v) (J Jx : List Int → World → Prop)
  (hY : ∀ pre x W, J pre W → pre.length < m → YieldAt Fence.wide (d - 1) Try.prog l #[.int .i64 x] W fun e W' =>
   (e = .returned (.bool true) ∧ J (pre ++ [x]) W' ∧ Kp W W') ∨ (e = .returned (.bool false) ∧ Jx (pre ++ [x]) W'))
  (W : World) (hN : Boxed W Nb 3 (.int .i64 n)) (hM : Boxed W Mb 3 (.int .i64 m)) (h0 : J [] W) :
  CallsIn Fence.wide d Try.prog 38 #[.func (.yield l) #[] #[], .pointer (some ⟨Mb, 0, none⟩), .pointer (some ⟨Nb, 0, none⟩)] W fun e W' => (∃ v, e = .returned v) ∧
   ((∃ ys, ys = H.bitsOf n m ∧ J ys W') ∨ (∃ pre, pre <+: H.bitsOf n m ∧ Jx pre W')) := by
 have hcM := hM.cell
 refine callsIn_of_wp Try.func38 rfl trivial ?_ rfl
 simp only [Try.ntmps38, List.size_toArray, List.length_cons, List.length_nil, Nat.reduceAdd, Nat.reduceSub, Array.replicate_succ, Array.replicate_zero, List.push_toArray, List.append_toArray, List.nil_append, List.cons_append]
 gi_wp2
 gi_loopw [4] (fun v wr => ∃ (pre : List Int), pre <+: H.bitsOf n m ∧ v = .int .i64 ((m : Int) - 1 - pre.length) ∧ Aside0 (Boxed wr Nb 3 (.int .i64 n)) ∧ J pre wr)
  (fun v wr => (intOf v + 1).toNat)
 case atStart => exact ⟨[], List.nil_prefix, by simp, ⟨hN⟩, h0⟩
 case round =>
  obtain ⟨pre, hp, rfl, HN, hJ⟩ := hrel
  have hlen := hp.length_le
  rw [H.bitsOf_length] at hlen
  have hcN := HN.out.cell
  by_cases hlt : pre.length < m
  ·have hb0 : 0 ≤ (m : Int) - 1 - pre.length := by omega
   have hb1 : (m : Int) - 1 - pre.length ≤ 62 := by omega
   have HE := Aside0.mk (show ((m : Int) - 1 - (pre.length : Int)) = ((m - 1 - pre.length : Nat) : Int) by omega)
   have hx := H.bitsOf_get n m pre.length hlt
   have HX := Aside0.mk hx
   clear hx
   obtain ⟨fn, tmps, assign, body, hy, hR⟩ := hY pre (n / 2 ^ (m - 1 - pre.length) % 2) wr hJ hlt
   rw [HE.out]
   gi_wp2_with fail
   rw [H.and_one, hy, Oper.uponIn_round]
   refine ⟨fun h => by simp [Fence.wide] at h, hR.mono ?_⟩
   rintro e W3 (⟨rfl, hJ3, hk3⟩ | ⟨rfl, hJx3⟩)
   ·gi_wp2
    go_roundw
    case rel => exact ⟨pre ++ [n / 2 ^ (m - 1 - pre.length) % 2], bits_prefix_snoc _ _ _ hp HX.out, by simp only [List.length_append, List.length_singleton]; go_num, ⟨hKp _ _ hk3 _ _ HN.out⟩, hJ3⟩
    case measure => first | (simp [intOf]; done) | (simp [intOf]; omega)
   ·gi_wp2
    refine bodyPost_ret (results_none rfl _ _ _) rfl ?_
    exact ⟨⟨_, rfl⟩, .inr ⟨_, bits_prefix_snoc _ _ _ hp HX.out, hJx3⟩⟩
  ·have hge : (m : Int) - 1 - pre.length < 0 := by omega
   gi_wp2
   go_end0
   refine ⟨⟨_, rfl⟩, .inl ⟨pre, hp.eq_of_length ?_, hJ⟩⟩
   rw [H.bitsOf_length]; omega
set_option maxHeartbeats 1000000 in
theorem bits_shifts_calls (n m : Int) (w : World) : Calls Try.prog 32 #[.int .i64 n, .int .i64 m] w fun e w' => e = .returned (.func (.func 38) #[] #[.pointer (some ⟨w.heap.size + 1, 0, none⟩), .pointer (some ⟨w.heap.size, 0, none⟩)]) ∧ w' = (w.alloc (.cells #[.int .i64 n] 3)).alloc (.cells #[.int .i64 m] 3) := by
 have hmf : ∀ (fn : Fn) (first cap : Array Value) (w : World), (Instr.makeFunc fn first cap).run Try.prog w = .ok (.func fn first cap) w := fun _ _ _ _ => rfl
 go_enter Try.func32, Try.ntmps32
 go_wp2
 go_ret
 exact ⟨rfl, rfl⟩
/-- 'out = append(out, ..)', out in a box B below the row's blocks (from base on): what the walk owes behind it. -/
theorem bits_appended {W w1 : World} {n₀ base B : Nat} {t e : TypeId} {size : Nat} {v v' : Value} {k m : Nat} {xs ys : List Value} {tmp : Obj}
  (hv : Boxed W B t v) (hrow : W.ownsRow base e size v k xs) (hn₀ : n₀ ≤ W.heap.size) (hB : n₀ ≤ B) (hBb : B < base)
  (hown' : w1.ownsRow base e size v' m ys) (hgrow : (W.alloc tmp).grownBy w1 v.ownBlock) :
  Boxed w1 B t v ∧ Boxed (w1.setCell ⟨B, 0, none⟩ v') B t v' ∧ (w1.setCell ⟨B, 0, none⟩ v').ownsRow base e size v' m ys ∧ KeepsOthers W (w1.setCell ⟨B, 0, none⟩ v') ∧ Below n₀ W (w1.setCell ⟨B, 0, none⟩ v') ∧
  (∀ Nb t' u, Nb < base → Nb ≠ B → Boxed W Nb t' u → Boxed (w1.setCell ⟨B, 0, none⟩ v') Nb t' u) ∧ W.heap.size ≤ (w1.setCell ⟨B, 0, none⟩ v').heap.size := by
 have hnr : some B ≠ v.ownBlock := fun he => by have := own_base hrow B he.symm; omega
 have hnr' : some B ≠ v'.ownBlock := fun he => by have := own_base hown' B he.symm; omega
 have hv1 : Boxed w1 B t v := (hv.alloc tmp).kept hgrow hnr
 have hsz : W.heap.size ≤ w1.heap.size := Nat.le_trans (by simp) hgrow.size
 refine ⟨hv1, hv1.set v', hown'.kept (grownBy_setCell' w1 B v') (.inr hnr'.symm), ?_, ?_, ?_, Nat.le_trans hsz (by simp [World.setCell])⟩
 ·refine ((KeepsOthers.alloc W tmp).trans (KeepsOthers.of_grownBy hgrow fun j o ej hj => ?_)).trans (KeepsOthers.setCell _ _ _)
  rcases (hrow.alloc tmp).2 with ⟨rfl, _⟩ | ⟨g, cap, cur, rfl, _, hgb, _⟩
  ·simp [Value.ownBlock] at ej
  ·obtain rfl : g = j := by simpa [Value.ownBlock] using ej
   rw [hgb] at hj; cases hj; rfl
 ·refine (((Below.refl n₀ W).alloc hn₀ tmp).grown hgrow (by simp; omega) fun j ej => ?_).setCell (p := ⟨B, 0, none⟩) hB v'
  have := own_base hrow j ej
  omega
 ·intro Nb t' u hNb hne h
  have h1 : Boxed w1 Nb t' u := (h.alloc tmp).kept hgrow (fun he => by have := own_base hrow Nb he.symm; omega)
  exact h1.kept (grownBy_setCell' w1 B v') (fun he => hne (by simpa using he))
/-- The same where the slice stays in its block. -/
theorem bits_appended' {W w1 : World} {n₀ base B g len cap m : Nat} {t e : TypeId} {size : Nat} {k : Nat} {xs ys : List Value} {tmp : Obj}
  (hv : Boxed W B t (.slice (some ⟨g, 0, none⟩) len cap)) (hrow : W.ownsRow base e size (.slice (some ⟨g, 0, none⟩) len cap) k xs) (hn₀ : n₀ ≤ W.heap.size) (hB : n₀ ≤ B) (hg : n₀ ≤ g) (hgB : g ≠ B)
  (hown' : w1.ownsRow base e size (.slice (some ⟨g, 0, none⟩) m cap) m ys) (hgrow : (W.alloc tmp).grownBy w1 (some g)) :
  Boxed w1 B t (.slice (some ⟨g, 0, none⟩) len cap) ∧ Boxed (w1.setCell ⟨B, 0, none⟩ (.slice (some ⟨g, 0, none⟩) m cap)) B t (.slice (some ⟨g, 0, none⟩) m cap) ∧ (w1.setCell ⟨B, 0, none⟩ (.slice (some ⟨g, 0, none⟩) m cap)).ownsRow base e size (.slice (some ⟨g, 0, none⟩) m cap) m ys ∧
  KeepsOthers W (w1.setCell ⟨B, 0, none⟩ (.slice (some ⟨g, 0, none⟩) m cap)) ∧ Below n₀ W (w1.setCell ⟨B, 0, none⟩ (.slice (some ⟨g, 0, none⟩) m cap)) ∧
  (∀ Nb t' u, Nb ≠ g → Nb ≠ B → Boxed W Nb t' u → Boxed (w1.setCell ⟨B, 0, none⟩ (.slice (some ⟨g, 0, none⟩) m cap)) Nb t' u) ∧ W.heap.size ≤ (w1.setCell ⟨B, 0, none⟩ (.slice (some ⟨g, 0, none⟩) m cap)).heap.size := by
 have hv1 : Boxed w1 B t (.slice (some ⟨g, 0, none⟩) len cap) := (hv.alloc tmp).kept hgrow (fun he => hgB (by simpa using he.symm))
 have hsz : W.heap.size ≤ w1.heap.size := Nat.le_trans (by simp) hgrow.size
 refine ⟨hv1, hv1.set _, hown'.kept (grownBy_setCell' w1 B _) (.inr (by simp [Value.ownBlock]; exact hgB)), ?_, ?_, ?_, Nat.le_trans hsz (by simp [World.setCell])⟩
 ·refine ((KeepsOthers.alloc W tmp).trans (KeepsOthers.of_grownBy hgrow fun j o ej hj => ?_)).trans (KeepsOthers.setCell _ _ _)
  rcases (hrow.alloc tmp).2 with ⟨he, _⟩ | ⟨g', cap, cur, he, _, hgb, _⟩
  ·cases he
  ·cases he
   cases ej
   rw [hgb] at hj; cases hj; rfl
 ·refine (((Below.refl n₀ W).alloc hn₀ tmp).grown hgrow (by simp; omega) fun j ej => ?_).setCell (p := ⟨B, 0, none⟩) hB _
  cases ej; exact hg
 ·intro Nb t' u hNb hne h
  have h1 : Boxed w1 Nb t' u := (h.alloc tmp).kept hgrow (fun he => hNb (by simpa using he))
  exact h1.kept (grownBy_setCell' w1 B _) (fun he => hne (by simpa using he))
theorem bits_own_size (n : Nat) : Own (fun (_ : List Int) W => n ≤ W.heap.size) := fun _ _ _ _ hs hg _ => Nat.le_trans hs hg.size
/-- The iterator's contract: all of a number's bits, or, where a round has said 'no more', a beginning of them. -/
theorem bits_stops (d Nb Mb : Nat) (n : Int) (m : Nat) (hm : m ≤ 62) (Kp : World → World → Prop) (hKp : ∀ A B, Kp A B → ∀ t v, Boxed A Nb t v → Boxed B Nb t v) (w : World) (hN : Boxed w Nb 3 (.int .i64 n)) (hM : Boxed w Mb 3 (.int .i64 m)) :
  SeqStopsK Fence.wide d Try.prog 38 #[.pointer (some ⟨Mb, 0, none⟩), .pointer (some ⟨Nb, 0, none⟩)] (fun x : Int => #[Value.int .i64 x]) Kp (fun ys => ys = H.bitsOf n m) (fun pre => pre <+: H.bitsOf n m) m w := fun l J Jx W hW _ _ hY h0 =>
 bits_shifts1 d l Nb Mb n m hm Kp hKp J Jx hY W ((hW.block _ hN.lt).trans hN) ((hW.block _ hM.lt).trans hM) h0
end

/-! ### bits_Put: function 26 -/
def bits_Put.f (a0 a1 : Int) : Option (List Int × Bool) := some (H.putB a0 a1)
section
attribute [local go_sem] Oper.semAt_some
theorem bits_Put_no (a0 a1 : Int) (w : World) (h : a1 < 0 ∨ 32 < a1 ∨ (0 ≤ a1 ∧ a1 ≤ 32 ∧ a0 / 2 ^ a1.toNat ≠ 0)) :
  Calls Try.prog 26 #[.int .i64 a0, .int .i64 a1] w fun e w' => e = .returned (.tuple #[.slice none 0 0, .bool false]) ∧ Below w.heap.size w w' := by
 rcases h with h | h | ⟨h1, h2, h3⟩
 ·have hb : decide (a1 < 0) = true := decide_eq_true h
  go_enter Try.func26, Try.ntmps26
  go_wp2
  go_ret2
  exact ⟨rfl, Below.refl _ _⟩
 ·have hb : decide (a1 < 0) = false := decide_eq_false (by omega)
  have hc : decide (32 < a1) = true := decide_eq_true h
  go_enter Try.func26, Try.ntmps26
  go_wp2
  go_ret2
  exact ⟨rfl, Below.refl _ _⟩
 ·obtain ⟨m, rfl⟩ := Int.eq_ofNat_of_zero_le h1
  have hb : decide ((m : Int) < 0) = false := decide_eq_false (by omega)
  have hc : decide (32 < (m : Int)) = false := decide_eq_false (by omega)
  rw [Int.toNat_natCast] at h3
  have hd : (a0 / 2 ^ m != 0) = true := bne_iff_ne.mpr h3
  clear h3
  go_enter Try.func26, Try.ntmps26
  go_wp2
  go_ret2
  exact ⟨rfl, Below.refl _ _⟩
set_option maxRecDepth 100000 in
set_option maxHeartbeats 2000000 in
theorem bits_Put_yes (a0 : Int) (m : Nat) (w : World) (h2 : m ≤ 32) (h3 : a0 / 2 ^ m = 0) :
  Calls Try.prog 26 #[.int .i64 a0, .int .i64 m] w fun e w' => ∃ v0_ : Value, e = .returned (.tuple #[v0_, .bool true]) ∧ Kd.R (Kd.int .i64) 3 w' w.heap.size (fun _ => True) v0_ (H.bitsOf a0 m) ∧ Below w.heap.size w w' := by
 have hb : decide ((m : Int) < 0) = false := decide_eq_false (by omega)
 have hc : decide (32 < (m : Int)) = false := decide_eq_false (by omega)
 have hd : (a0 / 2 ^ m != 0) = false := bne_eq_false_iff_eq.mpr h3
 have H3 := Aside0.mk h3
 clear h3
 obtain ⟨i0, hi, hz0, hz1, hz2⟩ := info_parts info3
 have hf1 : Fence.wide.fn 32 := trivial
 have hf2 : Fence.wide.fn 38 := trivial
 refine (callsIn_wide (n := 5)).1 ?_
 refine callsIn_of_wp_marks Try.func26 rfl trivial ?_ rfl
 simp only [Try.ntmps26, List.size_toArray, List.length_cons, List.length_nil, Nat.reduceAdd, Nat.reduceSub, Array.replicate_succ, Array.replicate_zero, List.push_toArray, List.append_toArray, List.nil_append, List.cons_append]
 gi_wp2_with (gi_at_call 32; refine (callsIn_wide.2 (bits_shifts_calls _ _ _)).mono ?_; rintro e w' ⟨rfl, rfl⟩)
 have bO := Boxed.new w 30 (.slice none 0 0)
 have bN := Boxed.new (w.alloc (.cells #[.slice none 0 0] 30)) 3 (.int .i64 a0)
 have bM := Boxed.new ((w.alloc (.cells #[.slice none 0 0] 30)).alloc (.cells #[.int .i64 a0] 3)) 3 (.int .i64 m)
 simp only [World.size_alloc] at bN bM
 have hB0 : Below w.heap.size w (((w.alloc (.cells #[.slice none 0 0] 30)).alloc (.cells #[.int .i64 a0] 3)).alloc (.cells #[.int .i64 m] 3)) := (((Below.refl _ w).alloc (Nat.le_refl _) _).alloc (by simp) _).alloc (by simp; omega) _
 refine wpIn_rangeFunc_ownG rfl (by omega) (gf := 38) (lb := #[.pointer (some ⟨w.heap.size + 1 + 1, 0, none⟩), .pointer (some ⟨w.heap.size + 1, 0, none⟩)]) rfl trivial (enters_of Try.func38 (by kernel_rfl) rfl)
  (bits_stops _ (w.heap.size + 1) (w.heap.size + 1 + 1) a0 m (by omega) (fun A B => ∀ t v, Boxed A (w.heap.size + 1) t v → Boxed B (w.heap.size + 1) t v) (fun A B h => h) _ (bN.alloc _) bM)
  (fun h k t v hv => k t v (h t v hv)) (fun W l o o' hl ho hc _ t v hv => hv.kept (grownBy_putObj' W l o') (fun he => by cases he; rw [show W.heap[_]? = _ from hv] at ho; cases ho; cases hc)) (Below.refl _ _) (fun _ => rfl)
  (fun pre W => (∃ v, Boxed W w.heap.size 30 v ∧ W.ownsRow (w.heap.size + 3) 3 1 v pre.length (encs (Value.int .i64) pre) ∧ True) ∧ w.heap.size + 3 ≤ W.heap.size ∧ Below w.heap.size w W)
  (fun _ _ _ => False)
  (OwnFrom.and (Own.from (holdsRow_own (w.heap.size + 3) w.heap.size 30 3 1 (fun pre => pre.length) (fun pre => encs (Value.int .i64) pre) (fun _ _ => True)) _) (OwnFrom.and (Own.from (bits_own_size (w.heap.size + 3)) _) (ownFrom_below (Nat.le_refl _) (by simp; omega))))
  (fun _ _ _ _ _ hs _ _ => hs)
  ⟨⟨_, (bO.alloc _).alloc _, World.ownsRow_nil _ _ _ _, trivial⟩, by simp, hB0⟩
  (fun x => { tmps := #[.int .i64 a0, .int .i64 m, undef, undef, .slice none 0 0, .bool false, .pointer (some ⟨w.heap.size, 0, none⟩), .int .i64 x, .int .i64 m, .bool false, .bool false, .int .i64 m, .bool false, .bool false, .bool false, .int .i64 a0, .int .i64 m, .int .i64 (a0 / 2 ^ m), .bool false, .bool false, .int .i64 a0, .int .i64 m, .func (.func 38) #[] #[.pointer (some ⟨w.heap.size + 1 + 1, 0, none⟩), .pointer (some ⟨w.heap.size + 1, 0, none⟩)], .int .i64 x, undef, undef, undef, undef, undef], defers := [] }) ?assign ?body ?done ?stop
 case assign =>
  intro l x W K hK
  gi_wp2
  exact hK
 case body =>
  rintro l pre x W ⟨⟨v, hv, hrow, _⟩, hW3, hB⟩ hlt
  have hc := hv.cell
  have s1 : pre.length + 1 ≤ maxLen := by simp only [maxLen]; omega
  have s2 : (pre.length + 1) * 8 ≤ 140737488355328 := by omega
  have s3 : w.heap.size + 3 ≤ (W.alloc (.cells #[.int .i64 x] 3)).heap.size := by simp; omega
  gi_wp2_with (gi_at_builtin; refine wpListIn_append_own _ rfl _ _ 30 rfl (w.heap.size + 3) 3 i0 (.int .i64 0) 1 8 Try.underlying30 hi hz0 hz1 hz2 rfl (by decide) _ _ _ rfl (hrow.alloc _) ⟨W.heap.size, 0, none⟩ 1 1 [.int .i64 x] rfl rfl (cell_one_new _ _ _) (by simp [Value.oneCell']) s1 s2 s3 ?_; intro v' w1 hown' hgrow _; obtain ⟨g', cap', rfl⟩ := ownsRow_succ hown'; obtain ⟨hv1, hv2, hr2, hk2, hb2, hx2, hz2⟩ := bits_appended hv hrow hB.size (Nat.le_refl _) (by omega) hown' hgrow; have hc1 := hv1.cell; have hf1 := hv1.frozen)
  exact ⟨hk2.from _, fun t u hu => hx2 _ t u (by omega) (by omega) hu, ⟨_, hv2, by simpa [encs] using hr2, trivial⟩, Nat.le_trans hW3 hz2, hB.trans hb2⟩
 case done =>
  rintro D ys W hD rfl ⟨⟨v, hv, hrow, _⟩, hW3, hB⟩ hK
  have hc := hv.cell
  gi_wp2
  refine ⟨by simp, .inl ⟨_, _, rfl, run_takeDeferred hK, ?_⟩⟩
  exact ⟨_, results_tmp2 rfl _ _ _, v, rfl, Kd.R_of_own (own_weaken (ownsRow_putObj hrow _ hK rfl) (by omega)) (fun _ _ => trivial), hB.trans (belowK_b (w := w) (Nat.le_refl _) W D _ _ (by simp at hD; omega) hK rfl rfl)⟩
 case stop =>
  rintro D c pre W _ _ h _
  exact h.elim
end
theorem bits_Put.calls (a0 a1 : Int) (r1 : List Int) (r2 : Bool) (w : World) (h : bits_Put.f a0 a1 = some (r1, r2)) :
  Calls Try.prog 26 #[.int .i64 a0, .int .i64 a1] w fun e w' => ∃ v0_ : Value, e = .returned (.tuple #[v0_, .bool r2]) ∧ Kd.R (Kd.int .i64) 3 w' w.heap.size (fun _ => True) v0_ r1 ∧ Below w.heap.size w w' := by
 have h' : H.putB a0 a1 = (r1, r2) := Option.some.inj h
 have no : ∀ (_ : a1 < 0 ∨ 32 < a1 ∨ (0 ≤ a1 ∧ a1 ≤ 32 ∧ a0 / 2 ^ a1.toNat ≠ 0)), ([], false) = (r1, r2) → Calls Try.prog 26 #[.int .i64 a0, .int .i64 a1] w fun e w' => ∃ v0_ : Value, e = .returned (.tuple #[v0_, .bool r2]) ∧ Kd.R (Kd.int .i64) 3 w' w.heap.size (fun _ => True) v0_ r1 ∧ Below w.heap.size w w' := by
  intro hn he
  injection he with e1 e2
  subst e1 e2
  exact (bits_Put_no a0 a1 w hn).mono fun e w' ⟨h1, h2⟩ => ⟨_, h1, Kd.R_nil _ _ _ _ _, h2⟩
 unfold H.putB at h'
 by_cases c1 : a1 < 0
 ·rw [if_pos c1] at h'; exact no (.inl c1) h'
 rw [if_neg c1] at h'
 by_cases c2 : 32 < a1
 ·rw [if_pos c2] at h'; exact no (.inr (.inl c2)) h'
 rw [if_neg c2] at h'
 by_cases c3 : a0 / 2 ^ a1.toNat = 0
 ·rw [if_pos c3] at h'
  injection h' with e1 e2
  subst e1 e2
  obtain ⟨m, rfl⟩ := Int.eq_ofNat_of_zero_le (show 0 ≤ a1 by omega)
  exact bits_Put_yes a0 m w (by omega) c3
 ·rw [if_neg c3] at h'
  exact no (.inr (.inr ⟨by omega, by omega, c3⟩)) h'

/-! ### frame_row_put: helper -/
/-- A row of bits that is written: its variable's block, the row of the call's own. -/
def frame_RowAt (w : World) (g B : Nat) (xs : List Int) : Prop := B ≤ g ∧ ∃ v, w.heap[g]? = some (.cells #[v] 49 (0, 0)) ∧ Kd.R (Kd.int .i64) 3 w B (fun _ => True) v xs
/-- Beside it, and beside rows of numbers, every block is as it was. -/
def frame_Kept (w w' : World) (g : Nat) : Prop := w.heap.size ≤ w'.heap.size ∧ ∀ i cs t fr, w.heap[i]? = some (.cells cs t fr) → i ≠ g → t ≠ 3 → w'.heap[i]? = some (.cells cs t fr)
theorem frame_Kept.trans {w w1 w2 : World} {g : Nat} (h : frame_Kept w w1 g) (k : frame_Kept w1 w2 g) : frame_Kept w w2 g := ⟨Nat.le_trans h.1 k.1, fun i cs t fr hi hg ht => k.2 i cs t fr (h.2 i cs t fr hi hg ht) hg ht⟩
theorem frame_Kept.refl (w : World) (g : Nat) : frame_Kept w w g := ⟨Nat.le_refl _, fun _ _ _ _ h _ _ => h⟩
theorem frame_Kept.below {w w' : World} {g : Nat} (h : Below w.heap.size w w') : frame_Kept w w' g := ⟨h.size, fun i cs t fr hi _ _ => (h.block i (blk_lt hi)).trans hi⟩
theorem frame_RowAt.below {w w' : World} {g B : Nat} {xs : List Int} (h : frame_RowAt w g B xs) (hb : Below w.heap.size w w') : frame_RowAt w' g B xs := by
 obtain ⟨h0, v, h1, h2⟩ := h
 exact ⟨h0, v, blk_below h1 hb, Kd.R_below h2 hb⟩
theorem frame_putB_len (n m : Int) : (H.putB n m).1.length ≤ 32 := by
 unfold H.putB
 split
 ·simp
 split
 ·simp
 split
 ·rw [H.bitsOf_length]; omega
 ·simp
set_option maxHeartbeats 1600000 in
set_option maxRecDepth 100000 in
theorem frame_put (g B : Nat) (xs : List Int) (n m : Int) (w0 w : World) (hrow : frame_RowAt w g B xs) (hB : Below B w0 w) (hl : xs.length ≤ 1099511627776) :
  Calls Try.prog 28 #[.pointer (some ⟨g, 0, none⟩), .int .i64 n, .int .i64 m] w fun e w' => e = .returned (.tuple #[]) ∧ frame_RowAt w' g B (xs ++ (H.putB n m).1) ∧ Below B w0 w' ∧ frame_Kept w w' g := by
 obtain ⟨hBg, v, hblk, hR⟩ := hrow
 have HL := Aside0.mk hl
 have HBL := Aside0.mk hblk
 have HR := Aside0.mk hR
 have HB := Aside0.mk hB
 have hgw := blk_lt hblk
 have HG := Aside0.mk hgw
 have HBG := Aside0.mk hBg
 clear hl hblk hR hB hgw hBg
 go_enter Try.func28, Try.ntmps28
 go_wp2_with fail
 refine (bits_Put.calls n m (H.putB n m).1 (H.putB n m).2 _ rfl).mono ?_
 rintro e w1 ⟨v0, rfl, hR0, hb1⟩
 have hblk1 := blk_below HBL.out hb1
 have hR1 := Kd.R_below HR.out hb1
 have hlen := frame_putB_len n m
 have hsz1 := hb1.size
 have HLN := Aside0.mk hlen
 obtain ⟨A, c, rfl, hxc, hC⟩ := Kd.R_reads hR1
 obtain ⟨A0, c0, rfl, hyc, hC0⟩ := Kd.R_reads hR0
 have hcell : w1.cell? ⟨g, 0, none⟩ = some (.slice A xs.length c) := by rw [blk_cell hblk1]; rfl
 have hB1 : Below B w0 w1 := HB.out.trans (hb1.mono (Nat.le_trans HBG.out (Nat.le_of_lt HG.out)))
 have HB1 := Aside0.mk hB1
 have HK1 := Aside0.mk (frame_Kept.below (g := g) hb1)
 have HBL1 := Aside0.mk hblk1
 have HR1 := Aside0.mk hR1
 have HC0 := Aside0.mk hC0
 have HSZ := Aside0.mk (show B ≤ w1.heap.size by have := HBG.out; have := HG.out; omega)
 clear hblk1 hR1 hR0 hb1 hB1 hC hC0 hxc hyc hlen hsz1
 go_wp2_with (first | ((with_reducible refine gate_builtin (b := .append) (xs := #[.tmp 18, .tmp 19]) rfl ?_); at_builtin; refine Kd.R_append_rows (Kd.int .i64) (w0 := w0) B rfl (.tmp 18) (.tmp 19) 30 3 (.int .i64 0) 8 rfl Try.underlying30 info3 rfl (by decide) (by omega) _ xs (H.putB n m).1 _ _ _ (fun _ => True) (fun _ => False) rfl rfl HR1.out HC0.out (fun _ _ h => h) (fun _ h => h.elim) (fun _ _ => trivial) HB1.out HSZ.out (by have := HLN.out; have := HL.out; omega) ?_; intro v1 w2 ho2 hb2 hg2 hat2; obtain ⟨A1, c1, hv1⟩ := Kd.R_slice ho2; rw [List.length_append] at hv1; subst hv1; have hne : some g ≠ (Value.slice A xs.length c).ownBlock := Kd.R_ne HR1.out HBL1.out (by decide); have HNE := Aside0.mk hne; have hblk2 := blk_grown HBL1.out hg2 hne; have hfr := blk_frozen hblk2 0; have hc2 : w2.cell? ⟨g, 0, none⟩ = some (.slice A xs.length c) := (blk_cell hblk2 0).trans rfl; have HBL2 := Aside0.mk hblk2; have HO2 := Aside0.mk ho2; have HB2 := Aside0.mk hb2; have HG2 : Aside0 (w1.grownBy w2 (Value.slice A xs.length c).ownBlock) := ⟨hg2⟩; clear hne hblk2 ho2 hb2 hg2 hat2))
 go_end0
 have hb3 := blk_set HBL2.out 0 (.slice A1 (xs.length + (H.putB n m).1.length) c1)
 refine ⟨rfl, ⟨HBG.out, _, hb3, Kd.R_set HO2.out HBL2.out (by decide) 0 _⟩, HB2.out.setCell (p := ⟨g, 0, none⟩) HBG.out _, HK1.out.trans ⟨by have := HG2.out.size; simp only [World.setCell, Array.size_modify]; exact this, fun i cs t fr hi hig ht => ?_⟩⟩
 rw [Below.heap_setCell _ _ _ i hig, HG2.out.block i (blk_lt hi) (fun he => ?_), hi]
 obtain ⟨cells, hc⟩ := Kd.R_typed HR1.out i he.symm
 rw [hc] at hi
 injection hi with hi
 injection hi with _ h2 _
 exact ht h2.symm
set_option maxHeartbeats 1600000 in
set_option maxRecDepth 100000 in
theorem frame_flag (g B : Nat) (xs : List Int) (b : Bool) (w0 w : World) (hrow : frame_RowAt w g B xs) (hB : Below B w0 w) (hl : xs.length ≤ 1099511627776) :
  Calls Try.prog 35 #[.pointer (some ⟨g, 0, none⟩), .bool b] w fun e w' => e = .returned (.tuple #[]) ∧ frame_RowAt w' g B (xs ++ (H.putB (if b = true then 1 else 0) 1).1) ∧ Below B w0 w' ∧ frame_Kept w w' g := by
 have HR := Aside0.mk hrow
 have HB := Aside0.mk hB
 have HL := Aside0.mk hl
 clear hrow hB hl
 cases b with
 | true =>
  go_enter Try.func35, Try.ntmps35
  go_wp2_with fail
  refine (frame_put g B xs 1 1 w0 _ HR.out HB.out HL.out).mono ?_
  rintro e w1 ⟨rfl, h1, h2, h3⟩
  have H1 := Aside0.mk h1
  have H2 := Aside0.mk h2
  have H3 := Aside0.mk h3
  clear h1 h2 h3
  go_wp2_with fail
  go_end0
  exact ⟨rfl, H1.out, H2.out, H3.out⟩
 | false =>
  go_enter Try.func35, Try.ntmps35
  go_wp2_with fail
  refine (frame_put g B xs 0 1 w0 _ HR.out HB.out HL.out).mono ?_
  rintro e w1 ⟨rfl, h1, h2, h3⟩
  have H1 := Aside0.mk h1
  have H2 := Aside0.mk h2
  have H3 := Aside0.mk h3
  clear h1 h2 h3
  go_wp2_with fail
  go_end0
  exact ⟨rfl, H1.out, H2.out, H3.out⟩

-- NOT PRINTED: function 35 (frame_row_flag)

/-! ### frame_row_rank: helper -/
def frame_bit (b : Bool) : Int := if b = true then 1 else 0
def frame_rankB (e : Bool) (id : Int) (rm : Bool) : List Int := if e = true then (H.putB (id / 262144) 11).1 ++ (H.putB 3 2).1 ++ (H.putB (Go.bits .and .i64 id 262143) 18).1 ++ (H.putB (frame_bit rm) 1).1 else (H.putB id 11).1 ++ (H.putB (frame_bit rm) 1).1 ++ (H.putB 0 1).1
def frame_headB (e : Bool) (id : Int) (rm : Bool) (ln : Int) (d : List Int) : List Int := (H.putB 0 1).1 ++ frame_rankB e id rm ++ (H.putB 0 1).1 ++ (if e = true then (H.putB 0 1).1 else []) ++ (H.putB ln 4).1 ++ H.spreadB d
theorem frame_app_len {xs : List Int} (n m : Int) {k : Nat} (h : xs.length ≤ k) : (xs ++ (H.putB n m).1).length ≤ k + 32 := by
 have := frame_putB_len n m
 rw [List.length_append]; omega
theorem frame_rankB_len (e : Bool) (id : Int) (rm : Bool) : (frame_rankB e id rm).length ≤ 128 := by
 unfold frame_rankB
 split
 ·have h1 := frame_putB_len (id / 262144) 11
  have h2 := frame_putB_len 3 2
  have h3 := frame_putB_len (Go.bits .and .i64 id 262143) 18
  have h4 := frame_putB_len (frame_bit rm) 1
  rw [List.length_append, List.length_append, List.length_append]; omega
 ·have h1 := frame_putB_len id 11
  have h2 := frame_putB_len 0 1
  have h4 := frame_putB_len (frame_bit rm) 1
  rw [List.length_append, List.length_append]; omega
set_option maxHeartbeats 1600000 in
set_option maxRecDepth 100000 in
theorem frame_rank (g B : Nat) (xs : List Int) (e : Bool) (id : Int) (rm : Bool) (ln : Int) (A : Option Addr) (n c : Nat) (w0 w : World) (hrow : frame_RowAt w g B xs) (hB : Below B w0 w) (hl : xs.length ≤ 1073741824) :
  Calls Try.prog 23 #[.pointer (some ⟨g, 0, none⟩), .agg #[.bool e, .int .i64 id, .bool rm, .int .i64 ln, .slice A n c]] w fun r w' => r = .returned (.tuple #[]) ∧ frame_RowAt w' g B (xs ++ frame_rankB e id rm) ∧ Below B w0 w' ∧ frame_Kept w w' g := by
 have hu := Try.underlying26
 have hgw : g < w.heap.size := by obtain ⟨_, v, h, _⟩ := hrow; exact blk_lt h
 have hBw : B ≤ w.heap.size := by have := hrow.1; omega
 have hbA := below_alloc (Below.refl w.heap.size w) (.cells #[.bool e, .int .i64 id, .bool rm, .int .i64 ln, .slice A n c] 26)
 have hF := blk_new w (.cells #[.bool e, .int .i64 id, .bool rm, .int .i64 ln, .slice A n c] 26)
 have hrA := hrow.below hbA
 have hBA := hB.trans (hbA.mono hBw)
 have hkA := frame_Kept.below (g := g) hbA
 have HNE := Aside0.mk (show w.heap.size ≠ g by omega)
 have HL := Aside0.mk hl
 clear hrow hB hgw hBw hbA hl
 cases e with
 | true =>
  go_enter Try.func23, Try.ntmps23
  have c1 : (w.alloc (.cells #[.bool true, .int .i64 id, .bool rm, .int .i64 ln, .slice A n c] 26)).cell? ⟨w.heap.size, 1, none⟩ = some (.int .i64 id) := (blk_cell hF 1).trans rfl
  have c0 : (w.alloc (.cells #[.bool true, .int .i64 id, .bool rm, .int .i64 ln, .slice A n c] 26)).cell? ⟨w.heap.size, 0, none⟩ = some (.bool true) := (blk_cell hF 0).trans rfl
  have HF := Aside0.mk hF
  have HRA := Aside0.mk hrA
  have HBA := Aside0.mk hBA
  have HKA := Aside0.mk hkA
  clear hF hrA hBA hkA
  go_wp2_with fail
  refine (frame_put g B xs (id / 262144) 11 w0 _ HRA.out HBA.out (by have := HL.out; omega)).mono ?_
  rintro r w1 ⟨rfl, hr1, hB1, hk1⟩
  have HF1 := Aside0.mk (hk1.2 _ _ _ _ HF.out HNE.out (by decide))
  have HR1 := Aside0.mk hr1
  have HB1 := Aside0.mk hB1
  have HK1 := Aside0.mk (HKA.out.trans hk1)
  clear hr1 hB1 hk1 c0 c1 HF HRA HBA HKA
  go_wp2_with fail
  refine (frame_put g B _ 3 2 w0 _ HR1.out HB1.out (Nat.le_trans (frame_app_len _ _ HL.out) (by decide))).mono ?_
  rintro r w2 ⟨rfl, hr2, hB2, hk2⟩
  have hF2 := hk2.2 _ _ _ _ HF1.out HNE.out (by decide)
  have c2 : w2.cell? ⟨w.heap.size, 1, none⟩ = some (.int .i64 id) := (blk_cell hF2 1).trans rfl
  have HF2 := Aside0.mk hF2
  have HR2 := Aside0.mk hr2
  have HB2 := Aside0.mk hB2
  have HK2 := Aside0.mk (HK1.out.trans hk2)
  clear hr2 hB2 hk2 hF2 HF1 HR1 HB1 HK1
  go_wp2_with fail
  refine (frame_put g B _ (Go.bits .and .i64 id 262143) 18 w0 _ HR2.out HB2.out (Nat.le_trans (frame_app_len _ _ (frame_app_len _ _ HL.out)) (by decide))).mono ?_
  rintro r w3 ⟨rfl, hr3, hB3, hk3⟩
  have hF3 := hk3.2 _ _ _ _ HF2.out HNE.out (by decide)
  have c3 : w3.cell? ⟨w.heap.size, 2, none⟩ = some (.bool rm) := (blk_cell hF3 2).trans rfl
  have HR3 := Aside0.mk hr3
  have HB3 := Aside0.mk hB3
  have HK3 := Aside0.mk (HK2.out.trans hk3)
  clear hr3 hB3 hk3 hF3 HF2 HR2 HB2 HK2 c2
  go_wp2_with fail
  refine (frame_flag g B _ rm w0 _ HR3.out HB3.out (Nat.le_trans (frame_app_len _ _ (frame_app_len _ _ (frame_app_len _ _ HL.out))) (by decide))).mono ?_
  rintro r w4 ⟨rfl, hr4, hB4, hk4⟩
  have HR4 := Aside0.mk hr4
  have HB4 := Aside0.mk hB4
  have HK4 := Aside0.mk (HK3.out.trans hk4)
  clear hr4 hB4 hk4 HR3 HB3 HK3 c3
  go_wp2_with fail
  refine bodyPost_ret (results_none rfl _ _ _) rfl ?_
  refine ⟨rfl, ?_, HB4.out, HK4.out⟩
  have := HR4.out
  unfold frame_rankB frame_bit
  rw [if_pos rfl]
  simpa only [List.append_assoc] using this
 | false =>
  go_enter Try.func23, Try.ntmps23
  have c1 : (w.alloc (.cells #[.bool false, .int .i64 id, .bool rm, .int .i64 ln, .slice A n c] 26)).cell? ⟨w.heap.size, 1, none⟩ = some (.int .i64 id) := (blk_cell hF 1).trans rfl
  have c0 : (w.alloc (.cells #[.bool false, .int .i64 id, .bool rm, .int .i64 ln, .slice A n c] 26)).cell? ⟨w.heap.size, 0, none⟩ = some (.bool false) := (blk_cell hF 0).trans rfl
  have HF := Aside0.mk hF
  have HRA := Aside0.mk hrA
  have HBA := Aside0.mk hBA
  have HKA := Aside0.mk hkA
  clear hF hrA hBA hkA
  go_wp2_with fail
  refine (frame_put g B xs id 11 w0 _ HRA.out HBA.out (by have := HL.out; omega)).mono ?_
  rintro r w1 ⟨rfl, hr1, hB1, hk1⟩
  have hF1 := hk1.2 _ _ _ _ HF.out HNE.out (by decide)
  have c2 : w1.cell? ⟨w.heap.size, 2, none⟩ = some (.bool rm) := (blk_cell hF1 2).trans rfl
  have HR1 := Aside0.mk hr1
  have HB1 := Aside0.mk hB1
  have HK1 := Aside0.mk (HKA.out.trans hk1)
  clear hr1 hB1 hk1 c0 c1 HF HRA HBA HKA hF1
  go_wp2_with fail
  refine (frame_flag g B _ rm w0 _ HR1.out HB1.out (Nat.le_trans (frame_app_len _ _ HL.out) (by decide))).mono ?_
  rintro r w2 ⟨rfl, hr2, hB2, hk2⟩
  have HR2 := Aside0.mk hr2
  have HB2 := Aside0.mk hB2
  have HK2 := Aside0.mk (HK1.out.trans hk2)
  clear hr2 hB2 hk2 HR1 HB1 HK1 c2
  go_wp2_with fail
  refine (frame_put g B _ 0 1 w0 _ HR2.out HB2.out (Nat.le_trans (frame_app_len _ _ (frame_app_len _ _ HL.out)) (by decide))).mono ?_
  rintro r w3 ⟨rfl, hr3, hB3, hk3⟩
  have HR3 := Aside0.mk hr3
  have HB3 := Aside0.mk hB3
  have HK3 := Aside0.mk (HK2.out.trans hk3)
  clear hr3 hB3 hk3 HR2 HB2 HK2
  go_wp2_with fail
  go_end0
  refine ⟨rfl, ?_, HB3.out, HK3.out⟩
  have := HR3.out
  unfold frame_rankB frame_bit
  rw [if_neg (by decide)]
  simpa only [List.append_assoc] using this

/-! ### frame_Rank: function 10 -/
def frame_Rank.f (b0 : Bool) (n1 : Int) (b2 : Bool) (n3 : Int) (l4 : List Int) : Option (List Int) := some (frame_rankB b0 n1 b2)
set_option maxHeartbeats 1600000 in
set_option maxRecDepth 100000 in
theorem frame_Rank.calls (a0_0 : Bool) (a0_1 : Int) (a0_2 : Bool) (a0_3 : Int) (A0_4 : Option Addr) (c0_4 : Nat) (l0_4 : List Int) (r : List Int) (w : World) (hr0_4 : Kd.C (Kd.int .u8) w A0_4 l0_4.length l0_4) (hc0_4 : l0_4.length ≤ c0_4) (h : frame_Rank.f a0_0 a0_1 a0_2 a0_3 l0_4 = some r) :
  Calls Try.prog 10 #[.agg #[.bool a0_0, .int .i64 a0_1, .bool a0_2, .int .i64 a0_3, .slice A0_4 l0_4.length c0_4]] w fun e w' => ∃ v0_ : Value, e = .returned v0_ ∧ Kd.R (Kd.int .i64) 3 w' w.heap.size (fun _ => True) v0_ r ∧ Below w.heap.size w w' := by
 obtain rfl := Option.some.inj h
 clear h hr0_4 hc0_4
 have hu := Try.underlying26
 have hF := blk_alloc (blk_new w (.cells #[.bool a0_0, .int .i64 a0_1, .bool a0_2, .int .i64 a0_3, .slice A0_4 l0_4.length c0_4] 26)) (.cells #[.slice none 0 0] 49)
 have hr := blk_new (w.alloc (.cells #[.bool a0_0, .int .i64 a0_1, .bool a0_2, .int .i64 a0_3, .slice A0_4 l0_4.length c0_4] 26)) (.cells #[.slice none 0 0] 49)
 rw [World.size_alloc] at hr
 have hb := below_alloc (below_alloc (Below.refl w.heap.size w) (.cells #[.bool a0_0, .int .i64 a0_1, .bool a0_2, .int .i64 a0_3, .slice A0_4 l0_4.length c0_4] 26)) (.cells #[.slice none 0 0] 49)
 have HF := Aside0.mk hF
 have HR := Aside0.mk hr
 have HB := Aside0.mk hb
 have c0 := (blk_cell hF 0).trans rfl
 have c1 := (blk_cell hF 1).trans rfl
 have c2 := (blk_cell hF 2).trans rfl
 have c3 := (blk_cell hF 3).trans rfl
 have c4 := (blk_cell hF 4).trans rfl
 clear hF hr hb
 go_enter Try.func10, Try.ntmps10
 go_wp2_with fail
 refine (frame_rank (w.heap.size + 1) w.heap.size [] a0_0 a0_1 a0_2 a0_3 A0_4 l0_4.length c0_4 w _ ⟨by omega, _, HR.out, Kd.R_nil _ _ _ _ _⟩ HB.out (by simp)).mono ?_
 rintro e w1 ⟨rfl, ⟨_, v, hv, hR⟩, hB1, _⟩
 rw [List.nil_append] at hR
 obtain ⟨A1, k1, rfl⟩ := Kd.R_slice hR
 have d0 : w1.cell? ⟨w.heap.size + 1, 0, none⟩ = some (.slice A1 (frame_rankB a0_0 a0_1 a0_2).length k1) := (blk_cell hv 0).trans rfl
 have HR1 := Aside0.mk hR
 have HB1 := Aside0.mk hB1
 clear hv hR hB1 c0 c1 c2 c3 c4
 go_wp2_with fail
 go_ret
 exact ⟨_, rfl, HR1.out, HB1.out⟩

-- NOT PRINTED: function 33 (arb_start)

/-! ### arb_And: function 14 -/
def arb_And.l0 : Nat → Int → List Int → Int → Int → Option (Int)
 | 0, _, _, _, _ => none
 | k + 1, x3, x6, x7, x8 => if x8 < x7 then (if 0 ≤ x8 then (if x8 < (x6.length : Int) then (arb_And.l0 k (mn x3 (rd x6 x8)) x6 x7 (wrap64 (x8 + 1))) else (none)) else (none)) else (some x3)
def arb_And.f (k : Nat) (l0 : List Int) : Option (Int) := arb_And.l0 k 1 l0 (l0.length : Int) 0
theorem arb_And.mono_l : ∀ k, (∀ y0 y1 y2 y3, LeO (arb_And.l0 k y0 y1 y2 y3) (arb_And.l0 (k + 1) y0 y1 y2 y3))
 | 0 => fun _ _ _ _ r h => by simp [arb_And.l0] at h
 | k + 1 => by
  have ih0 := arb_And.mono_l k
  ·intro y0 y1 y2 y3
   unfold arb_And.l0
   repeat' first
   | (with_reducible exact ih0 _ _ _ _)
   | (with_reducible exact LeO.refl _)
   | (with_reducible exact LeO.none _)
   | (with_reducible refine LeO.ite ?_ ?_)
   | (with_reducible refine LeO.bind ?_ (fun _ => ?_))
   | exact ih0 _ _ _ _
   | exact LeO.none _
   | refine LeO.ite ?_ ?_
   | refine LeO.bind ?_ (fun _ => ?_)
theorem arb_And.mono : ∀ a0 k, LeO (arb_And.f k a0) (arb_And.f (k + 1) a0) := by
 intro a0 k
 have ih0 := arb_And.mono_l k
 unfold arb_And.f
 repeat' first
   | (with_reducible exact ih0 _ _ _ _)
   | (with_reducible exact LeO.refl _)
   | (with_reducible exact LeO.none _)
   | (with_reducible refine LeO.ite ?_ ?_)
   | (with_reducible refine LeO.bind ?_ (fun _ => ?_))
   | exact ih0 _ _ _ _
   | exact LeO.none _
   | refine LeO.ite ?_ ?_
   | refine LeO.bind ?_ (fun _ => ?_)
set_option maxHeartbeats 8000000 in
set_option maxRecDepth 100000 in
theorem arb_And.calls (k : Nat) (A0 : Option Addr) (c0 : Nat) (l0 : List Int) (r : Int) (w : World) (hr0 : Kd.C (Kd.int .i64) w A0 l0.length l0) (hc0 : l0.length ≤ c0) (h : arb_And.f k l0 = some r) :
  Calls Try.prog 14 #[.slice A0 l0.length c0] w fun e w' => e = .returned (.int .i64 r) ∧ Below w.heap.size w w' := by
 have HR0 := Aside0.mk hr0
 have HC0 := Aside0.mk hc0
 clear hr0 hc0
 have HB := Aside0.mk (Below.refl w.heap.size w)
 have H : (arb_And.l0 k 1 l0 (l0.length : Int) 0) = some r := h
 clear h
 have H' := Aside0.mk H
 clear H
 go_enter Try.func14, Try.ntmps14
 go_wp2
 go_loopg [3, 8] k (fun kq v3 v8 w' => ∃ (x3_1 : Int) (x8_1 : Int), v3 = .int .i64 x3_1 ∧ v8 = .int .i64 x8_1 ∧ Aside0 (arb_And.l0 kq x3_1 l0 (l0.length : Int) x8_1 = some r) ∧ Aside0 (kq ≤ k) ∧ Aside0 (Below w.heap.size w w'))
 case atStart => exact ⟨(1), (0), (by first | rfl | (simp; done) | (simp [*]; done)), (by first | rfl | (simp; done) | (simp [*]; done)), H', ⟨Nat.le_refl _⟩, ⟨by repeat (first | (with_reducible first | exact HB.out | apply below_alloc | apply pw_below_drewN | apply below_drew1) | exact HB.out)⟩⟩
 case round =>
  clear H'
  try clear c1
  obtain ⟨x3_1, x8_1, rfl, rfl, HA, HK1, HB⟩ := hrel
  cases gk with
  | zero => exact absurd HA.out (by simp [arb_And.l0])
  | succ k1 =>
   have H := HA.out
   clear HA
   simp only [arb_And.l0] at H
   by_cases c2 : x8_1 < (l0.length : Int)
   ·rw [if_pos c2] at H
    have c2b0 : decide (x8_1 < (l0.length : Int)) = true := decide_eq_true c2
    clear c2
    by_cases c3 : 0 ≤ x8_1
    ·rw [if_pos c3] at H
     have c3b0 : decide (0 ≤ x8_1) = true := decide_eq_true c3
     clear c3
     by_cases c4 : x8_1 < (l0.length : Int)
     ·rw [if_pos c4] at H
      have c4b0 : decide (x8_1 < (l0.length : Int)) = true := decide_eq_true c4
      clear c4
      obtain ⟨ji5, hji5⟩ : ∃ j_ : Int, (mn x3_1 (rd l0 x8_1)) = j_ := ⟨_, rfl⟩
      replace H : (arb_And.l0 k1 ji5 l0 (l0.length : Int) (wrap64 (x8_1 + 1))) = some r := by first | (rw [hji5] at H; exact H) | (simp only [hji5] at H ⊢; exact H)
      have hji5_ : (if (rd l0 x8_1) < x3_1 then (rd l0 x8_1) else x3_1) = ji5 := hji5
      have H' := Aside0.mk H
      clear H
      have p108 : 0 ≤ (x8_1 : Int) := of_decide_eq_true (by first | (with_reducible assumption) | assumption)
      have q108 : x8_1 < (l0.length : Int) := of_decide_eq_true (by first | (with_reducible assumption) | assumption)
      obtain ⟨ad108, e108, hx108_0⟩ := Kd.at_int HR0.out x8_1 p108 q108
      cases e108
      replace hx108_0 := (HB.out.cell (World.block_lt_of_cell? w _ hx108_0)).trans hx108_0
      replace p108 := eq_true p108
      replace q108 := eq_true q108
      go_wp2
      go_roundg k1
      case measure => have := HK1.out; omega
      case rel => exact ⟨(ji5), (wrap64 (x8_1 + 1)), (by first | rfl | (simp; done) | (simp only [← hji5] <;> (first | rfl | simp)) | (simp [*]; done)), (by first | rfl | (simp; done) | (simp [*]; done)), H', ⟨by have := HK1.out; omega⟩, ⟨by repeat (first | (with_reducible first | exact HB.out | apply below_alloc | apply pw_below_drewN | apply below_drew1) | exact HB.out)⟩⟩
     ·exfalso; (try simp only [decide_eq_true_eq, decide_eq_false_iff_not, beq_iff_eq, beq_eq_false_iff_ne, ne_eq] at c2b0); omega
    ·rw [if_neg c3] at H
     exact absurd H (by simp)
   ·rw [if_neg c2] at H
    have c2b0 : decide (x8_1 < (l0.length : Int)) = false := decide_eq_false c2
    clear c2
    obtain rfl := Option.some.inj H
    go_wp2
    go_ret
    exact ⟨by first | rfl | (simp [errW_none, errW_some] <;> rfl) | (simp [*, errW_none, errW_some] <;> rfl), by repeat (first | (with_reducible first | exact HB.out | apply below_alloc | apply pw_below_drewN | apply below_drew1) | exact HB.out)⟩

end Go.Proofs.Ytechlakahpkdpaa.Px
