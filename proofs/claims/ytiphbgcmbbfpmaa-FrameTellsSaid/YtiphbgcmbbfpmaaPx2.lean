-- Written by myprint.py, a program of this session's, over the kit's print.py; not a text of print.sh's own.
import Derived.Test.YtiphbgcmbbfpmaaPx0
import Derived.Test.YtiphbgcmbbfpmaaPx1
namespace Go.Proofs.Ytiphbgcmbbfpmaa.Px
open Go.RowKit Go.Proofs.YtiphbgcmbbfpmaaW.PrintWords Go.Proofs.YtiphbgcmbbfpmaaW.PrintLast Go.Proofs.YtiphbgcmbbfpmaaW.PrintMore
attribute [local go_sem] max2_int min2_int max_two min_two max_three min_three max_four min_four   -- for this text's walks alone
set_option linter.unusedVariables false
set_option linter.unusedSimpArgs false

/-! ### frame_row_rank: helper -/
def frame_bit (b : Bool) : Int := if b = true then 1 else 0
def frame_rankB (e : Bool) (id : Int) (rm : Bool) : List Int := if e = true then (H.putB (id / 262144) 11).1 ++ (H.putB 3 2).1 ++ (H.putB (Go.bits .and .i64 id 262143) 18).1 ++ (H.putB (frame_bit rm) 1).1 else (H.putB id 11).1 ++ (H.putB (frame_bit rm) 1).1 ++ (H.putB 0 1).1
def frame_headB (e : Bool) (id : Int) (rm : Bool) (ln : Int) (d : List Int) : List Int := (H.putB 0 1).1 ++ frame_rankB e id rm ++ (H.putB 0 1).1 ++ (if e = true then (H.putB 0 1).1 else []) ++ (H.putB ln 4).1 ++ H.spreadB d
theorem frame_app_len {xs : List Int} (n m : Int) {k : Nat} (h : xs.length ≤ k) : (xs ++ (H.putB n m).1).length ≤ k + 32 := by
 have := frame_putB_len n m
 rw [List.length_append]; omega
theorem frame_rankB_len (e : Bool) (id : Int) (rm : Bool) : (frame_rankB e id rm).length ≤ 128 := by
 unfold frame_rankB
 split
 ·have h1 := frame_putB_len (id / 262144) 11
  have h2 := frame_putB_len 3 2
  have h3 := frame_putB_len (Go.bits .and .i64 id 262143) 18
  have h4 := frame_putB_len (frame_bit rm) 1
  rw [List.length_append, List.length_append, List.length_append]; omega
 ·have h1 := frame_putB_len id 11
  have h2 := frame_putB_len 0 1
  have h4 := frame_putB_len (frame_bit rm) 1
  rw [List.length_append, List.length_append]; omega
set_option maxHeartbeats 1600000 in
set_option maxRecDepth 100000 in
theorem frame_rank (g B : Nat) (xs : List Int) (e : Bool) (id : Int) (rm : Bool) (ln : Int) (A : Option Addr) (n c : Nat) (w0 w : World) (hrow : frame_RowAt w g B xs) (hB : Below B w0 w) (hl : xs.length ≤ 1073741824) :
  Calls Try.prog 29 #[.pointer (some ⟨g, 0, none⟩), .agg #[.bool e, .int .i64 id, .bool rm, .int .i64 ln, .slice A n c]] w fun r w' => r = .returned (.tuple #[]) ∧ frame_RowAt w' g B (xs ++ frame_rankB e id rm) ∧ Below B w0 w' ∧ frame_Kept w w' g := by
 have hu := Try.underlying24
 have hgw : g < w.heap.size := by obtain ⟨_, v, h, _⟩ := hrow; exact blk_lt h
 have hBw : B ≤ w.heap.size := by have := hrow.1; omega
 have hbA := below_alloc (Below.refl w.heap.size w) (.cells #[.bool e, .int .i64 id, .bool rm, .int .i64 ln, .slice A n c] 24)
 have hF := blk_new w (.cells #[.bool e, .int .i64 id, .bool rm, .int .i64 ln, .slice A n c] 24)
 have hrA := hrow.below hbA
 have hBA := hB.trans (hbA.mono hBw)
 have hkA := frame_Kept.below (g := g) hbA
 have HNE := Aside0.mk (show w.heap.size ≠ g by omega)
 have HL := Aside0.mk hl
 clear hrow hB hgw hBw hbA hl
 cases e with
 | true =>
  go_enter Try.func29, Try.ntmps29
  have c1 : (w.alloc (.cells #[.bool true, .int .i64 id, .bool rm, .int .i64 ln, .slice A n c] 24)).cell? ⟨w.heap.size, 1, none⟩ = some (.int .i64 id) := (blk_cell hF 1).trans rfl
  have c0 : (w.alloc (.cells #[.bool true, .int .i64 id, .bool rm, .int .i64 ln, .slice A n c] 24)).cell? ⟨w.heap.size, 0, none⟩ = some (.bool true) := (blk_cell hF 0).trans rfl
  have HF := Aside0.mk hF
  have HRA := Aside0.mk hrA
  have HBA := Aside0.mk hBA
  have HKA := Aside0.mk hkA
  clear hF hrA hBA hkA
  go_wp2_with fail
  refine (frame_put g B xs (id / 262144) 11 w0 _ HRA.out HBA.out (by have := HL.out; omega)).mono ?_
  rintro r w1 ⟨rfl, hr1, hB1, hk1⟩
  have HF1 := Aside0.mk (hk1.2 _ _ _ _ HF.out HNE.out (by decide))
  have HR1 := Aside0.mk hr1
  have HB1 := Aside0.mk hB1
  have HK1 := Aside0.mk (HKA.out.trans hk1)
  clear hr1 hB1 hk1 c0 c1 HF HRA HBA HKA
  go_wp2_with fail
  refine (frame_put g B _ 3 2 w0 _ HR1.out HB1.out (Nat.le_trans (frame_app_len _ _ HL.out) (by decide))).mono ?_
  rintro r w2 ⟨rfl, hr2, hB2, hk2⟩
  have hF2 := hk2.2 _ _ _ _ HF1.out HNE.out (by decide)
  have c2 : w2.cell? ⟨w.heap.size, 1, none⟩ = some (.int .i64 id) := (blk_cell hF2 1).trans rfl
  have HF2 := Aside0.mk hF2
  have HR2 := Aside0.mk hr2
  have HB2 := Aside0.mk hB2
  have HK2 := Aside0.mk (HK1.out.trans hk2)
  clear hr2 hB2 hk2 hF2 HF1 HR1 HB1 HK1
  go_wp2_with fail
  refine (frame_put g B _ (Go.bits .and .i64 id 262143) 18 w0 _ HR2.out HB2.out (Nat.le_trans (frame_app_len _ _ (frame_app_len _ _ HL.out)) (by decide))).mono ?_
  rintro r w3 ⟨rfl, hr3, hB3, hk3⟩
  have hF3 := hk3.2 _ _ _ _ HF2.out HNE.out (by decide)
  have c3 : w3.cell? ⟨w.heap.size, 2, none⟩ = some (.bool rm) := (blk_cell hF3 2).trans rfl
  have HR3 := Aside0.mk hr3
  have HB3 := Aside0.mk hB3
  have HK3 := Aside0.mk (HK2.out.trans hk3)
  clear hr3 hB3 hk3 hF3 HF2 HR2 HB2 HK2 c2
  go_wp2_with fail
  refine (frame_flag g B _ rm w0 _ HR3.out HB3.out (Nat.le_trans (frame_app_len _ _ (frame_app_len _ _ (frame_app_len _ _ HL.out))) (by decide))).mono ?_
  rintro r w4 ⟨rfl, hr4, hB4, hk4⟩
  have HR4 := Aside0.mk hr4
  have HB4 := Aside0.mk hB4
  have HK4 := Aside0.mk (HK3.out.trans hk4)
  clear hr4 hB4 hk4 HR3 HB3 HK3 c3
  go_wp2_with fail
  refine bodyPost_ret (results_none rfl _ _ _) rfl ?_
  refine ⟨rfl, ?_, HB4.out, HK4.out⟩
  have := HR4.out
  unfold frame_rankB frame_bit
  rw [if_pos rfl]
  simpa only [List.append_assoc] using this
 | false =>
  go_enter Try.func29, Try.ntmps29
  have c1 : (w.alloc (.cells #[.bool false, .int .i64 id, .bool rm, .int .i64 ln, .slice A n c] 24)).cell? ⟨w.heap.size, 1, none⟩ = some (.int .i64 id) := (blk_cell hF 1).trans rfl
  have c0 : (w.alloc (.cells #[.bool false, .int .i64 id, .bool rm, .int .i64 ln, .slice A n c] 24)).cell? ⟨w.heap.size, 0, none⟩ = some (.bool false) := (blk_cell hF 0).trans rfl
  have HF := Aside0.mk hF
  have HRA := Aside0.mk hrA
  have HBA := Aside0.mk hBA
  have HKA := Aside0.mk hkA
  clear hF hrA hBA hkA
  go_wp2_with fail
  refine (frame_put g B xs id 11 w0 _ HRA.out HBA.out (by have := HL.out; omega)).mono ?_
  rintro r w1 ⟨rfl, hr1, hB1, hk1⟩
  have hF1 := hk1.2 _ _ _ _ HF.out HNE.out (by decide)
  have c2 : w1.cell? ⟨w.heap.size, 2, none⟩ = some (.bool rm) := (blk_cell hF1 2).trans rfl
  have HR1 := Aside0.mk hr1
  have HB1 := Aside0.mk hB1
  have HK1 := Aside0.mk (HKA.out.trans hk1)
  clear hr1 hB1 hk1 c0 c1 HF HRA HBA HKA hF1
  go_wp2_with fail
  refine (frame_flag g B _ rm w0 _ HR1.out HB1.out (Nat.le_trans (frame_app_len _ _ HL.out) (by decide))).mono ?_
  rintro r w2 ⟨rfl, hr2, hB2, hk2⟩
  have HR2 := Aside0.mk hr2
  have HB2 := Aside0.mk hB2
  have HK2 := Aside0.mk (HK1.out.trans hk2)
  clear hr2 hB2 hk2 HR1 HB1 HK1 c2
  go_wp2_with fail
  refine (frame_put g B _ 0 1 w0 _ HR2.out HB2.out (Nat.le_trans (frame_app_len _ _ (frame_app_len _ _ HL.out)) (by decide))).mono ?_
  rintro r w3 ⟨rfl, hr3, hB3, hk3⟩
  have HR3 := Aside0.mk hr3
  have HB3 := Aside0.mk hB3
  have HK3 := Aside0.mk (HK2.out.trans hk3)
  clear hr3 hB3 hk3 HR2 HB2 HK2
  go_wp2_with fail
  go_end0
  refine ⟨rfl, ?_, HB3.out, HK3.out⟩
  have := HR3.out
  unfold frame_rankB frame_bit
  rw [if_neg (by decide)]
  simpa only [List.append_assoc] using this

/-! ### bits_Spread: function 30 -/
def bits_Spread.f (l0 : List Int) : Option (List Int) := if l0.length ≤ 1099511627776 then some (H.spreadB l0) else none
theorem bits_spread_snoc (l : List Int) (x : Int) : H.spreadB (l ++ [x]) = H.spreadB l ++ H.bitsOf (wrap64 x) 8 := by simp [H.spreadB, List.flatMap_append]
theorem bits_spread_length (l : List Int) : (H.spreadB l).length = 8 * l.length := by
 induction l with
 | nil => rfl
 | cons x l ih => rw [show H.spreadB (x :: l) = H.bitsOf (wrap64 x) 8 ++ H.spreadB l from rfl, List.length_append, H.bitsOf_length, ih, List.length_cons]; omega
section
attribute [local go_sem] Oper.semAt_some
set_option maxRecDepth 100000 in
set_option maxHeartbeats 2000000 in
theorem bits_spread1 (B g cap base n₀ : Nat) (x : Int) (ys : List Int) (W : World) (hv : Boxed W B 25 (.slice (some ⟨g, 0, none⟩) ys.length cap)) (hrow : W.ownsRow base 3 1 (.slice (some ⟨g, 0, none⟩) ys.length cap) ys.length (encs (Value.int .i64) ys))
  (hcap : ys.length + 8 ≤ cap) (hgB : g ≠ B) (hnB : n₀ ≤ B) (hng : n₀ ≤ g) :
  Calls Try.prog 40 #[.int .u8 x, .pointer (some ⟨B, 0, none⟩)] W fun e W' => e = .returned (.tuple #[]) ∧ Boxed W' B 25 (.slice (some ⟨g, 0, none⟩) (ys.length + 8) cap) ∧
   W'.ownsRow base 3 1 (.slice (some ⟨g, 0, none⟩) (ys.length + 8) cap) (ys.length + 8) (encs (Value.int .i64) (ys ++ H.bitsOf (wrap64 x) 8)) ∧ Below n₀ W W' := by
 obtain ⟨i0, hi, hz0, hz1, hz2⟩ := info_parts info3
 have hgW : g < W.heap.size := own_lt hrow g rfl
 have hBW : B < W.heap.size := hv.lt
 have hf1 : Fence.wide.fn 41 := trivial
 have hf2 : Fence.wide.fn 46 := trivial
 refine (callsIn_wide (n := 5)).1 ?_
 refine callsIn_of_wp_marks Try.func40 rfl trivial ?_ rfl
 simp only [Try.ntmps40, List.size_toArray, List.length_cons, List.length_nil, Nat.reduceAdd, Nat.reduceSub, Array.replicate_succ, Array.replicate_zero, List.push_toArray, List.append_toArray, List.nil_append, List.cons_append]
 gi_wp2_with (gi_at_call 41; refine (callsIn_wide.2 (bits_shifts_calls _ _ _)).mono ?_; rintro e w' ⟨rfl, rfl⟩)
 have bN := Boxed.new W 3 (.int .i64 (wrap64 x))
 have bM := Boxed.new (W.alloc (.cells #[.int .i64 (wrap64 x)] 3)) 3 (.int .i64 8)
 simp only [World.size_alloc] at bM
 have hB0 : Below n₀ W ((W.alloc (.cells #[.int .i64 (wrap64 x)] 3)).alloc (.cells #[.int .i64 8] 3)) := ((Below.refl _ W).alloc (by omega) _).alloc (by simp; omega) _
 refine wpIn_rangeFunc_ownG rfl (by omega) (gf := 46) (lb := #[.pointer (some ⟨W.heap.size + 1, 0, none⟩), .pointer (some ⟨W.heap.size, 0, none⟩)]) rfl trivial (enters_of Try.func46 (by kernel_rfl) rfl)
  (bits_stops _ W.heap.size (W.heap.size + 1) (wrap64 x) 8 (by omega) (fun A B => ∀ t v, Boxed A W.heap.size t v → Boxed B W.heap.size t v) (fun A B h => h) _ (bN.alloc _) bM)
  (fun h k t v hv => k t v (h t v hv)) (fun W l o o' hl ho hc _ t v hv => hv.kept (grownBy_putObj' W l o') (fun he => by cases he; rw [show W.heap[_]? = _ from hv] at ho; cases ho; cases hc)) (Below.refl _ _) (fun _ => rfl)
  (fun pre W1 => (∃ v, Boxed W1 B 25 v ∧ W1.ownsRow base 3 1 v (ys.length + pre.length) (encs (Value.int .i64) (ys ++ pre)) ∧ v = .slice (some ⟨g, 0, none⟩) (ys.length + pre.length) cap) ∧ W.heap.size + 2 ≤ W1.heap.size ∧ Below n₀ W W1)
  (fun _ _ _ => False)
  (OwnFrom.and (Own.from (holdsRow_own base B 25 3 1 (fun pre => ys.length + pre.length) (fun pre => encs (Value.int .i64) (ys ++ pre)) (fun pre v => v = .slice (some ⟨g, 0, none⟩) (ys.length + pre.length) cap)) _) (OwnFrom.and (Own.from (bits_own_size (W.heap.size + 2)) _) (ownFrom_below (by omega) (by simp; omega))))
  (fun _ _ _ _ _ hs _ _ => hs)
  ⟨⟨_, (hv.alloc _).alloc _, by simpa using (hrow.alloc _).alloc _, rfl⟩, by simp, hB0⟩
  (fun y => { tmps := #[.int .u8 x, .pointer (some ⟨B, 0, none⟩), undef, .int .i64 y, .int .u8 x, .int .i64 (wrap64 x), .func (.func 46) #[] #[.pointer (some ⟨W.heap.size + 1, 0, none⟩), .pointer (some ⟨W.heap.size, 0, none⟩)], .int .i64 y, undef, undef, undef, undef], defers := [] }) ?assign ?body ?done ?stop
 case assign =>
  intro l x W K hK
  gi_wp2
  exact hK
 case body =>
  rintro l pre y W1 ⟨⟨v, hv, hrow, rfl⟩, hW3, hB⟩ hlt
  have hc := hv.cell
  have s1 : ys.length + pre.length + 1 ≤ cap := by omega
  gi_wp2_with (gi_at_builtin; refine wpListIn_append_fits _ rfl _ _ 25 rfl base 3 i0 1 Try.underlying25 hi hz1 g (ys.length + pre.length) cap _ rfl (hrow.alloc _) ⟨W1.heap.size, 0, none⟩ 1 1 [.int .i64 y] rfl rfl (cell_one_new _ _ _) (by simp [Value.oneCell']) s1 ?_; intro w1 hown' hgrow; obtain ⟨hv1, hv2, hr2, hk2, hb2, hx2, hz2⟩ := bits_appended' (n₀ := n₀) hv hrow (by have := hB.size; omega) hnB hng hgB hown' hgrow; have hc1 := hv1.cell; have hf1 := hv1.frozen)
  exact ⟨hk2.from _, fun t u hu => hx2 _ t u (by omega) (by omega) hu, ⟨_, hv2, by simpa [encs, Nat.add_assoc] using hr2, by simp [Nat.add_assoc]⟩, Nat.le_trans hW3 hz2, hB.trans hb2⟩
 case done =>
  rintro D zs W1 hD rfl ⟨⟨v, hv, hrow, rfl⟩, hW3, hB⟩ hK
  rw [H.bitsOf_length] at hv hrow
  gi_wp2
  refine ⟨by simp, .inl ⟨_, _, rfl, run_takeDeferred hK, ?_⟩⟩
  refine ⟨_, results_none rfl _ _ _, rfl, hv.kept (grownBy_putObj' W1 D _) (fun he => by cases he; rw [show W1.heap[_]? = _ from hv] at hK; cases hK), ownsRow_putObj hrow _ hK rfl, ?_⟩
  exact hB.trans (belowK_b (w := W) (by omega) W1 D _ _ (by simp at hD; omega) hK rfl rfl)
 case stop =>
  rintro D c pre W _ _ h _
  exact h.elim
end
set_option maxHeartbeats 800000 in
set_option maxRecDepth 100000 in
theorem bits_Spread.calls (A0 : Option Addr) (c0 : Nat) (l0 : List Int) (r : List Int) (w : World) (hr0 : Kd.C (Kd.int .u8) w A0 l0.length l0) (hc0 : l0.length ≤ c0) (h : bits_Spread.f l0 = some r) :
  Calls Try.prog 30 #[.slice A0 l0.length c0] w fun e w' => ∃ v0_ : Value, e = .returned v0_ ∧ Kd.R (Kd.int .i64) 3 w' w.heap.size (fun _ => True) v0_ r ∧ Below w.heap.size w w' := by
 have hmf : ∀ (fn : Fn) (first cap : Array Value) (w : World), (Instr.makeFunc fn first cap).run Try.prog w = .ok (.func fn first cap) w := fun _ _ _ _ => rfl
 obtain ⟨i0, hi, hz0, hz1, hz2⟩ := info_parts info3
 unfold bits_Spread.f at h
 by_cases hle : l0.length ≤ 1099511627776
 ·rw [if_pos hle] at h
  obtain rfl := Option.some.inj h
  clear h
  have HR0 := Aside0.mk hr0
  have HC0 := Aside0.mk hc0
  clear hr0 hc0
  have hmk : ∀ W : World, (Instr.makeSlice 25 (.int .i64 0) (.int .i64 (8 * (l0.length : Int)))).run Try.prog W = .ok (.slice (some ⟨W.heap.size, 0, none⟩) 0 (8 * l0.length)) (W.alloc (.cells (madeCells #[.int .i64 0] (8 * l0.length)) 3)) := fun W => by
   have := run_make (P := Try.prog) W 25 3 i0 (.int .i64 0) Try.underlying25 hi hz0 .i64 .i64 0 (8 * l0.length : Nat) (by omega) (by omega) (by rw [hz2]; omega) (by omega)
   rw [hz1, Int.toNat_natCast, Nat.mul_one, show ((0 : Int).toNat) = 0 from rfl, show ((8 * l0.length : Nat) : Int) = 8 * (l0.length : Int) by omega] at this
   exact this
  clear hi hz0 hz1 hz2
  go_enter Try.func30, Try.ntmps30
  go_wp2
  have hro := World.ownsRow_made (base := w.heap.size) (e := 3) (size := 1) w (madeCells #[Value.int .i64 0] (8 * l0.length)) (8 * l0.length) (Nat.le_refl _) (by simp only [maxLen]; omega) (by simp [madeCells])
  have bO := Boxed.new (w.alloc (.cells (madeCells #[.int .i64 0] (8 * l0.length)) 3)) 25 (.slice (some ⟨w.heap.size, 0, none⟩) 0 (8 * l0.length))
  simp only [World.size_alloc] at bO
  have HRO := Aside0.mk hro
  have BO := Aside0.mk bO
  clear hro bO
  go_loopw [14] (fun v wr => ∃ k : Nat, k ≤ l0.length ∧ v = .int .i64 k ∧ Aside0 (Boxed wr (w.heap.size + 1) 25 (.slice (some ⟨w.heap.size, 0, none⟩) (H.spreadB (l0.take k)).length (8 * l0.length))) ∧
   Aside0 (wr.ownsRow w.heap.size 3 1 (.slice (some ⟨w.heap.size, 0, none⟩) (H.spreadB (l0.take k)).length (8 * l0.length)) (H.spreadB (l0.take k)).length (encs (Value.int .i64) (H.spreadB (l0.take k)))) ∧ Aside0 (Below w.heap.size w wr)) (fun v _ => l0.length - (intOf v).toNat)
  case atStart => exact ⟨0, Nat.zero_le _, rfl, BO, ⟨HRO.out.alloc _⟩, ⟨((Below.refl _ w).alloc (Nat.le_refl _) _).alloc (by simp) _⟩⟩
  case round =>
   obtain ⟨k, hk, rfl, HB, HO, HW⟩ := hrel
   by_cases hlt : k < l0.length
   ·have p1 : 0 ≤ (k : Int) := by omega
    have q1 : (k : Int) < (l0.length : Int) := by omega
    obtain ⟨ad, e1, hx⟩ := Kd.at_int HR0.out k p1 q1
    cases e1
    have hx2 : wr.cell? (ad.add k) = some (.int .u8 (rd l0 k)) := pw_cell_below HW.out hx
    clear hx
    go_wp2_with fail
    refine (bits_spread1 (w.heap.size + 1) w.heap.size (8 * l0.length) w.heap.size w.heap.size (rd l0 k) (H.spreadB (l0.take k)) _ HB.out HO.out (by rw [bits_spread_length, List.length_take]; omega) (by omega) (by omega) (Nat.le_refl _)).mono ?_
    rintro e w1 ⟨rfl, hb1, ho1, hw1⟩
    have HB1 := Aside0.mk hb1
    have HO1 := Aside0.mk ho1
    have HW1 := Aside0.mk (HW.out.trans hw1)
    clear hb1 ho1 hw1
    go_wp2_with fail
    have hl := bits_spread_length (l0.take k)
    have hsn : H.spreadB (l0.take (k + 1)) = H.spreadB (l0.take k) ++ H.bitsOf (wrap64 (rd l0 k)) 8 := by rw [H.take_snoc 0 l0 k hlt, bits_spread_snoc]; rfl
    have hln : (H.spreadB (l0.take (k + 1))).length = (H.spreadB (l0.take k)).length + 8 := by rw [hsn, List.length_append, H.bitsOf_length]
    have HSN := Aside0.mk hsn
    have HLN := Aside0.mk hln
    clear hsn hln hl
    go_roundw
    case rel => exact ⟨k + 1, by omega, by go_num, ⟨by rw [HLN.out]; exact HB1.out⟩, ⟨by rw [HLN.out, HSN.out]; exact HO1.out⟩, HW1⟩
    case measure => simp [intOf]; omega
   ·obtain rfl : k = l0.length := by omega
    have hc9 := HB.out.cell
    rw [List.take_length] at hc9 HO
    go_wp2_with fail
    go_ret
    exact ⟨_, rfl, Kd.R_of_own HO.out (fun _ _ => trivial), HW.out⟩
 ·rw [if_neg hle] at h; cases h

/-! ### frame_Head: function 17 -/
def frame_Head.f (b0 : Bool) (n1 : Int) (b2 : Bool) (n3 : Int) (l4 : List Int) : Option (List Int) := if l4.length ≤ 1073741824 then some (frame_headB b0 n1 b2 n3 l4) else none
set_option maxHeartbeats 3200000 in
set_option maxRecDepth 100000 in
theorem frame_Head.calls (a0_0 : Bool) (a0_1 : Int) (a0_2 : Bool) (a0_3 : Int) (A0_4 : Option Addr) (c0_4 : Nat) (l0_4 : List Int) (r : List Int) (w : World) (hr0_4 : Kd.C (Kd.int .u8) w A0_4 l0_4.length l0_4) (hc0_4 : l0_4.length ≤ c0_4) (h : frame_Head.f a0_0 a0_1 a0_2 a0_3 l0_4 = some r) :
  Calls Try.prog 17 #[.agg #[.bool a0_0, .int .i64 a0_1, .bool a0_2, .int .i64 a0_3, .slice A0_4 l0_4.length c0_4]] w fun e w' => ∃ v0_ : Value, e = .returned v0_ ∧ Kd.R (Kd.int .i64) 3 w' w.heap.size (fun _ => True) v0_ r ∧ Below w.heap.size w w' := by
 unfold frame_Head.f at h
 by_cases hle : l0_4.length ≤ 1073741824
 case neg => rw [if_neg hle] at h; cases h
 rw [if_pos hle] at h
 obtain rfl := Option.some.inj h
 clear h
 have HLE := Aside0.mk hle
 have HR0 := Aside0.mk hr0_4
 have HC0 := Aside0.mk hc0_4
 clear hr0_4 hc0_4 hle
 have hu := Try.underlying24
 have hF := blk_alloc (blk_new w (.cells #[.bool a0_0, .int .i64 a0_1, .bool a0_2, .int .i64 a0_3, .slice A0_4 l0_4.length c0_4] 24)) (.cells #[.slice none 0 0] 44)
 have hr := blk_new (w.alloc (.cells #[.bool a0_0, .int .i64 a0_1, .bool a0_2, .int .i64 a0_3, .slice A0_4 l0_4.length c0_4] 24)) (.cells #[.slice none 0 0] 44)
 rw [World.size_alloc] at hr
 have hb := below_alloc (below_alloc (Below.refl w.heap.size w) (.cells #[.bool a0_0, .int .i64 a0_1, .bool a0_2, .int .i64 a0_3, .slice A0_4 l0_4.length c0_4] 24)) (.cells #[.slice none 0 0] 44)
 have HNE := Aside0.mk (show w.heap.size ≠ w.heap.size + 1 by omega)
 have HF := Aside0.mk hF
 have HR := Aside0.mk hr
 have HB := Aside0.mk hb
 clear hF hr hb
 cases a0_0 with
 | true =>
  go_enter Try.func17, Try.ntmps17
  go_wp2_with fail
  refine (frame_put (w.heap.size + 1) w.heap.size [] 0 1 w _ ⟨by omega, _, HR.out, Kd.R_nil _ _ _ _ _⟩ HB.out (by simp)).mono ?_
  rintro e w1 ⟨rfl, hr1, hB1, hk1⟩
  have hF1 := hk1.2 _ _ _ _ HF.out HNE.out (by decide)
  have c0 := (blk_cell hF1 0).trans rfl
  have c1 := (blk_cell hF1 1).trans rfl
  have c2 := (blk_cell hF1 2).trans rfl
  have c3 := (blk_cell hF1 3).trans rfl
  have c4 := (blk_cell hF1 4).trans rfl
  have HF1 := Aside0.mk hF1
  have HR1 := Aside0.mk hr1
  have HB1 := Aside0.mk hB1
  clear hr1 hB1 hk1 hF1
  go_wp2_with fail
  refine (frame_rank (w.heap.size + 1) w.heap.size _ true a0_1 a0_2 a0_3 A0_4 l0_4.length c0_4 w _ HR1.out HB1.out (Nat.le_trans (frame_app_len _ _ (k := 0) (Nat.le_refl _)) (by decide))).mono ?_
  rintro e w2 ⟨rfl, hr2, hB2, hk2⟩
  have HF2 := Aside0.mk (hk2.2 _ _ _ _ HF1.out HNE.out (by decide))
  have HR2 := Aside0.mk hr2
  have HB2 := Aside0.mk hB2
  have HL2 := Aside0.mk (show ([] ++ (H.putB 0 1).1 ++ frame_rankB true a0_1 a0_2).length ≤ 160 by have := frame_rankB_len true a0_1 a0_2; have := frame_rankB_len false a0_1 a0_2; have := frame_putB_len 0 1; simp only [List.nil_append, List.length_append]; omega)
  clear hr2 hB2 hk2 HF1 HR1 HB1 c0 c1 c2 c3 c4
  go_wp2_with fail
  refine (frame_put (w.heap.size + 1) w.heap.size _ 0 1 w _ HR2.out HB2.out (Nat.le_trans HL2.out (by decide))).mono ?_
  rintro e w3 ⟨rfl, hr3, hB3, hk3⟩
  have hF3 := hk3.2 _ _ _ _ HF2.out HNE.out (by decide)
  have c0 := (blk_cell hF3 0).trans rfl
  have HF3 := Aside0.mk hF3
  have HR3 := Aside0.mk hr3
  have HB3 := Aside0.mk hB3
  have HL3 := Aside0.mk (frame_app_len 0 1 HL2.out)
  clear hr3 hB3 hk3 hF3 HF2 HR2 HB2 HL2
  go_wp2_with fail
  refine (frame_put (w.heap.size + 1) w.heap.size _ 0 1 w _ HR3.out HB3.out (Nat.le_trans HL3.out (by decide))).mono ?_
  rintro e w4 ⟨rfl, hr4, hB4, hk4⟩
  have hF4 := hk4.2 _ _ _ _ HF3.out HNE.out (by decide)
  have c3 := (blk_cell hF4 3).trans rfl
  have HF4 := Aside0.mk hF4
  have HR4 := Aside0.mk hr4
  have HB4 := Aside0.mk hB4
  have HL4 := Aside0.mk (frame_app_len 0 1 HL3.out)
  clear hr4 hB4 hk4 hF4 HF3 HR3 HB3 HL3 c0
  go_wp2_with fail
  refine (frame_put (w.heap.size + 1) w.heap.size _ a0_3 4 w _ HR4.out HB4.out (Nat.le_trans HL4.out (by decide))).mono ?_
  rintro e w5 ⟨rfl, hr5, hB5, hk5⟩
  have hF5 := hk5.2 _ _ _ _ HF4.out HNE.out (by decide)
  have c4 := (blk_cell hF5 4).trans rfl
  have HL5 := Aside0.mk (frame_app_len a0_3 4 HL4.out)
  clear HF4 HR4 HB4 HL4 c3
  obtain ⟨_, v, hv, hR⟩ := hr5
  obtain ⟨A1, k1, rfl⟩ := Kd.R_slice hR
  have d0 := (blk_cell hv 0).trans rfl
  have HF5 := Aside0.mk hF5
  have HV5 := Aside0.mk hv
  have HR5 := Aside0.mk hR
  have HB5 := Aside0.mk hB5
  clear hF5 hv hR hB5 hk5
  generalize hLL : ([] ++ (H.putB 0 1).1 ++ frame_rankB true a0_1 a0_2 ++ (H.putB 0 1).1 ++ (H.putB 0 1).1 ++ (H.putB a0_3 4).1) = L at *
  have HLL := Aside0.mk hLL
  clear hLL
  replace d0 : w5.cell? ⟨w.heap.size + 1, 0, none⟩ = some (.slice A1 L.length k1) := d0
  replace c4 : w5.cell? ⟨w.heap.size, 4, none⟩ = some (.slice A0_4 l0_4.length c0_4) := c4
  have HD0 := Aside0.mk d0
  go_wp2_with fail
  go_region_law (first | (refine HW.step_append_ints .i64 (w0 := w) w.heap.size (by rfl) _ _ 25 3 8 (by rfl) Try.underlying25 info3 (by decide) _ L (H.spreadB l0_4) _ _ _ (by rfl) (by rfl) HR6.out HC6.out HB6.out (below_size HB6.out) (by have := HLE.out; have := HL5.out; have := bits_spread_length l0_4; omega) ?_; intro v7 w7 hR7 hB7 hG7) | (go_simp; go_at_call 30; refine (bits_Spread.calls A0_4 c0_4 l0_4 (H.spreadB l0_4) _ (Kd.C_below HR0.out (pw_below_drewN HB5.out 1)) HC0.out (if_pos (by have := HLE.out; omega))).mono ?_; rintro e w6 ⟨v6, rfl, hR6, hb6⟩; obtain ⟨A6, k6, rfl, hk6, hC6⟩ := Kd.R_reads hR6; have hd6 := pw_cell_below hb6 HD0.out; have HR6 := Aside0.mk (Kd.R_below (Kd.R_drewN HR5.out 1) hb6); have HC6 := Aside0.mk hC6; have HB6 := Aside0.mk (below_step (pw_below_drewN HB5.out 1) hb6); clear hR6 hb6 hk6 hC6))
  all_goals
   have HR7 := Aside0.mk hR7
   have HB7 := Aside0.mk hB7
   clear hR7 hB7 hG7
   go_wp2_with fail
   go_ret
   refine ⟨v7, rfl, ?_, HB7.out⟩
   have hfin := HR7.out
   rw [← HLL.out] at hfin
   unfold frame_headB
   rw [if_pos rfl]
   simpa only [List.nil_append, List.append_nil, List.append_assoc] using hfin
 | false =>
  go_enter Try.func17, Try.ntmps17
  go_wp2_with fail
  refine (frame_put (w.heap.size + 1) w.heap.size [] 0 1 w _ ⟨by omega, _, HR.out, Kd.R_nil _ _ _ _ _⟩ HB.out (by simp)).mono ?_
  rintro e w1 ⟨rfl, hr1, hB1, hk1⟩
  have hF1 := hk1.2 _ _ _ _ HF.out HNE.out (by decide)
  have c0 := (blk_cell hF1 0).trans rfl
  have c1 := (blk_cell hF1 1).trans rfl
  have c2 := (blk_cell hF1 2).trans rfl
  have c3 := (blk_cell hF1 3).trans rfl
  have c4 := (blk_cell hF1 4).trans rfl
  have HF1 := Aside0.mk hF1
  have HR1 := Aside0.mk hr1
  have HB1 := Aside0.mk hB1
  clear hr1 hB1 hk1 hF1
  go_wp2_with fail
  refine (frame_rank (w.heap.size + 1) w.heap.size _ false a0_1 a0_2 a0_3 A0_4 l0_4.length c0_4 w _ HR1.out HB1.out (Nat.le_trans (frame_app_len _ _ (k := 0) (Nat.le_refl _)) (by decide))).mono ?_
  rintro e w2 ⟨rfl, hr2, hB2, hk2⟩
  have HF2 := Aside0.mk (hk2.2 _ _ _ _ HF1.out HNE.out (by decide))
  have HR2 := Aside0.mk hr2
  have HB2 := Aside0.mk hB2
  have HL2 := Aside0.mk (show ([] ++ (H.putB 0 1).1 ++ frame_rankB false a0_1 a0_2).length ≤ 160 by have := frame_rankB_len true a0_1 a0_2; have := frame_rankB_len false a0_1 a0_2; have := frame_putB_len 0 1; simp only [List.nil_append, List.length_append]; omega)
  clear hr2 hB2 hk2 HF1 HR1 HB1 c0 c1 c2 c3 c4
  go_wp2_with fail
  refine (frame_put (w.heap.size + 1) w.heap.size _ 0 1 w _ HR2.out HB2.out (Nat.le_trans HL2.out (by decide))).mono ?_
  rintro e w3 ⟨rfl, hr3, hB3, hk3⟩
  have hF3 := hk3.2 _ _ _ _ HF2.out HNE.out (by decide)
  have c0 := (blk_cell hF3 0).trans rfl
  have c3 := (blk_cell hF3 3).trans rfl
  have HF4 := Aside0.mk hF3
  have HR4 := Aside0.mk hr3
  have HB4 := Aside0.mk hB3
  have HL4 := Aside0.mk (frame_app_len 0 1 HL2.out)
  clear hr3 hB3 hk3 hF3 HF2 HR2 HB2 HL2
  go_wp2_with fail
  refine (frame_put (w.heap.size + 1) w.heap.size _ a0_3 4 w _ HR4.out HB4.out (Nat.le_trans HL4.out (by decide))).mono ?_
  rintro e w5 ⟨rfl, hr5, hB5, hk5⟩
  have hF5 := hk5.2 _ _ _ _ HF4.out HNE.out (by decide)
  have c4 := (blk_cell hF5 4).trans rfl
  have HL5 := Aside0.mk (frame_app_len a0_3 4 HL4.out)
  clear HF4 HR4 HB4 HL4 c3 c0
  obtain ⟨_, v, hv, hR⟩ := hr5
  obtain ⟨A1, k1, rfl⟩ := Kd.R_slice hR
  have d0 := (blk_cell hv 0).trans rfl
  have HF5 := Aside0.mk hF5
  have HV5 := Aside0.mk hv
  have HR5 := Aside0.mk hR
  have HB5 := Aside0.mk hB5
  clear hF5 hv hR hB5 hk5
  generalize hLL : ([] ++ (H.putB 0 1).1 ++ frame_rankB false a0_1 a0_2 ++ (H.putB 0 1).1 ++ (H.putB a0_3 4).1) = L at *
  have HLL := Aside0.mk hLL
  clear hLL
  replace d0 : w5.cell? ⟨w.heap.size + 1, 0, none⟩ = some (.slice A1 L.length k1) := d0
  replace c4 : w5.cell? ⟨w.heap.size, 4, none⟩ = some (.slice A0_4 l0_4.length c0_4) := c4
  have HD0 := Aside0.mk d0
  go_wp2_with fail
  go_region_law (first | (refine HW.step_append_ints .i64 (w0 := w) w.heap.size (by rfl) _ _ 25 3 8 (by rfl) Try.underlying25 info3 (by decide) _ L (H.spreadB l0_4) _ _ _ (by rfl) (by rfl) HR6.out HC6.out HB6.out (below_size HB6.out) (by have := HLE.out; have := HL5.out; have := bits_spread_length l0_4; omega) ?_; intro v7 w7 hR7 hB7 hG7) | (go_simp; go_at_call 30; refine (bits_Spread.calls A0_4 c0_4 l0_4 (H.spreadB l0_4) _ (Kd.C_below HR0.out (pw_below_drewN HB5.out 1)) HC0.out (if_pos (by have := HLE.out; omega))).mono ?_; rintro e w6 ⟨v6, rfl, hR6, hb6⟩; obtain ⟨A6, k6, rfl, hk6, hC6⟩ := Kd.R_reads hR6; have hd6 := pw_cell_below hb6 HD0.out; have HR6 := Aside0.mk (Kd.R_below (Kd.R_drewN HR5.out 1) hb6); have HC6 := Aside0.mk hC6; have HB6 := Aside0.mk (below_step (pw_below_drewN HB5.out 1) hb6); clear hR6 hb6 hk6 hC6))
  all_goals
   have HR7 := Aside0.mk hR7
   have HB7 := Aside0.mk hB7
   clear hR7 hB7 hG7
   go_wp2_with fail
   go_ret
   refine ⟨v7, rfl, ?_, HB7.out⟩
   have hfin := HR7.out
   rw [← HLL.out] at hfin
   unfold frame_headB
   rw [if_neg (show ¬ (false = true) by decide)]
   simpa only [List.nil_append, List.append_nil, List.append_assoc] using hfin

/-! ### frame_Rank: function 19 -/
def frame_Rank.f (b0 : Bool) (n1 : Int) (b2 : Bool) (n3 : Int) (l4 : List Int) : Option (List Int) := some (frame_rankB b0 n1 b2)
set_option maxHeartbeats 1600000 in
set_option maxRecDepth 100000 in
theorem frame_Rank.calls (a0_0 : Bool) (a0_1 : Int) (a0_2 : Bool) (a0_3 : Int) (A0_4 : Option Addr) (c0_4 : Nat) (l0_4 : List Int) (r : List Int) (w : World) (hr0_4 : Kd.C (Kd.int .u8) w A0_4 l0_4.length l0_4) (hc0_4 : l0_4.length ≤ c0_4) (h : frame_Rank.f a0_0 a0_1 a0_2 a0_3 l0_4 = some r) :
  Calls Try.prog 19 #[.agg #[.bool a0_0, .int .i64 a0_1, .bool a0_2, .int .i64 a0_3, .slice A0_4 l0_4.length c0_4]] w fun e w' => ∃ v0_ : Value, e = .returned v0_ ∧ Kd.R (Kd.int .i64) 3 w' w.heap.size (fun _ => True) v0_ r ∧ Below w.heap.size w w' := by
 obtain rfl := Option.some.inj h
 clear h hr0_4 hc0_4
 have hu := Try.underlying24
 have hF := blk_alloc (blk_new w (.cells #[.bool a0_0, .int .i64 a0_1, .bool a0_2, .int .i64 a0_3, .slice A0_4 l0_4.length c0_4] 24)) (.cells #[.slice none 0 0] 44)
 have hr := blk_new (w.alloc (.cells #[.bool a0_0, .int .i64 a0_1, .bool a0_2, .int .i64 a0_3, .slice A0_4 l0_4.length c0_4] 24)) (.cells #[.slice none 0 0] 44)
 rw [World.size_alloc] at hr
 have hb := below_alloc (below_alloc (Below.refl w.heap.size w) (.cells #[.bool a0_0, .int .i64 a0_1, .bool a0_2, .int .i64 a0_3, .slice A0_4 l0_4.length c0_4] 24)) (.cells #[.slice none 0 0] 44)
 have HF := Aside0.mk hF
 have HR := Aside0.mk hr
 have HB := Aside0.mk hb
 have c0 := (blk_cell hF 0).trans rfl
 have c1 := (blk_cell hF 1).trans rfl
 have c2 := (blk_cell hF 2).trans rfl
 have c3 := (blk_cell hF 3).trans rfl
 have c4 := (blk_cell hF 4).trans rfl
 clear hF hr hb
 go_enter Try.func19, Try.ntmps19
 go_wp2_with fail
 refine (frame_rank (w.heap.size + 1) w.heap.size [] a0_0 a0_1 a0_2 a0_3 A0_4 l0_4.length c0_4 w _ ⟨by omega, _, HR.out, Kd.R_nil _ _ _ _ _⟩ HB.out (by simp)).mono ?_
 rintro e w1 ⟨rfl, ⟨_, v, hv, hR⟩, hB1, _⟩
 rw [List.nil_append] at hR
 obtain ⟨A1, k1, rfl⟩ := Kd.R_slice hR
 have d0 : w1.cell? ⟨w.heap.size + 1, 0, none⟩ = some (.slice A1 (frame_rankB a0_0 a0_1 a0_2).length k1) := (blk_cell hv 0).trans rfl
 have HR1 := Aside0.mk hR
 have HB1 := Aside0.mk hB1
 clear hv hR hB1 c0 c1 c2 c3 c4
 go_wp2_with fail
 go_ret
 exact ⟨_, rfl, HR1.out, HB1.out⟩

/-! ### frame_reader_take: helper -/
/-- A reader of bits: its variable's block. -/
def frame_RdAt (w : World) (g : Nat) (A : Option Addr) (n c at_ : Nat) : Prop := w.heap[g]? = some (.cells #[.slice A n c, .int .i64 (at_ : Int)] 52 (0, 0))
theorem frame_grown_drew (w : World) (row : Option Nat) : w.grownBy w.drew row := ⟨rfl, rfl, rfl, Nat.le_refl _, fun _ _ _ => rfl⟩
def frame_bitsAt (l : List Int) (at_ m : Nat) : List Int := (l.take (at_ + m)).drop at_
def frame_numAt (l : List Int) (at_ m : Nat) : Int := (H.getB (frame_bitsAt l at_ m)).1
theorem frame_bitsAt_len (l : List Int) (at_ m : Nat) (h : at_ + m ≤ l.length) : (frame_bitsAt l at_ m).length = m := by
 unfold frame_bitsAt; rw [List.length_drop, List.length_take]; omega
set_option maxHeartbeats 1600000 in
set_option maxRecDepth 100000 in
theorem frame_take_short (g : Nat) (A : Option Addr) (n c at_ m : Nat) (w : World) (h : frame_RdAt w g A n c at_) (ha : at_ ≤ n) (hn : n ≤ 1073741824) (hm : m ≤ 1000) (hs : n < at_ + m) :
  Calls Try.prog 45 #[.pointer (some ⟨g, 0, none⟩), .int .i64 (m : Int)] w fun e w' => e = .panicked [{ v := .iface 32 (.int .i64 40), recovered := false }] ∧ w.grownBy w' (some g) := by
 have c0 : w.cell? ⟨g, 0, none⟩ = some (.slice A n c) := (blk_cell h 0).trans rfl
 have c1 : w.cell? ⟨g, 1, none⟩ = some (.int .i64 (at_ : Int)) := (blk_cell h 1).trans rfl
 have q0 : wrap64 ((n : Int) - (at_ : Int)) < (m : Int) := by unfold wrap64; omega
 clear ha hn hm hs
 go_enter Try.func45, Try.ntmps45
 go_wp2_with fail
 go_region
 go_wp2_with fail
 exact ⟨rfl, rfl, frame_grown_drew w _⟩
set_option maxHeartbeats 1600000 in
set_option maxRecDepth 100000 in
theorem frame_take_ok (g : Nat) (A : Option Addr) (l : List Int) (c at_ m : Nat) (w0 w : World) (hg : w0.heap.size ≤ g) (hB : Below w0.heap.size w0 w) (hr : Kd.C (Kd.int .i64) w0 A l.length l) (hc : l.length ≤ c) (h : frame_RdAt w g A l.length c at_) (hn : l.length ≤ 1073741824) (hm : m ≤ 1000) (hs : at_ + m ≤ l.length) :
  Calls Try.prog 45 #[.pointer (some ⟨g, 0, none⟩), .int .i64 (m : Int)] w fun e w' => ∃ A' n' c', e = .returned (.slice A' n' c') ∧ n' = (frame_bitsAt l at_ m).length ∧ (frame_bitsAt l at_ m).length ≤ c' ∧ Kd.C (Kd.int .i64) w' A' (frame_bitsAt l at_ m).length (frame_bitsAt l at_ m) ∧ frame_RdAt w' g A l.length c (at_ + m) ∧ Below w0.heap.size w0 w' ∧ w.grownBy w' (some g) := by
 have c0 : w.cell? ⟨g, 0, none⟩ = some (.slice A l.length c) := (blk_cell h 0).trans rfl
 have c1 : w.cell? ⟨g, 1, none⟩ = some (.int .i64 (at_ : Int)) := (blk_cell h 1).trans rfl
 have f1 : w.frozen? ⟨g, 1, none⟩ = false := blk_frozen h 1
 have b1 := blk_set h 1 (.int .i64 (wrap64 ((at_ : Int) + (m : Int))))
 have d0 : (w.setCell ⟨g, 1, none⟩ (.int .i64 (wrap64 ((at_ : Int) + (m : Int))))).cell? ⟨g, 0, none⟩ = some (.slice A l.length c) := (blk_cell b1 0).trans rfl
 have d1 : (w.setCell ⟨g, 1, none⟩ (.int .i64 (wrap64 ((at_ : Int) + (m : Int))))).cell? ⟨g, 1, none⟩ = some (.int .i64 (wrap64 ((at_ : Int) + (m : Int)))) := (blk_cell b1 1).trans rfl
 have q0 : ¬ wrap64 ((l.length : Int) - (at_ : Int)) < (m : Int) := by unfold wrap64; omega
 have e1 : wrap64 ((at_ : Int) + (m : Int)) = ((at_ + m : Nat) : Int) := by unfold wrap64; omega
 have e2 : wrap64 (wrap64 ((at_ : Int) + (m : Int)) - (m : Int)) = (at_ : Int) := by unfold wrap64; omega
 obtain ⟨i0, hi, hz0, hz1, hz2⟩ := info_parts info3
 have hcut := cut_mid (P := Try.prog) 25 3 .i64 .i64 Try.underlying25 hi 1 hz1 A l.length c (wrap64 (wrap64 ((at_ : Int) + (m : Int)) - (m : Int))) (wrap64 ((at_ : Int) + (m : Int))) (by rw [e2]; omega) (by rw [e2, e1]; omega) (by rw [e1]; omega) hc
 generalize hAe : (if c = (wrap64 (wrap64 ((at_ : Int) + (m : Int)) - (m : Int))).toNat then A else A.map (·.add ((wrap64 (wrap64 ((at_ : Int) + (m : Int)) - (m : Int))).toNat * 1))) = A' at hcut
 have HAE := Aside0.mk hAe
 clear hAe
 have E1 := Aside0.mk e1
 have E2 := Aside0.mk e2
 have HB1 := Aside0.mk b1
 have HR := Aside0.mk hr
 have HC := Aside0.mk hc
 have HB := Aside0.mk hB
 have HG := Aside0.mk hg
 have HS := Aside0.mk hs
 clear hn hm hs e1 e2 b1 hr hc hB hg hi hz0 hz1 hz2 h
 go_enter Try.func45, Try.ntmps45
 go_wp2_with fail
 go_region
 go_wp2_with fail
 go_region
 go_wp2_with fail
 go_ret
 have hbl : Below w0.heap.size w0 (w.setCell ⟨g, 1, none⟩ (.int .i64 (wrap64 ((at_ : Int) + (m : Int))))) := HB.out.setCell (p := ⟨g, 1, none⟩) HG.out _
 have hC := Kd.C_mid (c := c) (Kd.C_below HR.out hbl) (lo := at_) (hi := at_ + m) (by omega) HS.out HC.out
 have hl := frame_bitsAt_len l at_ m HS.out
 have h1 := E1.out
 have h2 := E2.out
 have h3 := HC.out
 have h4 := HS.out
 have hb1 := HB1.out
 have hA := HAE.out
 rw [h2, Int.toNat_natCast, Nat.mul_one] at hA
 have hC' : Kd.C (Kd.int .i64) (w.setCell ⟨g, 1, none⟩ (.int .i64 (wrap64 ((at_ : Int) + (m : Int))))) A' (frame_bitsAt l at_ m).length (frame_bitsAt l at_ m) := by
  rw [← hA]
  have hs : (Kd.int .i64).sz = 1 := rfl
  rw [hs, Nat.mul_one] at hC
  exact hC
 refine ⟨_, _, _, rfl, ?_, ?_, ?_, ?_, ?_, ?_⟩
 ·rw [hl, h2, h1]; omega
 ·rw [hl, h2]; omega
 ·exact Kd.C_drew (Kd.C_drew hC')
 ·rw [h1] at hb1 ⊢; exact hb1
 ·exact below_drew1 (below_drew1 hbl)
 ·exact ⟨rfl, rfl, rfl, by simp [World.setCell, World.drew], fun k _ hk => Below.heap_setCell _ _ _ k (fun e => hk (by rw [e]))⟩

/-! ### bits_Right: function 48 -/
def bits_Right.l0 : Nat → List Int → Int → Int → Option (Bool)
 | 0, _, _, _ => none
 | k + 1, x5, x6, x7 => if x7 < x6 then (if 0 ≤ x7 then (if x7 < (x5.length : Int) then (if (Go.bits .andNot .i64 (rd x5 x7) 1) = 0 then (bits_Right.l0 k x5 x6 (wrap64 (x7 + 1))) else (some false)) else (none)) else (none)) else (some true)
def bits_Right.f (k : Nat) (l0 : List Int) : Option (Bool) := bits_Right.l0 k l0 (l0.length : Int) 0
theorem bits_Right.mono_l : ∀ k, (∀ y0 y1 y2, LeO (bits_Right.l0 k y0 y1 y2) (bits_Right.l0 (k + 1) y0 y1 y2))
 | 0 => fun _ _ _ r h => by simp [bits_Right.l0] at h
 | k + 1 => by
  have ih0 := bits_Right.mono_l k
  ·intro y0 y1 y2
   unfold bits_Right.l0
   repeat' first
   | (with_reducible exact ih0 _ _ _)
   | (with_reducible exact LeO.refl _)
   | (with_reducible exact LeO.none _)
   | (with_reducible refine LeO.ite ?_ ?_)
   | (with_reducible refine LeO.bind ?_ (fun _ => ?_))
   | exact ih0 _ _ _
   | exact LeO.none _
   | refine LeO.ite ?_ ?_
   | refine LeO.bind ?_ (fun _ => ?_)
theorem bits_Right.mono : ∀ a0 k, LeO (bits_Right.f k a0) (bits_Right.f (k + 1) a0) := by
 intro a0 k
 have ih0 := bits_Right.mono_l k
 unfold bits_Right.f
 repeat' first
   | (with_reducible exact ih0 _ _ _)
   | (with_reducible exact LeO.refl _)
   | (with_reducible exact LeO.none _)
   | (with_reducible refine LeO.ite ?_ ?_)
   | (with_reducible refine LeO.bind ?_ (fun _ => ?_))
   | exact ih0 _ _ _
   | exact LeO.none _
   | refine LeO.ite ?_ ?_
   | refine LeO.bind ?_ (fun _ => ?_)
set_option maxHeartbeats 8000000 in
set_option maxRecDepth 100000 in
theorem bits_Right.calls (k : Nat) (A0 : Option Addr) (c0 : Nat) (l0 : List Int) (r : Bool) (w : World) (hr0 : Kd.C (Kd.int .i64) w A0 l0.length l0) (hc0 : l0.length ≤ c0) (h : bits_Right.f k l0 = some r) :
  Calls Try.prog 48 #[.slice A0 l0.length c0] w fun e w' => e = .returned (.bool r) ∧ Drawn0 w w' := by
 have HR0 := Aside0.mk hr0
 have HC0 := Aside0.mk hc0
 clear hr0 hc0
 have H : (bits_Right.l0 k l0 (l0.length : Int) 0) = some r := h
 clear h
 have H' := Aside0.mk H
 clear H
 go_enter Try.func48, Try.ntmps48
 go_wp2
 go_loopg [7] k (fun kq v7 w' => ∃ (x7_1 : Int), v7 = .int .i64 x7_1 ∧ Aside0 (bits_Right.l0 kq l0 (l0.length : Int) x7_1 = some r) ∧ Aside0 (kq ≤ k) ∧ Drawn0 w w')
 case atStart => exact ⟨(0), (by first | rfl | (simp; done) | (simp [*]; done)), H', ⟨Nat.le_refl _⟩, by repeat (first | exact Drawn0.refl _ | apply Drawn0.step)⟩
 case round =>
  clear H'
  obtain ⟨x7_1, rfl, HA, HK1, ⟨m1, rfl⟩⟩ := hrel
  cases gk with
  | zero => exact absurd HA.out (by simp [bits_Right.l0])
  | succ k1 =>
   have H := HA.out
   clear HA
   simp only [bits_Right.l0] at H
   by_cases c2 : x7_1 < (l0.length : Int)
   ·rw [if_pos c2] at H
    have c2b0 : decide (x7_1 < (l0.length : Int)) = true := decide_eq_true c2
    clear c2
    by_cases c3 : 0 ≤ x7_1
    ·rw [if_pos c3] at H
     have c3b0 : decide (0 ≤ x7_1) = true := decide_eq_true c3
     clear c3
     by_cases c4 : x7_1 < (l0.length : Int)
     ·rw [if_pos c4] at H
      have c4b0 : decide (x7_1 < (l0.length : Int)) = true := decide_eq_true c4
      clear c4
      by_cases c5 : (Go.bits .andNot .i64 (rd l0 x7_1) 1) = 0
      ·rw [if_pos c5] at H
       have c5b0 : ((Go.bits .andNot .i64 (rd l0 x7_1) 1) == 0) = true := beq_iff_eq.mpr c5
       have c5b1 : ((Go.bits .andNot .i64 (rd l0 x7_1) 1) != 0) = false := bne_eq_false_iff_eq.mpr c5
       clear c5
       have H' := Aside0.mk H
       clear H
       have p110 : 0 ≤ (x7_1 : Int) := of_decide_eq_true (by first | (with_reducible assumption) | assumption)
       have q110 : x7_1 < (l0.length : Int) := of_decide_eq_true (by first | (with_reducible assumption) | assumption)
       obtain ⟨ad110, e110, hx110_0⟩ := Kd.at_int HR0.out x7_1 p110 q110
       cases e110
       replace p110 := eq_true p110
       replace q110 := eq_true q110
       go_wp2
       go_roundg k1
       case measure => have := HK1.out; omega
       case rel => exact ⟨(wrap64 (x7_1 + 1)), (by first | rfl | (simp; done) | (simp [*]; done)), H', ⟨by have := HK1.out; omega⟩, by repeat (first | exact Drawn0.refl _ | apply Drawn0.step)⟩
      ·rw [if_neg c5] at H
       have c5b0 : ((Go.bits .andNot .i64 (rd l0 x7_1) 1) == 0) = false := beq_eq_false_iff_ne.mpr c5
       have c5b1 : ((Go.bits .andNot .i64 (rd l0 x7_1) 1) != 0) = true := bne_iff_ne.mpr c5
       obtain rfl := Option.some.inj H
       have p110 : 0 ≤ (x7_1 : Int) := of_decide_eq_true (by first | (with_reducible assumption) | assumption)
       have q110 : x7_1 < (l0.length : Int) := of_decide_eq_true (by first | (with_reducible assumption) | assumption)
       obtain ⟨ad110, e110, hx110_0⟩ := Kd.at_int HR0.out x7_1 p110 q110
       cases e110
       replace p110 := eq_true p110
       replace q110 := eq_true q110
       go_wp2
       go_ret
       exact ⟨by first | rfl | (simp; done) | (simp [*]; done), by repeat (first | exact Drawn0.refl _ | apply Drawn0.step)⟩
     ·exfalso; (try simp only [decide_eq_true_eq, decide_eq_false_iff_not, beq_iff_eq, beq_eq_false_iff_ne, ne_eq] at c2b0); omega
    ·rw [if_neg c3] at H
     exact absurd H (by simp)
   ·rw [if_neg c2] at H
    have c2b0 : decide (x7_1 < (l0.length : Int)) = false := decide_eq_false c2
    clear c2
    obtain rfl := Option.some.inj H
    go_wp2
    go_ret
    exact ⟨by first | rfl | (simp; done) | (simp [*]; done), by repeat (first | exact Drawn0.refl _ | apply Drawn0.step)⟩

/-! ### bits_Get: function 47 -/
mutual
def bits_Get.j0 : Nat → List Int → Bool → Option (Int × Bool)
 | 0, _, _ => none
 | k + 1, x0, x14 => if x14 = true then (some (0, false)) else (bits_Get.l0 k 0 x0 (x0.length : Int) 0)
def bits_Get.l0 : Nat → Int → List Int → Int → Int → Option (Int × Bool)
 | 0, _, _, _, _ => none
 | k + 1, x4, x15, x16, x17 => if x17 < x16 then (if 0 ≤ x17 then (if x17 < (x15.length : Int) then (bits_Get.l0 k (Go.bits .or .i64 (wrap64 (x4 * 2)) (rd x15 x17)) x15 x16 (wrap64 (x17 + 1))) else (none)) else (none)) else (some (x4, true))
end
def bits_Get.f (k : Nat) (l0 : List Int) : Option (Int × Bool) := if (l0.length : Int) > 32 then (bits_Get.j0 k l0 true) else ((bits_Right.f k l0).bind fun t111 => (bits_Get.j0 k l0 (!t111)))
theorem bits_Get.mono_l : ∀ k, (∀ y0 y1, LeO (bits_Get.j0 k y0 y1) (bits_Get.j0 (k + 1) y0 y1)) ∧ (∀ y0 y1 y2 y3, LeO (bits_Get.l0 k y0 y1 y2 y3) (bits_Get.l0 (k + 1) y0 y1 y2 y3))
 | 0 => ⟨fun _ _ r h => by simp [bits_Get.j0] at h, fun _ _ _ _ r h => by simp [bits_Get.l0] at h⟩
 | k + 1 => by
  obtain ⟨ih0, ih1⟩ := bits_Get.mono_l k
  refine ⟨?_, ?_⟩
  ·intro y0 y1
   unfold bits_Get.j0
   repeat' first
   | (with_reducible exact ih0 _ _)
   | (with_reducible exact ih1 _ _ _ _)
   | (with_reducible exact bits_Right.mono _ _)
   | (with_reducible exact LeO.refl _)
   | (with_reducible exact LeO.none _)
   | (with_reducible refine LeO.ite ?_ ?_)
   | (with_reducible refine LeO.bind ?_ (fun _ => ?_))
   | exact ih0 _ _
   | exact ih1 _ _ _ _
   | exact bits_Right.mono _ _
   | exact LeO.none _
   | refine LeO.ite ?_ ?_
   | refine LeO.bind ?_ (fun _ => ?_)
  ·intro y0 y1 y2 y3
   unfold bits_Get.l0
   repeat' first
   | (with_reducible exact ih0 _ _)
   | (with_reducible exact ih1 _ _ _ _)
   | (with_reducible exact bits_Right.mono _ _)
   | (with_reducible exact LeO.refl _)
   | (with_reducible exact LeO.none _)
   | (with_reducible refine LeO.ite ?_ ?_)
   | (with_reducible refine LeO.bind ?_ (fun _ => ?_))
   | exact ih0 _ _
   | exact ih1 _ _ _ _
   | exact bits_Right.mono _ _
   | exact LeO.none _
   | refine LeO.ite ?_ ?_
   | refine LeO.bind ?_ (fun _ => ?_)
theorem bits_Get.mono : ∀ a0 k, LeO (bits_Get.f k a0) (bits_Get.f (k + 1) a0) := by
 intro a0 k
 obtain ⟨ih0, ih1⟩ := bits_Get.mono_l k
 unfold bits_Get.f
 repeat' first
   | (with_reducible exact ih0 _ _)
   | (with_reducible exact ih1 _ _ _ _)
   | (with_reducible exact bits_Right.mono _ _)
   | (with_reducible exact LeO.refl _)
   | (with_reducible exact LeO.none _)
   | (with_reducible refine LeO.ite ?_ ?_)
   | (with_reducible refine LeO.bind ?_ (fun _ => ?_))
   | exact ih0 _ _
   | exact ih1 _ _ _ _
   | exact bits_Right.mono _ _
   | exact LeO.none _
   | refine LeO.ite ?_ ?_
   | refine LeO.bind ?_ (fun _ => ?_)
set_option maxHeartbeats 8000000 in
set_option maxRecDepth 100000 in
theorem bits_Get.calls (k : Nat) (A0 : Option Addr) (c0 : Nat) (l0 : List Int) (r1 : Int) (r2 : Bool) (w : World) (hr0 : Kd.C (Kd.int .i64) w A0 l0.length l0) (hc0 : l0.length ≤ c0) (h : bits_Get.f k l0 = some (r1, r2)) :
  Calls Try.prog 47 #[.slice A0 l0.length c0] w fun e w' => e = .returned (.tuple #[.int .i64 r1, .bool r2]) ∧ Drawn0 w w' := by
 have HR0 := Aside0.mk hr0
 have HC0 := Aside0.mk hc0
 clear hr0 hc0
 have H : (if (l0.length : Int) > 32 then (bits_Get.j0 k l0 true) else ((bits_Right.f k l0).bind fun t111 => (bits_Get.j0 k l0 (!t111)))) = some (r1, r2) := h
 clear h
 have HC2 := Aside0.mk H
 clear H
 go_enter Try.func47, Try.ntmps47
 go_upto_region 1 with (fail)
 go_cut [14] (fun v14 wc => ∃ (kq : Nat) (x14_1 : Bool), v14 = .bool x14_1 ∧ Aside0 (bits_Get.j0 kq l0 x14_1 = some (r1, r2)) ∧ Aside0 (kq ≤ k) ∧ Drawn0 w wc)
 case first =>
  have H := HC2.out
  clear HC2
  by_cases c3 : (l0.length : Int) > 32
  ·rw [if_pos c3] at H
   have c3b0 : decide (32 < (l0.length : Int)) = true := decide_eq_true c3
   have c3b1 : decide (32 < l0.length) = true := decide_eq_true (by omega)
   clear c3
   (first | rw [c3b0] | (simp only [i64_w, i32_w]; rw [c3b0]) | skip)
   have H' := Aside0.mk H
   clear H
   go_wp2
   go_meet
   case rel => exact ⟨_, (true), (by first | rfl | (simp; done) | (simp [*]; done)), H', ⟨by first | omega | exact Nat.le_refl _⟩, by repeat (first | exact Drawn0.refl _ | apply Drawn0.step)⟩
  ·rw [if_neg c3] at H
   have c3b0 : decide (32 < (l0.length : Int)) = false := decide_eq_false c3
   have c3b1 : decide (32 < l0.length) = false := decide_eq_false (by omega)
   clear c3
   (first | rw [c3b0] | (simp only [i64_w, i32_w]; rw [c3b0]) | skip)
   replace H := Option.bind_eq_some_iff.mp H
   obtain ⟨t111, A40, H⟩ := H
   replace H : (bits_Get.j0 k l0 (!t111)) = some (r1, r2) := H
   have A4 := Aside0.mk A40
   clear A40
   have H' := Aside0.mk H
   clear H
   go_wp2_with (first | (go_at_call 48; (with_reducible refine (bits_Right.calls k _ _ l0 t111 _ ?side1 ?side2 A4.out).mono ?_); (case side1 => repeat (first | exact HR0.out | (with_reducible refine Kd.C_alloc ?_ _) | (with_reducible refine Kd.C_drewN ?_ _) | (with_reducible refine Kd.C_drew ?_))); (case side2 => exact HC0.out); rintro e w' ⟨rfl, ⟨nd, rfl⟩⟩))
   go_meet
   case rel => exact ⟨_, (!t111), (by first | rfl | (simp; done) | (simp [*]; done)), H', ⟨by first | omega | exact Nat.le_refl _⟩, by repeat (first | exact Drawn0.refl _ | apply Drawn0.step)⟩
 case rest =>
  clear HC2
  try clear p2
  try clear c3
  try clear c3b0
  try clear c3b1
  try clear c4
  obtain ⟨kq, x14_1, rfl, HA, HJ1, ⟨mc1, rfl⟩⟩ := hcut
  cases kq with
  | zero => exact absurd HA.out (by simp [bits_Get.j0])
  | succ kj1 =>
   have H := HA.out
   clear HA
   simp only [bits_Get.j0] at H
   by_cases c5 : x14_1 = true
   ·subst c5
    have H1 : (some (0, false)) = some (r1, r2) := by rw [if_pos rfl] at H; exact H
    clear H
    have H := H1
    clear H1
    simp only [Option.some.injEq, Prod.mk.injEq] at H
    obtain ⟨rfl, rfl⟩ := H
    go_wp2
    go_ret2
    exact ⟨by first | rfl | (simp; done) | (simp [*]; done), by repeat (first | exact Drawn0.refl _ | apply Drawn0.step)⟩
   ·replace c5 := Bool.eq_false_iff.mpr c5
    subst c5
    have H1 : (bits_Get.l0 kj1 0 l0 (l0.length : Int) 0) = some (r1, r2) := by rw [if_neg (show ¬ (false = true) by decide)] at H; exact H
    clear H
    have H := H1
    clear H1
    have H' := Aside0.mk H
    clear H
    go_wp2
    go_loopg [4, 17] kj1 (fun kq v4 v17 w' => ∃ (x4_2 : Int) (x17_2 : Int), v4 = .int .i64 x4_2 ∧ v17 = .int .i64 x17_2 ∧ Aside0 (bits_Get.l0 kq x4_2 l0 (l0.length : Int) x17_2 = some (r1, r2)) ∧ Aside0 (kq ≤ kj1) ∧ Drawn0 w w')
    case atStart => exact ⟨(0), (0), (by first | rfl | (simp; done) | (simp [*]; done)), (by first | rfl | (simp; done) | (simp [*]; done)), H', ⟨Nat.le_refl _⟩, by repeat (first | exact Drawn0.refl _ | apply Drawn0.step)⟩
    case round =>
     clear H'
     try clear c1
     try clear p2
     try clear c3
     try clear c3b0
     try clear c3b1
     try clear c4
     try clear c5
     try clear p2
     obtain ⟨x4_2, x17_2, rfl, rfl, HA, HK2, ⟨m2, rfl⟩⟩ := hrel
     cases gk with
     | zero => exact absurd HA.out (by simp [bits_Get.l0])
     | succ k2 =>
      have H := HA.out
      clear HA
      simp only [bits_Get.l0] at H
      by_cases c6 : x17_2 < (l0.length : Int)
      ·rw [if_pos c6] at H
       have c6b0 : decide (x17_2 < (l0.length : Int)) = true := decide_eq_true c6
       clear c6
       by_cases c7 : 0 ≤ x17_2
       ·rw [if_pos c7] at H
        have c7b0 : decide (0 ≤ x17_2) = true := decide_eq_true c7
        clear c7
        by_cases c8 : x17_2 < (l0.length : Int)
        ·rw [if_pos c8] at H
         have c8b0 : decide (x17_2 < (l0.length : Int)) = true := decide_eq_true c8
         clear c8
         have H' := Aside0.mk H
         clear H
         have p112 : 0 ≤ (x17_2 : Int) := of_decide_eq_true (by first | (with_reducible assumption) | assumption)
         have q112 : x17_2 < (l0.length : Int) := of_decide_eq_true (by first | (with_reducible assumption) | assumption)
         obtain ⟨ad112, e112, hx112_0⟩ := Kd.at_int HR0.out x17_2 p112 q112
         cases e112
         replace p112 := eq_true p112
         replace q112 := eq_true q112
         go_wp2
         go_roundg k2
         case measure => have := HJ1.out; have := HK2.out; omega
         case rel => exact ⟨(Go.bits .or .i64 (wrap64 (x4_2 * 2)) (rd l0 x17_2)), (wrap64 (x17_2 + 1)), (by first | rfl | (simp; done) | (simp [*]; done)), (by first | rfl | (simp; done) | (simp [*]; done)), H', ⟨by have := HJ1.out; have := HK2.out; omega⟩, by repeat (first | exact Drawn0.refl _ | apply Drawn0.step)⟩
        ·exfalso; (try simp only [decide_eq_true_eq, decide_eq_false_iff_not, beq_iff_eq, beq_eq_false_iff_ne, ne_eq] at c6b0); omega
       ·rw [if_neg c7] at H
        exact absurd H (by simp)
      ·rw [if_neg c6] at H
       have c6b0 : decide (x17_2 < (l0.length : Int)) = false := decide_eq_false c6
       clear c6
       simp only [Option.some.injEq, Prod.mk.injEq] at H
       obtain ⟨rfl, rfl⟩ := H
       go_wp2
       go_ret2
       exact ⟨by first | rfl | (simp; done) | (simp [*]; done), by repeat (first | exact Drawn0.refl _ | apply Drawn0.step)⟩

end Go.Proofs.Ytiphbgcmbbfpmaa.Px
