-- Written by myprint.py, a program of this session's, over the kit's print.py; not a text of print.sh's own.
import Derived.Test.YthgeekcobmhbfaaPx0
import Derived.Test.YthgeekcobmhbfaaPx6
import Derived.Test.YthgeekcobmhbfaaPx7
import Derived.Test.YthgeekcobmhbfaaPx10
import Derived.Test.YthgeekcobmhbfaaPx11
namespace Go.Proofs.Ythgeekcobmhbfaa.Px
open Go.RowKit Go.Proofs.YthgeekcobmhbfaaW.PrintWords Go.Proofs.YthgeekcobmhbfaaW.PrintLast Go.Proofs.YthgeekcobmhbfaaW.PrintMore
attribute [local go_sem] max2_int min2_int max_two min_two max_three min_three max_four min_four   -- for this text's walks alone
set_option linter.unusedVariables false
set_option linter.unusedSimpArgs false

/-! ### phaetonref04_Read: function 36 -/
theorem r4x_right_l0 (l : List Int) (hl : l.length ≤ 4611686018427387904) : ∀ d i : Nat, i + d = l.length → Ev (fun k => phaetonref01_Right.l0 k l (i : Int)) (H.rightB (l.drop i)) := by
 intro d
 induction d with
 | zero =>
  intro i hi
  refine Ev.step (f := fun _ => some (H.rightB (l.drop i))) (fun k => ?_) (Ev.now _)
  simp only [phaetonref01_Right.l0]
  rw [if_neg (by omega), List.drop_eq_nil_of_le (by omega)]; rfl
 | succ d ih =>
  intro i hi
  have hlt : i < l.length := by omega
  have hsp : H.rightB (l.drop i) = (H.isBit (l.getD i 0) && H.rightB (l.drop (i + 1))) := by rw [fb_rd_drop hlt]; rfl
  rw [hsp]
  by_cases h0 : l.getD i 0 = 0
  ·refine Ev.step (f := fun k => phaetonref01_Right.l0 k l ((i + 1 : Nat) : Int)) (fun k => ?_) (by rw [show H.isBit (l.getD i 0) = true by rw [h0]; rfl, Bool.true_and]; exact ih (i + 1) (by omega))
   simp only [phaetonref01_Right.l0]
   rw [if_pos (by omega), if_pos (by omega), fb_rd_nat, if_pos h0, H.wrap_succ hlt hl]
  by_cases h1 : l.getD i 0 = 1
  ·refine Ev.step (f := fun k => phaetonref01_Right.l0 k l ((i + 1 : Nat) : Int)) (fun k => ?_) (by rw [show H.isBit (l.getD i 0) = true by rw [h1]; rfl, Bool.true_and]; exact ih (i + 1) (by omega))
   simp only [phaetonref01_Right.l0]
   rw [if_pos (by omega), if_pos (by omega), fb_rd_nat, if_neg h0, if_pos h1, H.wrap_succ hlt hl]
  ·refine Ev.step (f := fun _ => some (H.isBit (l.getD i 0) && H.rightB (l.drop (i + 1)))) (fun k => ?_) (Ev.now _)
   simp only [phaetonref01_Right.l0]
   rw [if_pos (by omega), if_pos (by omega), fb_rd_nat, if_neg h0, if_neg h1]
   have : H.isBit (l.getD i 0) = false := Bool.eq_false_iff.mpr fun h => by rcases H.isBit_cases h with h | h <;> contradiction
   rw [this]; rfl
theorem r4x_right_k (l : List Int) (hl : l.length ≤ 4611686018427387904) : ∃ K, ∀ k, K ≤ k → phaetonref01_Right.f k l = some (H.rightB l) := by
 have := r4x_right_l0 l hl l.length 0 (by omega)
 simpa [phaetonref01_Right.f, Ev] using this
theorem r4x_get_l0 (l : List Int) (hr : H.rightB l = true) (hl : l.length ≤ 32) : ∀ d i : Nat, i + d = l.length → Ev (fun k => phaetonref01_Get.l0 k l (H.valB (l.take i)) (i : Int)) (H.valB l, true) := by
 intro d
 induction d with
 | zero =>
  intro i hi
  refine Ev.step (f := fun _ => some (H.valB l, true)) (fun k => ?_) (Ev.now _)
  rw [phaetonref01_Get.l0.eq_2, if_neg (by omega), List.take_of_length_le (by omega)]
 | succ d ih =>
  intro i hi
  have hlt : i < l.length := by omega
  have hrt : H.rightB (l.take i) = true := by
   have := hr; rw [← List.take_append_drop i l, H.rightB_append, Bool.and_eq_true] at this; exact this.1
  have hv := H.valB_range hrt
  have hp := H.pow32 (m := (l.take i).length) (by rw [List.length_take]; omega)
  have hbit := H.rightB_mem hr _ (fb_rd_mem hlt)
  refine Ev.step (f := fun k => phaetonref01_Get.l0 k l (H.valB (l.take (i + 1))) ((i + 1 : Nat) : Int)) (fun k => ?_) (ih (i + 1) (by omega))
  have e1 : wrap64 (wrap64 (2 * H.valB (l.take i)) + l.getD i 0) = 2 * H.valB (l.take i) + l.getD i 0 := by unfold wrap64; omega
  rw [phaetonref01_Get.l0.eq_2, if_pos (by omega), if_pos (by omega), fb_rd_nat, H.wrap_succ hlt (by omega), e1, H.take_snoc 0 l i hlt, H.valB_snoc]
theorem r4x_get_k (l : List Int) (hl : l.length ≤ 4611686018427387904) : ∃ K, ∀ k, K ≤ k → phaetonref01_Get.f k l = some (H.getB l) := by
 unfold H.getB
 by_cases h1 : 32 < l.length
 ·rw [if_pos h1]
  refine ⟨1, fun k hk => ?_⟩
  obtain ⟨k, rfl⟩ : ∃ m, k = m + 1 := ⟨k - 1, by omega⟩
  unfold phaetonref01_Get.f
  rw [if_pos (by omega), phaetonref01_Get.j0.eq_2, if_pos rfl]
 ·rw [if_neg h1]
  obtain ⟨K, hK⟩ := r4x_right_k l hl
  by_cases hr : H.rightB l = true
  ·rw [if_pos hr]
   obtain ⟨K2, hK2⟩ := r4x_get_l0 l hr (by omega) l.length 0 (by omega)
   refine ⟨K + K2 + 1, fun k hk => ?_⟩
   obtain ⟨k, rfl⟩ : ∃ m, k = m + 1 := ⟨k - 1, by omega⟩
   unfold phaetonref01_Get.f
   rw [if_neg (by omega), hK _ (by omega), hr, Option.bind_some, Bool.not_true, phaetonref01_Get.j0.eq_2, if_neg (by decide)]
   exact hK2 _ (by omega)
  ·rw [if_neg hr]
   refine ⟨K + 1, fun k hk => ?_⟩
   obtain ⟨k, rfl⟩ : ∃ m, k = m + 1 := ⟨k - 1, by omega⟩
   unfold phaetonref01_Get.f
   rw [if_neg (by omega), hK _ (by omega), Bool.eq_false_iff.mpr hr, Option.bind_some, Bool.not_false, phaetonref01_Get.j0.eq_2, if_pos rfl]
theorem r4x_chunk8 (l : List Int) (q : Nat) (h : 8 * q + 8 ≤ l.length) : (l.take (8 * q + 8)).drop (8 * q) = [l.getD (8 * q) 0, l.getD (8 * q + 1) 0, l.getD (8 * q + 2) 0, l.getD (8 * q + 3) 0, l.getD (8 * q + 4) 0, l.getD (8 * q + 5) 0, l.getD (8 * q + 6) 0, l.getD (8 * q + 7) 0] := by
 have hx : ∀ j, j < 8 → ((l.take (8 * q + 8)).drop (8 * q))[j]? = some (l.getD (8 * q + j) 0) := fun j hj => by
  rw [List.getElem?_drop, List.getElem?_take_of_lt (by omega), List.getElem?_eq_getElem (by omega), List.getD_eq_getElem?_getD, List.getElem?_eq_getElem (show 8 * q + j < l.length by omega)]; rfl
 apply List.ext_getElem?
 intro j
 rcases (by omega : j = 0 ∨ j = 1 ∨ j = 2 ∨ j = 3 ∨ j = 4 ∨ j = 5 ∨ j = 6 ∨ j = 7 ∨ 8 ≤ j) with rfl | rfl | rfl | rfl | rfl | rfl | rfl | rfl | hj
 ·exact hx 0 (by omega)
 ·exact hx 1 (by omega)
 ·exact hx 2 (by omega)
 ·exact hx 3 (by omega)
 ·exact hx 4 (by omega)
 ·exact hx 5 (by omega)
 ·exact hx 6 (by omega)
 ·exact hx 7 (by omega)
 ·rw [List.getElem?_eq_none (by rw [List.length_drop, List.length_take]; omega), List.getElem?_eq_none (by simp only [List.length_cons, List.length_nil]; omega)]
theorem r4x_chunk_val (l : List Int) (q : Nat) (h : 8 * q + 8 ≤ l.length) : H.valB ((l.take (8 * q + 8)).drop (8 * q)) = H.byteAt (fun j => l.getD j 0) q := by
 rw [r4x_chunk8 l q h]
 simp only [H.valB, List.foldl_cons, List.foldl_nil, H.byteAt]
 omega
theorem r4x_bytes_take (l : List Int) (q : Nat) (h : 8 * q + 8 ≤ l.length) : (H.bytesB l).take (q + 1) = (H.bytesB l).take q ++ [H.byteAt (fun j => l.getD j 0) q] := by
 have hl : q < (H.bytesB l).length := by simp [H.bytesB]; omega
 rw [H.take_snoc 0 _ q hl]
 congr 2
 simp [H.bytesB, List.getD_eq_getElem?_getD, show q < l.length / 8 by omega]
theorem r4x_join_l0 (l : List Int) (hr : H.rightB l = true) (h8 : l.length % 8 = 0) (hl : l.length ≤ 281474976710656) : ∀ d q : Nat, 8 * q + 8 * d = l.length → Ev (fun k => phaetonref01_Join.l0 k l ((H.bytesB l).take q) ((8 * q : Nat) : Int)) (H.bytesB l, true) := by
 intro d
 induction d with
 | zero =>
  intro q hq
  refine Ev.step (f := fun _ => some (H.bytesB l, true)) (fun k => ?_) (Ev.now _)
  rw [phaetonref01_Join.l0.eq_2, if_neg (by omega), List.take_of_length_le (by simp [H.bytesB]; omega)]
 | succ d ih =>
  intro q hq
  have hlt : 8 * q + 8 ≤ l.length := by omega
  have e1 : wrap64 (((8 * q : Nat) : Int) + 8) = ((8 * q + 8 : Nat) : Int) := by unfold wrap64; omega
  obtain ⟨K, hK⟩ := r4x_get_k ((l.take (8 * q + 8)).drop (8 * q)) (by rw [List.length_drop, List.length_take]; omega)
  obtain ⟨K2, hK2⟩ := ih (q + 1) (by omega)
  have hrc : H.rightB ((l.take (8 * q + 8)).drop (8 * q)) = true := by
   refine H.rightB_of fun x hx => H.rightB_mem hr x (List.mem_of_mem_take (List.mem_of_mem_drop hx))
  have hlc : ((l.take (8 * q + 8)).drop (8 * q)).length = 8 := by rw [List.length_drop, List.length_take]; omega
  have hv := H.valB_range hrc
  rw [hlc] at hv
  have hg := H.getB_right hrc (by omega)
  have hcv := r4x_chunk_val l q hlt
  refine ⟨K + K2 + 1, fun k hk => ?_⟩
  obtain ⟨k, rfl⟩ : ∃ m, k = m + 1 := ⟨k - 1, by omega⟩
  show phaetonref01_Join.l0 (k + 1) l ((H.bytesB l).take q) ((8 * q : Nat) : Int) = _
  rw [phaetonref01_Join.l0.eq_2, e1, if_pos (by omega), if_pos (by omega), if_pos (by omega), if_pos (by omega), Int.toNat_natCast, Int.toNat_natCast, hK _ (by omega), Option.bind_some, hg, if_pos (by rw [List.length_take]; simp [H.bytesB]; omega)]
  rw [show (H.valB ((l.take (8 * q + 8)).drop (8 * q)), true).1 % 256 = H.byteAt (fun j => l.getD j 0) q by rw [← hcv]; show H.valB _ % 256 = _; omega, ← r4x_bytes_take l q hlt]
  exact hK2 k (by omega)
theorem r4x_join_k (l : List Int) (hl : l.length ≤ 281474976710656) : ∃ K, ∀ k, K ≤ k → phaetonref01_Join.f k l = some (H.joinB l) := by
 obtain ⟨K, hK⟩ := r4x_right_k l (by omega)
 unfold H.joinB
 by_cases hr : H.rightB l = true
 ·by_cases h8 : l.length % 8 = 0
  ·obtain ⟨K2, hK2⟩ := r4x_join_l0 l hr h8 hl (l.length / 8) 0 (by omega)
   refine ⟨K + K2 + 1, fun k hk => ?_⟩
   obtain ⟨k, rfl⟩ : ∃ m, k = m + 1 := ⟨k - 1, by omega⟩
   have hb : (((l.length : Int) % 8) != 0) = false := by rw [bne_eq_false_iff_eq]; omega
   unfold phaetonref01_Join.f
   rw [hK _ (by omega), Option.bind_some, hr, if_pos rfl, hb, phaetonref01_Join.j0.eq_2, if_neg (by decide), if_pos h8, if_pos rfl]
   exact hK2 _ (by omega)
  ·refine ⟨K + 1, fun k hk => ?_⟩
   obtain ⟨k, rfl⟩ : ∃ m, k = m + 1 := ⟨k - 1, by omega⟩
   have hb : (((l.length : Int) % 8) != 0) = true := by rw [bne_iff_ne]; omega
   unfold phaetonref01_Join.f
   rw [hK _ (by omega), Option.bind_some, hr, if_pos rfl, hb, phaetonref01_Join.j0.eq_2, if_pos rfl, if_neg h8]
 ·refine ⟨K + 1, fun k hk => ?_⟩
  obtain ⟨k, rfl⟩ : ∃ m, k = m + 1 := ⟨k - 1, by omega⟩
  unfold phaetonref01_Join.f
  rw [hK _ (by omega), Option.bind_some, Bool.eq_false_iff.mpr hr, if_neg (by decide), phaetonref01_Join.j0.eq_2, if_pos rfl]
  split <;> rfl
theorem r4x_wrap_small (x : Int) (h0 : 0 ≤ x) (h1 : x < 9223372036854775808) : IntKind.i64.wrap x = x := by rw [IntKind.wrap_i64]; omega
theorem r4x_or_parts {hi lo : Int} (h0 : 0 ≤ hi) (h1 : hi < 2048) (k0 : 0 ≤ lo) (k1 : lo < 262144) : Go.bits .or .i64 (IntKind.i64.wrap (hi * 262144)) lo = hi * 262144 + lo := by
 rw [r4x_wrap_small _ (by omega) (by omega)]
 obtain ⟨a, rfl⟩ := Int.eq_ofNat_of_zero_le h0
 obtain ⟨b, rfl⟩ := Int.eq_ofNat_of_zero_le k0
 have e : ((a : Int) * 262144) = ((a * 262144 : Nat) : Int) := by omega
 rw [e, H.or_i64 _ _ (by omega) (by omega)]
 have h2 : a * 262144 ||| b = a * 262144 + b := by
  have := Nat.shiftLeft_add_eq_or_of_lt (show b < 2 ^ 18 by omega) a
  rw [Nat.shiftLeft_eq] at this
  exact this.symm
 rw [h2]; omega
theorem r4x_numAt_one {l : List Int} (h : H.rightB l = true) (i : Nat) (hl : i < l.length) : frame_numAt l i 1 = l.getD i 0 := by
 have e : frame_bitsAt l i 1 = [l.getD i 0] := by unfold frame_bitsAt; rw [H.take_snoc 0 l i hl, List.drop_left' (by rw [List.length_take]; omega)]
 have hr : H.rightB [l.getD i 0] = true := H.rightB_of (fun y hy => by rw [List.mem_singleton.mp hy]; exact H.rightB_mem h _ (fb_rd_mem hl))
 unfold frame_numAt
 rw [e, H.getB_right hr (by show 1 ≤ 32; decide)]
 show 2 * 0 + l.getD i 0 = l.getD i 0
 omega
theorem r4x_range (l : List Int) (i m : Nat) (h : i + m ≤ l.length) (hm : m ≤ 32) : 0 ≤ frame_numAt l i m ∧ frame_numAt l i m < 2 ^ m := by
 unfold frame_numAt H.getB
 have hl := frame_bitsAt_len l i m h
 rw [if_neg (by omega)]
 by_cases hr : H.rightB (frame_bitsAt l i m) = true
 ·rw [if_pos hr]
  have := H.valB_range hr
  rw [hl] at this
  exact this
 ·rw [if_neg hr]; exact ⟨Int.le_refl 0, Int.pow_pos (by decide)⟩
def r4_pack (r : Int × Bool × Int × Bool × Int × List Int × Nat) : Bool × Int × Bool × Int × List Int × Int × Int := (r.2.1, r.2.2.1, r.2.2.2.1, r.2.2.2.2.1, r.2.2.2.2.2.1, (r.2.2.2.2.2.2 : Int), r.1)
def phaetonref04_Read.f (l : List Int) : Option (Bool × Int × Bool × Int × List Int × Int × Int) :=
 if l.length ≤ 1000000 then (if H.rightB l = true then some (r4_pack (frame_readB l)) else none) else none
def r4_zs : Array Value := #[.bool false, .int .i64 0, .bool false, .int .i64 0, .slice none 0 0]
/-- The result's box, the frame's box. -/
def r4_I (w W : World) (cs : Array Value) : Prop := W.heap[w.heap.size]? = some (.cells r4_zs 24 (0, 0)) ∧ W.heap[w.heap.size + 1]? = some (.cells cs 24 (0, 0)) ∧ Below w.heap.size w W
theorem r4_I.start (w : World) : r4_I w ((w.alloc (.cells r4_zs 24 (0, 0))).alloc (.cells r4_zs 24 (0, 0))) r4_zs :=
 ⟨blk_alloc (blk_new _ _) _, by have := blk_new (w.alloc (.cells r4_zs 24 (0, 0))) (.cells r4_zs 24 (0, 0)); rw [World.size_alloc] at this; exact this, below_alloc (below_alloc (Below.refl _ _) _) _⟩
theorem r4_I.field {w W W1 : World} {cs cs' : Array Value} (h : r4_I w W cs) (hg : W.grownBy W1 (some (w.heap.size + 1))) (hk : W1.heap[w.heap.size + 1]? = some (.cells cs' 24 (0, 0))) : r4_I w W1 cs' :=
 ⟨blk_grown h.1 hg (fun e => by injection e with e; omega), hk, h.2.2.grown hg h.2.2.size (fun k he => by injection he with he; omega)⟩
theorem r4_I.at {w W : World} {cs : Array Value} (h : r4_I w W cs) {ad : Addr} {l : List Int} (hr : Kd.C (Kd.int .i64) w (some ad) l.length l) (i : Nat) (hi : i < l.length) : W.cell? (ad.add i) = some (.int .i64 (rd l (i : Int))) := by
 obtain ⟨a, e, hx⟩ := Kd.at_int (Kd.C_below hr h.2.2) (i : Int) (by omega) (by omega)
 cases e
 rw [Int.toNat_natCast] at hx
 exact hx
theorem r4_I.at2 {w W : World} {cs : Array Value} (h : r4_I w W cs) {ad : Addr} {l : List Int} (hr : Kd.C (Kd.int .i64) w (some ad) l.length l) (i : Nat) (hi : i < l.length) (h0 : i ≠ 0 := by decide) : W.cell? ⟨ad.block, ad.off + i, none⟩ = some (.int .i64 (rd l (i : Int))) := by
 have := h.at hr i hi
 unfold Go.Addr.add at this
 rw [if_neg h0] at this
 exact this
section
variable {P : Program} {ops : Array Oper} {rest : List Oper} {o : Oper} {a : Act} {Q : Exit → Act → World → Prop} {w W : World} {cs : Array Value}
theorem r4_fld (hI : r4_I w W cs) (hN : o.dst = none) (hgd : o.guard = none) (t : TypeId) (p x : Operand) (ho : o.op = .store t p x) {j : Nat} {v : Value} (haddr : a.eval p = .pointer (some ⟨w.heap.size + 1, j, none⟩)) (hx : a.eval x = v) (hv : v.cells = #[v]) (hj : j < cs.size) (ht : (P.info? t).map (·.size) = some 1) (h1 : v.oneCell' = true)
  (h : ∀ W1, r4_I w W1 (cs.setIfInBounds j v) → W.grownBy W1 (some (w.heap.size + 1)) → wpList P ops Q rest a W1) : wpList P ops Q (o :: rest) a W :=
 HW.store_field hN hgd t p x ho haddr hx hv hI.2.1 hj ht h1 (fun W1 hk hg => h W1 (hI.field hg hk) hg)
theorem r4_put (hI : r4_I w W cs) (hN : o.dst = none) (hgd : o.guard = none) (p x : Operand) (ho : o.op = .store 24 p x) (haddr : a.eval p = .pointer (some ⟨w.heap.size, 0, none⟩)) (hx : a.eval x = .agg r4_zs) (ht : (P.info? 24).map (·.size) = some r4_zs.size)
  (h : ∀ W1, W1.heap[w.heap.size]? = some (.cells r4_zs 24 (0, 0)) → Below w.heap.size w W1 → wpList P ops Q rest a W1) : wpList P ops Q (o :: rest) a W :=
 HW.store_box' hN hgd 24 p x ho haddr hx hI.1 rfl ht (by intro q hq; simp only [r4_zs, List.mem_cons, List.not_mem_nil, or_false] at hq; rcases hq with rfl | rfl | rfl | rfl | rfl <;> rfl) (fun W1 hk hg => h W1 hk (hI.2.2.grown hg hI.2.2.size (fun k he => by injection he with he; omega)))
end
theorem r4_cut (A0 : Option Addr) (c0 : Nat) (l : List Int) (i m : Nat) (hi : i + m ≤ l.length) (hc : l.length ≤ c0) : ∃ A', (∀ W, (Instr.slice 25 (.slice A0 l.length c0) (some (.int .i64 (i : Int))) (some (.int .i64 ((i + m : Nat) : Int))) none).run Try.prog W = .ok (.slice A' m (c0 - i)) W) ∧ (∀ W, Kd.C (Kd.int .i64) W A0 l.length l → Kd.C (Kd.int .i64) W A' m (frame_bitsAt l i m)) ∧ m ≤ c0 - i := by
 obtain ⟨i0, hi0, hz0, hz1, hz2⟩ := info_parts info3
 have hcut := cut_mid (P := Try.prog) 25 3 .i64 .i64 Try.underlying25 hi0 1 hz1 A0 l.length c0 (i : Int) ((i + m : Nat) : Int) (by omega) (by omega) (by omega) hc
 rw [Int.toNat_natCast, Int.toNat_natCast, Nat.add_sub_cancel_left] at hcut
 refine ⟨_, hcut, fun W hC => ?_, by omega⟩
 have h := Kd.C_mid (c := c0) hC (lo := i) (hi := i + m) (by omega) hi hc
 have hl := frame_bitsAt_len l i m hi
 have e : ((l.take (i + m)).drop i).length = m := hl
 rw [e] at h
 exact h
theorem r4_get {l : List Int} {i m : Nat} (hi : i + m ≤ l.length) {A' : Option Addr} {c' : Nat} (hc : m ≤ c') {w W : World} {cs : Array Value} (hI : r4_I w W cs) (hC : Kd.C (Kd.int .i64) W A' m (frame_bitsAt l i m)) (hn : l.length ≤ 1000000) :
  Calls Try.prog 54 #[.slice A' m c'] W fun e W' => ∃ s, e = .returned (.tuple #[.int .i64 (frame_numAt l i m), .bool s]) ∧ r4_I w W' cs := by
 have hl := frame_bitsAt_len l i m hi
 obtain ⟨K, hK⟩ := r4x_get_k (frame_bitsAt l i m) (by omega)
 have := phaetonref01_Get.calls K A' c' (frame_bitsAt l i m) (H.getB (frame_bitsAt l i m)).1 (H.getB (frame_bitsAt l i m)).2 W (by rw [hl]; exact hC) (by rw [hl]; exact hc) (hK K (Nat.le_refl _))
 rw [hl] at this
 refine this.mono ?_
 rintro e W' ⟨rfl, hd⟩
 obtain ⟨⟨n, rfl⟩⟩ := hd
 exact ⟨_, rfl, hI.1, hI.2.1, pw_below_drewN hI.2.2 n⟩
set_option maxHeartbeats 3200000 in
set_option maxRecDepth 100000 in
theorem r4_Read_at (A0 : Option Addr) (c0 : Nat) (l : List Int) (w : World) (hr : Kd.C (Kd.int .i64) w A0 l.length l) (hc : l.length ≤ c0) (hn : l.length ≤ 1000000) (hb : H.rightB l = true) :
  Calls Try.prog 36 #[.slice A0 l.length c0] w fun e w' => ∃ v4 : Value, e = .returned (.tuple #[.agg #[.bool (frame_readB l).2.1, .int .i64 (frame_readB l).2.2.1, .bool (frame_readB l).2.2.2.1, .int .i64 (frame_readB l).2.2.2.2.1, v4], .int .i64 ((frame_readB l).2.2.2.2.2.2 : Int), .int .i64 (frame_readB l).1]) ∧ Kd.R (Kd.int .u8) 5 w' w.heap.size (fun _ => True) v4 (frame_readB l).2.2.2.2.2.1 ∧ Below w.heap.size w w' := by
 have hu := Try.underlying24
 by_cases h0 : l.length = 0
 ·have HT : Aside0 (frame_readB l = frame_err 40) := ⟨by unfold frame_readB; rw [if_pos (by omega)]⟩
  have q0 : ((l.length : Int) = 0) = True := eq_true (by omega)
  have q0b : ((l.length : Int) == 0) = true := beq_iff_eq.mpr (by omega)
  clear hr hc hn hb h0
  go_enter Try.func36, Try.ntmps36
  go_wp2_with (first | ((with_reducible refine gate_store (t := 24) (p := 2) rfl ?_); refine HW.store_box' rfl rfl 24 _ _ rfl rfl rfl (blk_new _ _) rfl (by kernel_rfl) (by intro q hq; simp only [List.mem_cons, List.not_mem_nil, or_false] at hq; rcases hq with rfl | rfl | rfl | rfl | rfl <;> rfl) ?_; intro wz hk hg; have HBz := Aside0.mk ((below_alloc (Below.refl _ _) _).grown hg (below_alloc (Below.refl _ _) _).size (fun k he => by injection he with he; omega)); have HZz := Aside0.mk hk; clear hk hg))
  (try rw [Exit.noGoto_ret])
  refine bodyPost_ret (results_ctt rfl _ _ w.heap.size 24 r4_zs (0, 0) _ rfl HZz.out Try.underlying24 rfl (by kernel_rfl)) rfl ?_
  refine ⟨.slice none 0 0, ?_, ?_, HBz.out⟩
  ·rw [HT.out]; rfl
  ·rw [HT.out]; exact Kd.R_nil _ _ _ _ _
 obtain ⟨ad, e1, hx0⟩ := Kd.at_int hr (0 : Int) (by omega) (by omega)
 subst e1
 have hx0' : w.cell? ad = some (.int .i64 (rd l 0)) := by simpa [Addr.add] using hx0
 have hn0 := World.block_lt_of_cell? w _ hx0'
 have hx0a : ∀ o, (w.alloc o).cell? ad = some (.int .i64 (rd l 0)) := fun o => (World.cell?_alloc_lt _ _ _ hn0).trans hx0'
 have e0 : frame_numAt l 0 1 = rd l 0 := (r4x_numAt_one hb 0 (by omega)).trans (by simp [rd])
 have q0 : ((l.length : Int) = 0) = False := eq_false (by omega)
 have q0b : ((l.length : Int) == 0) = false := beq_eq_false_iff_ne.mpr (by omega)
 have p0 : ((0 : Int) < (l.length : Int)) = True := eq_true (by omega)
 have p0' : (0 < l.length) = True := eq_true (by omega)
 clear hx0 hx0' hn0
 by_cases h1 : rd l 0 = 0
 rotate_left
 ·have HT : Aside0 (frame_readB l = frame_err 42) := ⟨by unfold frame_readB; rw [if_neg (by omega), if_pos (by rw [e0]; exact h1)]⟩
  have q1 : (rd l 0 == 0) = false := beq_eq_false_iff_ne.mpr h1
  clear hr hc hn hb h0 e0
  go_enter Try.func36, Try.ntmps36
  go_wp2_with (first | ((with_reducible refine gate_store (t := 24) (p := 2) rfl ?_); refine HW.store_box' rfl rfl 24 _ _ rfl rfl rfl (blk_new _ _) rfl (by kernel_rfl) (by intro q hq; simp only [List.mem_cons, List.not_mem_nil, or_false] at hq; rcases hq with rfl | rfl | rfl | rfl | rfl <;> rfl) ?_; intro wz hk hg; have HBz := Aside0.mk ((below_alloc (Below.refl _ _) _).grown hg (below_alloc (Below.refl _ _) _).size (fun k he => by injection he with he; omega)); have HZz := Aside0.mk hk; clear hk hg))
  (try rw [Exit.noGoto_ret])
  refine bodyPost_ret (results_ctt rfl _ _ w.heap.size 24 r4_zs (0, 0) _ rfl HZz.out Try.underlying24 rfl (by kernel_rfl)) rfl ?_
  refine ⟨.slice none 0 0, ?_, ?_, HBz.out⟩
  ·rw [HT.out]; rfl
  ·rw [HT.out]; exact Kd.R_nil _ _ _ _ _
 by_cases h2 : l.length < 14
 ·have HT : Aside0 (frame_readB l = frame_err 40) := ⟨by
   unfold frame_readB; rw [if_neg (by omega), if_neg (by rw [e0]; exact fun h => h h1)]
   by_cases c1 : l.length < 12
   ·rw [if_pos c1]
   ·rw [if_neg c1]
    by_cases c2 : l.length < 13
    ·rw [if_pos c2]
    ·rw [if_neg c2, if_pos h2]⟩
  have q2 : ((l.length : Int) < 14) = True := eq_true (by omega)
  clear hr hc hn hb h0 e0
  go_enter Try.func36, Try.ntmps36
  go_wp2_with (first | ((with_reducible refine gate_store (t := 24) (p := 2) rfl ?_); refine HW.store_box' rfl rfl 24 _ _ rfl rfl rfl (blk_new _ _) rfl (by kernel_rfl) (by intro q hq; simp only [List.mem_cons, List.not_mem_nil, or_false] at hq; rcases hq with rfl | rfl | rfl | rfl | rfl <;> rfl) ?_; intro wz hk hg; have HBz := Aside0.mk ((below_alloc (Below.refl _ _) _).grown hg (below_alloc (Below.refl _ _) _).size (fun k he => by injection he with he; omega)); have HZz := Aside0.mk hk; clear hk hg))
  (try rw [Exit.noGoto_ret])
  refine bodyPost_ret (results_ctt rfl _ _ w.heap.size 24 r4_zs (0, 0) _ rfl HZz.out Try.underlying24 rfl (by kernel_rfl)) rfl ?_
  refine ⟨.slice none 0 0, ?_, ?_, HBz.out⟩
  ·rw [HT.out]; rfl
  ·rw [HT.out]; exact Kd.R_nil _ _ _ _ _
 have HR := Aside0.mk hr
 have HC := Aside0.mk hc
 have HN := Aside0.mk hn
 have HB := Aside0.mk hb
 have q2 : ((l.length : Int) < 14) = False := eq_false (by omega)
 have HF : Aside0 (frame_readB l = if frame_numAt l 13 1 = 1 then
   (if ¬ frame_numAt l 12 1 = 1 then frame_err 42 else if l.length < 32 then frame_err 40 else if l.length < 33 then frame_err 40 else if l.length < 34 then frame_err 40 else if ¬ frame_numAt l 33 1 = 0 then frame_err 42
   else frame_tailB l true (Go.bits .or .i64 (IntKind.i64.wrap (frame_numAt l 1 11 * 262144)) (frame_numAt l 14 18)) (decide (frame_numAt l 32 1 = 1)) 34)
  else frame_tailB l false (frame_numAt l 1 11) (decide (frame_numAt l 12 1 = 1)) 14) := ⟨by
   conv => lhs; unfold frame_readB
   rw [if_neg (by omega), if_neg (by rw [e0]; exact fun h => h h1), if_neg (by omega), if_neg (by omega), if_neg h2]⟩
 obtain ⟨A1, hcut1, hC1, hc1⟩ := r4_cut (some ad) c0 l 1 11 (by omega) hc
 have hcut1' : ∀ W, (Instr.slice 25 (.slice (some ad) l.length c0) (some (.int .i64 1)) (some (.int .i64 12)) none).run Try.prog W = .ok (.slice A1 11 (c0 - 1)) W := hcut1
 have hG := r4_get (cs := r4_zs) (l := l) (i := 1) (m := 11) (by omega) hc1 (r4_I.start w) (hC1 _ (Kd.C_below hr (r4_I.start w).2.2)) hn
 have HG := Aside0.mk hG
 have H14 : Aside0 (14 ≤ l.length) := ⟨by omega⟩
 clear hcut1 hC1 hc1 hG hr hc hn hb h0 h2 e0
 go_enter Try.func36, Try.ntmps36
 go_wp2_with fail
 refine HG.out.mono ?_
 rintro e W1 ⟨s1, rfl, hI⟩
 have HI := Aside0.mk hI
 clear hI HG hx0a hcut1'
 obtain ⟨n1, hn1⟩ : ∃ n1, n1 = frame_numAt l 1 11 := ⟨_, rfl⟩
 rw [← hn1]
 have HN1 := Aside0.mk hn1
 clear hn1
 have e12 : Aside0 (frame_numAt l 12 1 = rd l 12) := ⟨(r4x_numAt_one HB.out 12 (by have := H14.out; omega)).trans (by simp [rd])⟩
 have e13 : Aside0 (frame_numAt l 13 1 = rd l 13) := ⟨(r4x_numAt_one HB.out 13 (by have := H14.out; omega)).trans (by simp [rd])⟩
 by_cases h13 : rd l 13 = 1
 ·by_cases h12 : rd l 12 = 1
  rotate_left
  ·have HT : Aside0 (frame_readB l = frame_err 42) := ⟨by rw [HF.out, if_pos (e13.out.trans h13), if_pos (by rw [e12.out]; exact h12)]⟩
   have HLEN := H14
   have q12 : (rd l 12 == 1) = false := beq_eq_false_iff_ne.mpr h12
   have b12 : ((12 : Int) < (l.length : Int)) = True := eq_true (by have := HLEN.out; omega)
   have b13 : ((13 : Int) < (l.length : Int)) = True := eq_true (by have := HLEN.out; omega)
   go_wp2_with (first | ((with_reducible refine gate_store (t := 3) (p := 35) rfl ?_); refine r4_fld HI.out rfl rfl 3 _ _ rfl rfl rfl rfl (show (1 : Nat) < 5 by decide) (by kernel_rfl) rfl ?_; intro y35 hk hg; clear HI hg; have HI : Aside0 (r4_I w y35 #[.bool false, .int .i64 n1, .bool false, .int .i64 0, .slice none 0 0]) := ⟨hk⟩; clear hk; have hx12 : y35.cell? ⟨ad.block, ad.off + 12, none⟩ = some (.int .i64 (rd l 12)) := HI.out.at2 HR.out 12 (by have := HLEN.out; omega)) | ((with_reducible refine gate_store (t := 4) (p := 40) rfl ?_); refine r4_fld HI.out rfl rfl 4 _ _ rfl rfl rfl rfl (show (2 : Nat) < 5 by decide) (by kernel_rfl) rfl ?_; intro y40 hk hg; clear HI hg; have HI : Aside0 (r4_I w y40 #[.bool false, .int .i64 n1, _, .int .i64 0, .slice none 0 0]) := ⟨hk⟩; clear hk; have hx12 : y40.cell? ⟨ad.block, ad.off + 12, none⟩ = some (.int .i64 (rd l 12)) := HI.out.at2 HR.out 12 (by have := HLEN.out; omega); have hx13 : y40.cell? ⟨ad.block, ad.off + 13, none⟩ = some (.int .i64 (rd l 13)) := HI.out.at2 HR.out 13 (by have := HLEN.out; omega)) | ((with_reducible refine gate_store (t := 24) (p := 2) rfl ?_); refine r4_put HI.out rfl rfl _ _ rfl rfl rfl (by kernel_rfl) ?_; intro wz hk hb; have HZz := Aside0.mk hk; have HBz := Aside0.mk hb; clear hk hb))
   (try rw [Exit.noGoto_ret])
   refine bodyPost_ret (results_ctt rfl _ _ w.heap.size 24 r4_zs (0, 0) _ rfl HZz.out Try.underlying24 rfl (by kernel_rfl)) rfl ?_
   refine ⟨.slice none 0 0, ?_, ?_, HBz.out⟩
   ·rw [HT.out]; rfl
   ·rw [HT.out]; exact Kd.R_nil _ _ _ _ _
  by_cases h33 : l.length < 33
  ·have HT : Aside0 (frame_readB l = frame_err 40) := ⟨by
    rw [HF.out, if_pos (e13.out.trans h13), if_neg (by rw [e12.out]; exact fun h => h h12)]
    by_cases c1 : l.length < 32
    ·rw [if_pos c1]
    ·rw [if_neg c1, if_pos h33]⟩
   have HLEN := H14
   have q33 : ((l.length : Int) < 33) = True := eq_true (by omega)
   have b12 : ((12 : Int) < (l.length : Int)) = True := eq_true (by have := HLEN.out; omega)
   have b13 : ((13 : Int) < (l.length : Int)) = True := eq_true (by have := HLEN.out; omega)
   go_wp2_with (first | ((with_reducible refine gate_store (t := 3) (p := 35) rfl ?_); refine r4_fld HI.out rfl rfl 3 _ _ rfl rfl rfl rfl (show (1 : Nat) < 5 by decide) (by kernel_rfl) rfl ?_; intro y35 hk hg; clear HI hg; have HI : Aside0 (r4_I w y35 #[.bool false, .int .i64 n1, .bool false, .int .i64 0, .slice none 0 0]) := ⟨hk⟩; clear hk; have hx12 : y35.cell? ⟨ad.block, ad.off + 12, none⟩ = some (.int .i64 (rd l 12)) := HI.out.at2 HR.out 12 (by have := HLEN.out; omega)) | ((with_reducible refine gate_store (t := 4) (p := 40) rfl ?_); refine r4_fld HI.out rfl rfl 4 _ _ rfl rfl rfl rfl (show (2 : Nat) < 5 by decide) (by kernel_rfl) rfl ?_; intro y40 hk hg; clear HI hg; have HI : Aside0 (r4_I w y40 #[.bool false, .int .i64 n1, _, .int .i64 0, .slice none 0 0]) := ⟨hk⟩; clear hk; have hx12 : y40.cell? ⟨ad.block, ad.off + 12, none⟩ = some (.int .i64 (rd l 12)) := HI.out.at2 HR.out 12 (by have := HLEN.out; omega); have hx13 : y40.cell? ⟨ad.block, ad.off + 13, none⟩ = some (.int .i64 (rd l 13)) := HI.out.at2 HR.out 13 (by have := HLEN.out; omega)) | ((with_reducible refine gate_store (t := 24) (p := 2) rfl ?_); refine r4_put HI.out rfl rfl _ _ rfl rfl rfl (by kernel_rfl) ?_; intro wz hk hb; have HZz := Aside0.mk hk; have HBz := Aside0.mk hb; clear hk hb))
   (try rw [Exit.noGoto_ret])
   refine bodyPost_ret (results_ctt rfl _ _ w.heap.size 24 r4_zs (0, 0) _ rfl HZz.out Try.underlying24 rfl (by kernel_rfl)) rfl ?_
   refine ⟨.slice none 0 0, ?_, ?_, HBz.out⟩
   ·rw [HT.out]; rfl
   ·rw [HT.out]; exact Kd.R_nil _ _ _ _ _
  have HLEN := H14
  have b12 : ((12 : Int) < (l.length : Int)) = True := eq_true (by have := HLEN.out; omega)
  have b13 : ((13 : Int) < (l.length : Int)) = True := eq_true (by have := HLEN.out; omega)
  obtain ⟨lo, hlo⟩ : ∃ lo, lo = frame_numAt l 14 18 := ⟨_, rfl⟩
  have hr1 := r4x_range l 1 11 (by omega) (by decide)
  have hr2 := r4x_range l 14 18 (by omega) (by decide)
  rw [← HN1.out] at hr1
  rw [← hlo] at hr2
  have hor := r4x_or_parts hr1.1 (show n1 < 2048 from hr1.2) hr2.1 (show lo < 262144 from hr2.2)
  have q33 : ((l.length : Int) < 33) = False := eq_false (by omega)
  obtain ⟨A4, hcut4, hC4, hc4⟩ := r4_cut (some ad) c0 l 14 18 (by omega) HC.out
  have hcut4' : ∀ W, (Instr.slice 25 (.slice (some ad) l.length c0) (some (.int .i64 14)) (some (.int .i64 32)) none).run Try.prog W = .ok (.slice A4 18 (c0 - 14)) W := hcut4
  have HG4 : Aside0 (∀ (W : World) (cs : Array Value), r4_I w W cs → Calls Try.prog 54 #[.slice A4 18 (c0 - 14)] W fun e W' => ∃ s, e = .returned (.tuple #[.int .i64 lo, .bool s]) ∧ r4_I w W' cs) := ⟨fun W cs hI => by
   have := r4_get (cs := cs) (l := l) (i := 14) (m := 18) (by omega) hc4 hI (hC4 _ (Kd.C_below HR.out hI.2.2)) HN.out
   rw [← hlo] at this
   exact this⟩
  have HF2 : Aside0 (frame_readB l = if l.length < 34 then frame_err 40 else if ¬ frame_numAt l 33 1 = 0 then frame_err 42 else frame_tailB l true (n1 * 262144 + lo) (decide (frame_numAt l 32 1 = 1)) 34) := ⟨by
   rw [HF.out, if_pos (e13.out.trans h13), if_neg (by rw [e12.out]; exact fun h => h h12), if_neg (by omega), if_neg h33, ← HN1.out, ← hlo, hor]⟩
  have H33 : Aside0 (33 ≤ l.length) := ⟨by omega⟩
  have HR1 := Aside0.mk hr1
  have HR2 := Aside0.mk hr2
  clear hcut4 hC4 hc4 hlo hor hr1 hr2 HF h33 e12 e13
  go_wp2_with (first | ((with_reducible refine gate_store (t := 3) (p := 35) rfl ?_); refine r4_fld HI.out rfl rfl 3 _ _ rfl rfl rfl rfl (show (1 : Nat) < 5 by decide) (by kernel_rfl) rfl ?_; intro y35 hk hg; clear HI hg; have HI : Aside0 (r4_I w y35 #[.bool false, .int .i64 n1, .bool false, .int .i64 0, .slice none 0 0]) := ⟨hk⟩; clear hk; have hx12 : y35.cell? ⟨ad.block, ad.off + 12, none⟩ = some (.int .i64 (rd l 12)) := HI.out.at2 HR.out 12 (by have := HLEN.out; omega)) | ((with_reducible refine gate_store (t := 4) (p := 40) rfl ?_); refine r4_fld HI.out rfl rfl 4 _ _ rfl rfl rfl rfl (show (2 : Nat) < 5 by decide) (by kernel_rfl) rfl ?_; intro y40 hk hg; clear HI hg; have HI : Aside0 (r4_I w y40 #[.bool false, .int .i64 n1, _, .int .i64 0, .slice none 0 0]) := ⟨hk⟩; clear hk; have hx12 : y40.cell? ⟨ad.block, ad.off + 12, none⟩ = some (.int .i64 (rd l 12)) := HI.out.at2 HR.out 12 (by have := HLEN.out; omega); have hx13 : y40.cell? ⟨ad.block, ad.off + 13, none⟩ = some (.int .i64 (rd l 13)) := HI.out.at2 HR.out 13 (by have := HLEN.out; omega)))
  refine (HG4.out _ _ HI.out).mono ?_
  rintro e W4 ⟨s4, rfl, hI⟩
  have nI := Aside0.mk hI
  clear HI hI HG4 hcut4' hx12 hx13 HLEN
  have HI := nI
  clear nI
  have hr1 := HR1.out
  have hr2 := HR2.out
  have b32 : ((32 : Int) < (l.length : Int)) = True := eq_true (by have := H33.out; omega)
  have e32 : frame_numAt l 32 1 = rd l 32 := (r4x_numAt_one HB.out 32 (by have := H33.out; omega)).trans (by simp [rd])
  rw [e32] at HF2
  clear e32
  by_cases g33 : l.length = 33
  ·have HT : Aside0 (frame_readB l = frame_err 40) := ⟨by rw [HF2.out, if_pos (by omega)]⟩
   have HLEN := H33
   have qa : ((l.length : Int) = 33) = True := eq_true (by omega)
   have qb : ((l.length : Int) == 33) = true := beq_iff_eq.mpr (by omega)
   go_wp2_with (first | ((with_reducible refine gate_store (t := 4) (p := 60) rfl ?_); refine r4_fld HI.out rfl rfl 4 _ _ rfl rfl rfl rfl (show (0 : Nat) < 5 by decide) (by kernel_rfl) rfl ?_; intro y60 hk hg; clear HI hg; have HI : Aside0 (r4_I w y60 #[.bool true, .int .i64 n1, _, .int .i64 0, .slice none 0 0]) := ⟨hk⟩; clear hk; have z1 : y60.cell? ⟨w.heap.size + 1, 1, none⟩ = some (.int .i64 n1) := (blk_cell HI.out.2.1 1).trans rfl) | ((with_reducible refine gate_store (t := 3) (p := 66) rfl ?_); refine r4_fld HI.out rfl rfl 3 _ _ rfl rfl rfl rfl (show (1 : Nat) < 5 by decide) (by kernel_rfl) rfl ?_; intro y66 hk hg; clear HI hg; have HI : Aside0 (r4_I w y66 #[.bool true, .int .i64 (n1 * 262144 + lo), _, .int .i64 0, .slice none 0 0]) := ⟨hk⟩; clear hk; have hx32 : y66.cell? ⟨ad.block, ad.off + 32, none⟩ = some (.int .i64 (rd l 32)) := HI.out.at2 HR.out 32 (by have := HLEN.out; omega)) | ((with_reducible refine gate_store (t := 4) (p := 71) rfl ?_); refine r4_fld HI.out rfl rfl 4 _ _ rfl rfl rfl rfl (show (2 : Nat) < 5 by decide) (by kernel_rfl) rfl ?_; intro y71 hk hg; clear HI hg; have HI : Aside0 (r4_I w y71 #[.bool true, .int .i64 (n1 * 262144 + lo), .bool (rd l 32 == 1), .int .i64 0, .slice none 0 0]) := ⟨hk⟩; clear hk) | ((with_reducible refine gate_store (t := 24) (p := 2) rfl ?_); refine r4_put HI.out rfl rfl _ _ rfl rfl rfl (by kernel_rfl) ?_; intro wz hk hb; have HZz := Aside0.mk hk; have HBz := Aside0.mk hb; clear hk hb))
   (try rw [Exit.noGoto_ret])
   refine bodyPost_ret (results_ctt rfl _ _ w.heap.size 24 r4_zs (0, 0) _ rfl HZz.out Try.underlying24 rfl (by kernel_rfl)) rfl ?_
   refine ⟨.slice none 0 0, ?_, ?_, HBz.out⟩
   ·rw [HT.out]; rfl
   ·rw [HT.out]; exact Kd.R_nil _ _ _ _ _
  have HLB : Aside0 (34 ≤ l.length) := ⟨by have := H33.out; omega⟩
  have HLEN := HLB
  have qa3 : ((l.length : Int) = 33) = False := eq_false (by omega)
  have qb3 : ((l.length : Int) == 33) = false := beq_eq_false_iff_ne.mpr (by omega)
  have b33 : ((33 : Int) < (l.length : Int)) = True := eq_true (by have := HLB.out; omega)
  have e33 : Aside0 (frame_numAt l 33 1 = rd l 33) := ⟨(r4x_numAt_one HB.out 33 (by have := HLB.out; omega)).trans (by simp [rd])⟩
  by_cases h33b : rd l 33 = 0
  rotate_left
  ·have HT : Aside0 (frame_readB l = frame_err 42) := ⟨by rw [HF2.out, if_neg (by have := HLB.out; omega), if_pos (by rw [e33.out]; exact h33b)]⟩
   have qz3 : (rd l 33 == 0) = false := beq_eq_false_iff_ne.mpr h33b
   go_wp2_with (first | ((with_reducible refine gate_store (t := 4) (p := 60) rfl ?_); refine r4_fld HI.out rfl rfl 4 _ _ rfl rfl rfl rfl (show (0 : Nat) < 5 by decide) (by kernel_rfl) rfl ?_; intro y60 hk hg; clear HI hg; have HI : Aside0 (r4_I w y60 #[.bool true, .int .i64 n1, _, .int .i64 0, .slice none 0 0]) := ⟨hk⟩; clear hk; have z1 : y60.cell? ⟨w.heap.size + 1, 1, none⟩ = some (.int .i64 n1) := (blk_cell HI.out.2.1 1).trans rfl) | ((with_reducible refine gate_store (t := 3) (p := 66) rfl ?_); refine r4_fld HI.out rfl rfl 3 _ _ rfl rfl rfl rfl (show (1 : Nat) < 5 by decide) (by kernel_rfl) rfl ?_; intro y66 hk hg; clear HI hg; have HI : Aside0 (r4_I w y66 #[.bool true, .int .i64 (n1 * 262144 + lo), _, .int .i64 0, .slice none 0 0]) := ⟨hk⟩; clear hk; have hx32 : y66.cell? ⟨ad.block, ad.off + 32, none⟩ = some (.int .i64 (rd l 32)) := HI.out.at2 HR.out 32 (by have := HLEN.out; omega)) | ((with_reducible refine gate_store (t := 4) (p := 71) rfl ?_); refine r4_fld HI.out rfl rfl 4 _ _ rfl rfl rfl rfl (show (2 : Nat) < 5 by decide) (by kernel_rfl) rfl ?_; intro y71 hk hg; clear HI hg; have HI : Aside0 (r4_I w y71 #[.bool true, .int .i64 (n1 * 262144 + lo), .bool (rd l 32 == 1), .int .i64 0, .slice none 0 0]) := ⟨hk⟩; clear hk; have hx33 : y71.cell? ⟨ad.block, ad.off + 33, none⟩ = some (.int .i64 (rd l 33)) := HI.out.at2 HR.out 33 (by have := HLEN.out; omega)) | ((with_reducible refine gate_store (t := 24) (p := 2) rfl ?_); refine r4_put HI.out rfl rfl _ _ rfl rfl rfl (by kernel_rfl) ?_; intro wz hk hb; have HZz := Aside0.mk hk; have HBz := Aside0.mk hb; clear hk hb))
   (try rw [Exit.noGoto_ret])
   refine bodyPost_ret (results_ctt rfl _ _ w.heap.size 24 r4_zs (0, 0) _ rfl HZz.out Try.underlying24 rfl (by kernel_rfl)) rfl ?_
   refine ⟨.slice none 0 0, ?_, ?_, HBz.out⟩
   ·rw [HT.out]; rfl
   ·rw [HT.out]; exact Kd.R_nil _ _ _ _ _
  have wc : wrap64 ((33 : Int) + 1) = 34 := by decide +kernel
  have HFT : Aside0 (frame_readB l = frame_tailB l true (n1 * 262144 + lo) (decide (rd l 32 = 1)) 34) := ⟨by rw [HF2.out, if_neg (by have := HLB.out; omega), if_neg (by rw [e33.out]; exact fun h => h h33b)]⟩
  clear HF2 e33 HLEN g33
  have ln14 := HLB.out
  by_cases g1 : l.length = 34
  ·have HT : Aside0 (frame_readB l = frame_err 40) := ⟨by rw [HFT.out]; unfold frame_tailB; rw [if_pos (by omega)]⟩
   have HLEN := HLB
   have qa : ((l.length : Int) = 34) = True := eq_true (by omega)
   have qb : ((l.length : Int) == 34) = true := beq_iff_eq.mpr (by omega)
   have b12 : ((12 : Int) < (l.length : Int)) = True := eq_true (by have := HLEN.out; omega)
   have b13 : ((13 : Int) < (l.length : Int)) = True := eq_true (by have := HLEN.out; omega)
   go_wp2_with (first | ((with_reducible refine gate_store (t := 4) (p := 60) rfl ?_); refine r4_fld HI.out rfl rfl 4 _ _ rfl rfl rfl rfl (show (0 : Nat) < 5 by decide) (by kernel_rfl) rfl ?_; intro y60 hk hg; clear HI hg; have HI : Aside0 (r4_I w y60 #[.bool true, .int .i64 n1, _, .int .i64 0, .slice none 0 0]) := ⟨hk⟩; clear hk; have z1 : y60.cell? ⟨w.heap.size + 1, 1, none⟩ = some (.int .i64 n1) := (blk_cell HI.out.2.1 1).trans rfl) | ((with_reducible refine gate_store (t := 3) (p := 66) rfl ?_); refine r4_fld HI.out rfl rfl 3 _ _ rfl rfl rfl rfl (show (1 : Nat) < 5 by decide) (by kernel_rfl) rfl ?_; intro y66 hk hg; clear HI hg; have HI : Aside0 (r4_I w y66 #[.bool true, .int .i64 (n1 * 262144 + lo), _, .int .i64 0, .slice none 0 0]) := ⟨hk⟩; clear hk; have hx32 : y66.cell? ⟨ad.block, ad.off + 32, none⟩ = some (.int .i64 (rd l 32)) := HI.out.at2 HR.out 32 (by have := HLEN.out; omega)) | ((with_reducible refine gate_store (t := 4) (p := 71) rfl ?_); refine r4_fld HI.out rfl rfl 4 _ _ rfl rfl rfl rfl (show (2 : Nat) < 5 by decide) (by kernel_rfl) rfl ?_; intro y71 hk hg; clear HI hg; have HI : Aside0 (r4_I w y71 #[.bool true, .int .i64 (n1 * 262144 + lo), .bool (rd l 32 == 1), .int .i64 0, .slice none 0 0]) := ⟨hk⟩; clear hk; have hx33 : y71.cell? ⟨ad.block, ad.off + 33, none⟩ = some (.int .i64 (rd l 33)) := HI.out.at2 HR.out 33 (by have := HLEN.out; omega)) | ((with_reducible refine gate_store (t := 24) (p := 2) rfl ?_); refine r4_put HI.out rfl rfl _ _ rfl rfl rfl (by kernel_rfl) ?_; intro wz hk hb; have HZz := Aside0.mk hk; have HBz := Aside0.mk hb; clear hk hb))
   (try rw [Exit.noGoto_ret])
   refine bodyPost_ret (results_ctt rfl _ _ w.heap.size 24 r4_zs (0, 0) _ rfl HZz.out Try.underlying24 rfl (by kernel_rfl)) rfl ?_
   refine ⟨.slice none 0 0, ?_, ?_, HBz.out⟩
   ·rw [HT.out]; rfl
   ·rw [HT.out]; exact Kd.R_nil _ _ _ _ _
  have HLEN : Aside0 (35 ≤ l.length) := ⟨by omega⟩
  have qa : ((l.length : Int) = 34) = False := eq_false (by omega)
  have qb : ((l.length : Int) == 34) = false := beq_eq_false_iff_ne.mpr (by omega)
  have b12 : ((12 : Int) < (l.length : Int)) = True := eq_true (by have := HLEN.out; omega)
  have b13 : ((13 : Int) < (l.length : Int)) = True := eq_true (by have := HLEN.out; omega)
  have b34 : ((34 : Int) < (l.length : Int)) = True := eq_true (by have := HLEN.out; omega)
  have eat : Aside0 (frame_numAt l 34 1 = rd l 34) := ⟨(r4x_numAt_one HB.out 34 (by have := HLEN.out; omega)).trans (by simp [rd])⟩
  by_cases g2 : rd l 34 = 0
  rotate_left
  ·have HT : Aside0 (frame_readB l = frame_err 42) := ⟨by rw [HFT.out]; unfold frame_tailB; rw [if_neg (by have := HLEN.out; omega), if_pos (by rw [eat.out]; exact g2)]⟩
   have qz : (rd l 34 == 0) = false := beq_eq_false_iff_ne.mpr g2
   go_wp2_with (first | ((with_reducible refine gate_store (t := 4) (p := 60) rfl ?_); refine r4_fld HI.out rfl rfl 4 _ _ rfl rfl rfl rfl (show (0 : Nat) < 5 by decide) (by kernel_rfl) rfl ?_; intro y60 hk hg; clear HI hg; have HI : Aside0 (r4_I w y60 #[.bool true, .int .i64 n1, _, .int .i64 0, .slice none 0 0]) := ⟨hk⟩; clear hk; have z1 : y60.cell? ⟨w.heap.size + 1, 1, none⟩ = some (.int .i64 n1) := (blk_cell HI.out.2.1 1).trans rfl) | ((with_reducible refine gate_store (t := 3) (p := 66) rfl ?_); refine r4_fld HI.out rfl rfl 3 _ _ rfl rfl rfl rfl (show (1 : Nat) < 5 by decide) (by kernel_rfl) rfl ?_; intro y66 hk hg; clear HI hg; have HI : Aside0 (r4_I w y66 #[.bool true, .int .i64 (n1 * 262144 + lo), _, .int .i64 0, .slice none 0 0]) := ⟨hk⟩; clear hk; have hx32 : y66.cell? ⟨ad.block, ad.off + 32, none⟩ = some (.int .i64 (rd l 32)) := HI.out.at2 HR.out 32 (by have := HLEN.out; omega)) | ((with_reducible refine gate_store (t := 4) (p := 71) rfl ?_); refine r4_fld HI.out rfl rfl 4 _ _ rfl rfl rfl rfl (show (2 : Nat) < 5 by decide) (by kernel_rfl) rfl ?_; intro y71 hk hg; clear HI hg; have HI : Aside0 (r4_I w y71 #[.bool true, .int .i64 (n1 * 262144 + lo), .bool (rd l 32 == 1), .int .i64 0, .slice none 0 0]) := ⟨hk⟩; clear hk; have hx33 : y71.cell? ⟨ad.block, ad.off + 33, none⟩ = some (.int .i64 (rd l 33)) := HI.out.at2 HR.out 33 (by have := HLEN.out; omega); have hx34 : y71.cell? ⟨ad.block, ad.off + 34, none⟩ = some (.int .i64 (rd l 34)) := HI.out.at2 HR.out 34 (by have := HLEN.out; omega)) | ((with_reducible refine gate_store (t := 24) (p := 2) rfl ?_); refine r4_put HI.out rfl rfl _ _ rfl rfl rfl (by kernel_rfl) ?_; intro wz hk hb; have HZz := Aside0.mk hk; have HBz := Aside0.mk hb; clear hk hb))
   (try rw [Exit.noGoto_ret])
   refine bodyPost_ret (results_ctt rfl _ _ w.heap.size 24 r4_zs (0, 0) _ rfl HZz.out Try.underlying24 rfl (by kernel_rfl)) rfl ?_
   refine ⟨.slice none 0 0, ?_, ?_, HBz.out⟩
   ·rw [HT.out]; rfl
   ·rw [HT.out]; exact Kd.R_nil _ _ _ _ _
  have wa : wrap64 ((34 : Int) + 1) = 35 := by decide +kernel
  have wb : wrap64 ((35 : Int) + 4) = 39 := by decide +kernel
  by_cases g3 : l.length < 39
  ·have HT : Aside0 (frame_readB l = frame_err 40) := ⟨by rw [HFT.out]; unfold frame_tailB; rw [if_neg (by have := HLEN.out; omega), if_neg (by rw [eat.out]; exact fun h => h g2), if_pos (by omega)]⟩
   have qc : ((l.length : Int) < 39) = True := eq_true (by omega)
   go_wp2_with (first | ((with_reducible refine gate_store (t := 4) (p := 60) rfl ?_); refine r4_fld HI.out rfl rfl 4 _ _ rfl rfl rfl rfl (show (0 : Nat) < 5 by decide) (by kernel_rfl) rfl ?_; intro y60 hk hg; clear HI hg; have HI : Aside0 (r4_I w y60 #[.bool true, .int .i64 n1, _, .int .i64 0, .slice none 0 0]) := ⟨hk⟩; clear hk; have z1 : y60.cell? ⟨w.heap.size + 1, 1, none⟩ = some (.int .i64 n1) := (blk_cell HI.out.2.1 1).trans rfl) | ((with_reducible refine gate_store (t := 3) (p := 66) rfl ?_); refine r4_fld HI.out rfl rfl 3 _ _ rfl rfl rfl rfl (show (1 : Nat) < 5 by decide) (by kernel_rfl) rfl ?_; intro y66 hk hg; clear HI hg; have HI : Aside0 (r4_I w y66 #[.bool true, .int .i64 (n1 * 262144 + lo), _, .int .i64 0, .slice none 0 0]) := ⟨hk⟩; clear hk; have hx32 : y66.cell? ⟨ad.block, ad.off + 32, none⟩ = some (.int .i64 (rd l 32)) := HI.out.at2 HR.out 32 (by have := HLEN.out; omega)) | ((with_reducible refine gate_store (t := 4) (p := 71) rfl ?_); refine r4_fld HI.out rfl rfl 4 _ _ rfl rfl rfl rfl (show (2 : Nat) < 5 by decide) (by kernel_rfl) rfl ?_; intro y71 hk hg; clear HI hg; have HI : Aside0 (r4_I w y71 #[.bool true, .int .i64 (n1 * 262144 + lo), .bool (rd l 32 == 1), .int .i64 0, .slice none 0 0]) := ⟨hk⟩; clear hk; have hx33 : y71.cell? ⟨ad.block, ad.off + 33, none⟩ = some (.int .i64 (rd l 33)) := HI.out.at2 HR.out 33 (by have := HLEN.out; omega); have hx34 : y71.cell? ⟨ad.block, ad.off + 34, none⟩ = some (.int .i64 (rd l 34)) := HI.out.at2 HR.out 34 (by have := HLEN.out; omega)) | ((with_reducible refine gate_store (t := 24) (p := 2) rfl ?_); refine r4_put HI.out rfl rfl _ _ rfl rfl rfl (by kernel_rfl) ?_; intro wz hk hb; have HZz := Aside0.mk hk; have HBz := Aside0.mk hb; clear hk hb))
   (try rw [Exit.noGoto_ret])
   refine bodyPost_ret (results_ctt rfl _ _ w.heap.size 24 r4_zs (0, 0) _ rfl HZz.out Try.underlying24 rfl (by kernel_rfl)) rfl ?_
   refine ⟨.slice none 0 0, ?_, ?_, HBz.out⟩
   ·rw [HT.out]; rfl
   ·rw [HT.out]; exact Kd.R_nil _ _ _ _ _
  have qc : ((l.length : Int) < 39) = False := eq_false (by omega)
  obtain ⟨L, hL⟩ : ∃ L : Nat, frame_numAt l 35 4 = (L : Int) := ⟨(frame_numAt l 35 4).toNat, by have := frame_num4 l 35 (by omega); omega⟩
  have hL16 : L < 16 := by have := frame_num4 l 35 (by omega); omega
  obtain ⟨A2, hcut2, hC2, hc2⟩ := r4_cut (some ad) c0 l 35 4 (by omega) HC.out
  have hcut2' : ∀ W, (Instr.slice 25 (.slice (some ad) l.length c0) (some (.int .i64 35)) (some (.int .i64 39)) none).run Try.prog W = .ok (.slice A2 4 (c0 - 35)) W := hcut2
  have HG2 : Aside0 (∀ (W : World) (cs : Array Value), r4_I w W cs → Calls Try.prog 54 #[.slice A2 4 (c0 - 35)] W fun e W' => ∃ s, e = .returned (.tuple #[.int .i64 (L : Int), .bool s]) ∧ r4_I w W' cs) := ⟨fun W cs hI => by
   have := r4_get (cs := cs) (l := l) (i := 35) (m := 4) (by omega) hc2 hI (hC2 _ (Kd.C_below HR.out hI.2.2)) HN.out
   rw [hL] at this
   exact this⟩
  have HFU : Aside0 (frame_readB l = if 8 < (L : Int) then frame_err 41 else if (decide (rd l 32 = 1)) = true then (0, true, (n1 * 262144 + lo), (decide (rd l 32 = 1)), (L : Int), [], 39) else if l.length < 39 + 8 * L then frame_err 40 else (0, true, (n1 * 262144 + lo), (decide (rd l 32 = 1)), (L : Int), (H.joinB (frame_bitsAt l 39 (8 * L))).1, 39 + 8 * L)) := ⟨by
   rw [HFT.out]; unfold frame_tailB; rw [if_neg (by have := HLEN.out; omega), if_neg (by rw [eat.out]; exact fun h => h g2), if_neg (by omega), hL, Int.toNat_natCast]⟩
  have HG3 : Aside0 (39 ≤ l.length) := ⟨by omega⟩
  clear hcut2 hC2 hc2 hL g1 g3 ln14 eat HFT
  go_wp2_with (first | ((with_reducible refine gate_store (t := 4) (p := 60) rfl ?_); refine r4_fld HI.out rfl rfl 4 _ _ rfl rfl rfl rfl (show (0 : Nat) < 5 by decide) (by kernel_rfl) rfl ?_; intro y60 hk hg; clear HI hg; have HI : Aside0 (r4_I w y60 #[.bool true, .int .i64 n1, _, .int .i64 0, .slice none 0 0]) := ⟨hk⟩; clear hk; have z1 : y60.cell? ⟨w.heap.size + 1, 1, none⟩ = some (.int .i64 n1) := (blk_cell HI.out.2.1 1).trans rfl) | ((with_reducible refine gate_store (t := 3) (p := 66) rfl ?_); refine r4_fld HI.out rfl rfl 3 _ _ rfl rfl rfl rfl (show (1 : Nat) < 5 by decide) (by kernel_rfl) rfl ?_; intro y66 hk hg; clear HI hg; have HI : Aside0 (r4_I w y66 #[.bool true, .int .i64 (n1 * 262144 + lo), _, .int .i64 0, .slice none 0 0]) := ⟨hk⟩; clear hk; have hx32 : y66.cell? ⟨ad.block, ad.off + 32, none⟩ = some (.int .i64 (rd l 32)) := HI.out.at2 HR.out 32 (by have := HLEN.out; omega)) | ((with_reducible refine gate_store (t := 4) (p := 71) rfl ?_); refine r4_fld HI.out rfl rfl 4 _ _ rfl rfl rfl rfl (show (2 : Nat) < 5 by decide) (by kernel_rfl) rfl ?_; intro y71 hk hg; clear HI hg; have HI : Aside0 (r4_I w y71 #[.bool true, .int .i64 (n1 * 262144 + lo), .bool (rd l 32 == 1), .int .i64 0, .slice none 0 0]) := ⟨hk⟩; clear hk; have hx33 : y71.cell? ⟨ad.block, ad.off + 33, none⟩ = some (.int .i64 (rd l 33)) := HI.out.at2 HR.out 33 (by have := HLEN.out; omega); have hx34 : y71.cell? ⟨ad.block, ad.off + 34, none⟩ = some (.int .i64 (rd l 34)) := HI.out.at2 HR.out 34 (by have := HLEN.out; omega)))
  refine (HG2.out _ _ HI.out).mono ?_
  rintro e W9 ⟨s9, rfl, hI⟩
  have nI := Aside0.mk hI
  clear HI hI HG2 hcut2'
  have HI := nI
  clear nI
  by_cases g4 : 8 < L
  ·have HT : Aside0 (frame_readB l = frame_err 41) := ⟨by rw [HFU.out, if_pos (by omega)]⟩
   have qd : ((8 : Int) < (L : Int)) = True := eq_true (by omega)
   have qd2 : ((L : Int) > 8) = True := eq_true (by omega)
   go_wp2_with (first | ((with_reducible refine gate_store (t := 3) (p := 114) rfl ?_); refine r4_fld HI.out rfl rfl 3 _ _ rfl rfl rfl rfl (show (3 : Nat) < 5 by decide) (by kernel_rfl) rfl ?_; intro y114 hk hg; clear HI hg; have HI : Aside0 (r4_I w y114 #[.bool true, .int .i64 (n1 * 262144 + lo), .bool (rd l 32 == 1), .int .i64 (L : Int), .slice none 0 0]) := ⟨hk⟩; clear hk; have z2 : y114.cell? ⟨w.heap.size + 1, 2, none⟩ = some (.bool (rd l 32 == 1)) := (blk_cell HI.out.2.1 2).trans rfl; have z3 : y114.cell? ⟨w.heap.size + 1, 3, none⟩ = some (.int .i64 (L : Int)) := (blk_cell HI.out.2.1 3).trans rfl) | ((with_reducible refine gate_store (t := 24) (p := 2) rfl ?_); refine r4_put HI.out rfl rfl _ _ rfl rfl rfl (by kernel_rfl) ?_; intro wz hk hb; have HZz := Aside0.mk hk; have HBz := Aside0.mk hb; clear hk hb))
   (try rw [Exit.noGoto_ret])
   refine bodyPost_ret (results_ctt rfl _ _ w.heap.size 24 r4_zs (0, 0) _ rfl HZz.out Try.underlying24 rfl (by kernel_rfl)) rfl ?_
   refine ⟨.slice none 0 0, ?_, ?_, HBz.out⟩
   ·rw [HT.out]; rfl
   ·rw [HT.out]; exact Kd.R_nil _ _ _ _ _
  have qd : ((8 : Int) < (L : Int)) = False := eq_false (by omega)
  cases hrm : (rd l 32 == 1) with
  | true =>
   rw [hrm] at HI
   have HT : Aside0 (frame_readB l = (0, true, (n1 * 262144 + lo), true, (L : Int), [], 39)) := ⟨by rw [HFU.out, if_neg (by omega), show decide (rd l 32 = 1) = (rd l 32 == 1) from rfl, hrm, if_pos rfl]⟩
   clear hrm
   go_wp2_with (first | ((with_reducible refine gate_store (t := 3) (p := 114) rfl ?_); refine r4_fld HI.out rfl rfl 3 _ _ rfl rfl rfl rfl (show (3 : Nat) < 5 by decide) (by kernel_rfl) rfl ?_; intro y114 hk hg; clear HI hg; have HI : Aside0 (r4_I w y114 #[.bool true, .int .i64 (n1 * 262144 + lo), .bool true, .int .i64 (L : Int), .slice none 0 0]) := ⟨hk⟩; clear hk; have z2 : y114.cell? ⟨w.heap.size + 1, 2, none⟩ = some (.bool true) := (blk_cell HI.out.2.1 2).trans rfl; have z3 : y114.cell? ⟨w.heap.size + 1, 3, none⟩ = some (.int .i64 (L : Int)) := (blk_cell HI.out.2.1 3).trans rfl) | ((with_reducible refine gate_dst (N := 152) rfl ?_); refine wpList_load_row rfl 24 _ rfl _ rfl _ _ (0, 0) _ HI.out.2.1 Try.underlying24 rfl (by kernel_rfl) ?_) | ((with_reducible refine gate_store (t := 24) (p := 2) rfl ?_); refine HW.store_box' rfl rfl 24 _ _ rfl rfl rfl HI.out.1 rfl (by kernel_rfl) (by intro q hq; simp only [List.mem_cons, List.not_mem_nil, or_false] at hq; rcases hq with rfl | rfl | rfl | rfl | rfl <;> rfl) ?_; intro wz hk hg; have HBz := Aside0.mk (HI.out.2.2.grown hg HI.out.2.2.size (fun k he => by injection he with he; omega)); have HZz := Aside0.mk hk; clear hk hg))
   (try rw [Exit.noGoto_ret])
   refine bodyPost_ret (results_ctt rfl _ _ w.heap.size 24 _ (0, 0) _ rfl HZz.out Try.underlying24 rfl (by kernel_rfl)) rfl ?_
   refine ⟨.slice none 0 0, ?_, ?_, HBz.out⟩
   ·rw [HT.out]; rfl
   ·rw [HT.out]; exact Kd.R_nil _ _ _ _ _
  | false =>
   rw [hrm] at HI
   have hcc : ((39 + 8 * L : Nat) : Int) = 39 + 8 * (L : Int) := by omega
   have HCC := Aside0.mk hcc
   by_cases g5 : l.length < 39 + 8 * L
   ·have HT : Aside0 (frame_readB l = frame_err 40) := ⟨by rw [HFU.out, if_neg (by omega), show decide (rd l 32 = 1) = (rd l 32 == 1) from rfl, hrm, if_neg (by simp), if_pos (by omega)]⟩
    have qe : ((l.length : Int) < 39 + 8 * (L : Int)) = True := eq_true (by omega)
    clear hrm hcc g5
    go_wp2_with (first | ((with_reducible refine gate_store (t := 3) (p := 114) rfl ?_); refine r4_fld HI.out rfl rfl 3 _ _ rfl rfl rfl rfl (show (3 : Nat) < 5 by decide) (by kernel_rfl) rfl ?_; intro y114 hk hg; clear HI hg; have HI : Aside0 (r4_I w y114 #[.bool true, .int .i64 (n1 * 262144 + lo), .bool false, .int .i64 (L : Int), .slice none 0 0]) := ⟨hk⟩; clear hk; have z2 : y114.cell? ⟨w.heap.size + 1, 2, none⟩ = some (.bool false) := (blk_cell HI.out.2.1 2).trans rfl; have z3 : y114.cell? ⟨w.heap.size + 1, 3, none⟩ = some (.int .i64 (L : Int)) := (blk_cell HI.out.2.1 3).trans rfl) | ((with_reducible refine gate_store (t := 24) (p := 2) rfl ?_); refine r4_put HI.out rfl rfl _ _ rfl rfl rfl (by kernel_rfl) ?_; intro wz hk hb; have HZz := Aside0.mk hk; have HBz := Aside0.mk hb; clear hk hb))
    (try rw [Exit.noGoto_ret])
    refine bodyPost_ret (results_ctt rfl _ _ w.heap.size 24 r4_zs (0, 0) _ rfl HZz.out Try.underlying24 rfl (by kernel_rfl)) rfl ?_
    refine ⟨.slice none 0 0, ?_, ?_, HBz.out⟩
    ·rw [HT.out]; rfl
    ·rw [HT.out]; exact Kd.R_nil _ _ _ _ _
   have HT : Aside0 (frame_readB l = (0, true, (n1 * 262144 + lo), false, (L : Int), (H.joinB (frame_bitsAt l 39 (8 * L))).1, 39 + 8 * L)) := ⟨by rw [HFU.out, if_neg (by omega), show decide (rd l 32 = 1) = (rd l 32 == 1) from rfl, hrm, if_neg (by simp), if_neg (by omega)]⟩
   have qe : ((l.length : Int) < 39 + 8 * (L : Int)) = False := eq_false (by omega)
   obtain ⟨A3, hcut3, hC3, hc3⟩ := r4_cut (some ad) c0 l 39 (8 * L) (by omega) HC.out
   rw [hcc] at hcut3
   have hcut3' : ∀ W, (Instr.slice 25 (.slice (some ad) l.length c0) (some (.int .i64 39)) (some (.int .i64 (39 + 8 * (L : Int)))) none).run Try.prog W = .ok (.slice A3 (8 * L) (c0 - 39)) W := hcut3
   have hbl := frame_bitsAt_len l 39 (8 * L) (by omega)
   obtain ⟨KJ, hKJ⟩ := r4x_join_k (frame_bitsAt l 39 (8 * L)) (by rw [hbl]; have := HN.out; omega)
   have HJ : Aside0 (∀ (W : World) (cs : Array Value), r4_I w W cs → Calls Try.prog 55 #[.slice A3 (8 * L) (c0 - 39)] W fun e W' => ∃ v, e = .returned (.tuple #[v, .bool (H.joinB (frame_bitsAt l 39 (8 * L))).2]) ∧ Kd.R (Kd.int .u8) 5 W' W.heap.size (fun _ => True) v (H.joinB (frame_bitsAt l 39 (8 * L))).1 ∧ r4_I w W' cs) := ⟨fun W cs hI => by
    have := phaetonref01_Join.calls KJ A3 (c0 - 39) (frame_bitsAt l 39 (8 * L)) (H.joinB (frame_bitsAt l 39 (8 * L))).1 (H.joinB (frame_bitsAt l 39 (8 * L))).2 W (by rw [hbl]; exact hC3 _ (Kd.C_below HR.out hI.2.2)) (by rw [hbl]; exact hc3) (hKJ KJ (Nat.le_refl _))
    rw [hbl] at this
    refine this.mono ?_
    rintro e W' ⟨v, rfl, hv, hb⟩
    exact ⟨v, rfl, hv, blk_below hI.1 hb, blk_below hI.2.1 hb, hI.2.2.trans (hb.mono hI.2.2.size)⟩⟩
   obtain ⟨jd, hjd⟩ : ∃ jd, jd = (H.joinB (frame_bitsAt l 39 (8 * L))) := ⟨_, rfl⟩
   rw [← hjd] at HT HJ
   clear hrm hcc hcut3 hC3 hc3 hbl hKJ hjd g5
   go_wp2_with (first | ((with_reducible refine gate_store (t := 3) (p := 114) rfl ?_); refine r4_fld HI.out rfl rfl 3 _ _ rfl rfl rfl rfl (show (3 : Nat) < 5 by decide) (by kernel_rfl) rfl ?_; intro y114 hk hg; clear HI hg; have HI : Aside0 (r4_I w y114 #[.bool true, .int .i64 (n1 * 262144 + lo), .bool false, .int .i64 (L : Int), .slice none 0 0]) := ⟨hk⟩; clear hk; have z2 : y114.cell? ⟨w.heap.size + 1, 2, none⟩ = some (.bool false) := (blk_cell HI.out.2.1 2).trans rfl; have z3 : y114.cell? ⟨w.heap.size + 1, 3, none⟩ = some (.int .i64 (L : Int)) := (blk_cell HI.out.2.1 3).trans rfl))
   have HS9 := Aside0.mk HI.out.2.2.size
   refine (HJ.out _ _ HI.out).mono ?_
   rintro e W8 ⟨v, rfl, hv, hI⟩
   obtain ⟨AV, cV, rfl⟩ := Kd.R_slice hv
   have HV := Aside0.mk (Kd.R_lower hv HS9.out)
   have nI := Aside0.mk hI
   clear HI hI HJ hcut3' hv z2 z3
   have HI := nI
   clear nI
   have z3 : W8.cell? ⟨w.heap.size + 1, 3, none⟩ = some (.int .i64 (L : Int)) := (blk_cell HI.out.2.1 3).trans rfl
   go_wp2_with (first | ((with_reducible refine gate_store (t := 22) (p := 146) rfl ?_); refine r4_fld HI.out rfl rfl 22 _ _ rfl rfl rfl rfl (show (4 : Nat) < 5 by decide) (by kernel_rfl) rfl ?_; intro y146 hk hg; have nV := Aside0.mk (frame_R_far HV.out hg HI.out.2.1); clear HV; have HV := nV; clear nV; clear HI hg; have HI : Aside0 (r4_I w y146 #[.bool true, .int .i64 (n1 * 262144 + lo), .bool false, .int .i64 (L : Int), .slice AV jd.1.length cV]) := ⟨hk⟩; clear hk; have z3 : y146.cell? ⟨w.heap.size + 1, 3, none⟩ = some (.int .i64 (L : Int)) := (blk_cell HI.out.2.1 3).trans rfl) | ((with_reducible refine gate_dst (N := 152) rfl ?_); refine wpList_load_row rfl 24 _ rfl _ rfl _ _ (0, 0) _ HI.out.2.1 Try.underlying24 rfl (by kernel_rfl) ?_) | ((with_reducible refine gate_store (t := 24) (p := 2) rfl ?_); refine HW.store_box' rfl rfl 24 _ _ rfl rfl rfl HI.out.1 rfl (by kernel_rfl) (by intro q hq; simp only [List.mem_cons, List.not_mem_nil, or_false] at hq; rcases hq with rfl | rfl | rfl | rfl | rfl <;> rfl) ?_; intro wz hk hg; have HBz := Aside0.mk (HI.out.2.2.grown hg HI.out.2.2.size (fun k he => by injection he with he; omega)); have HVz := Aside0.mk (frame_R_far HV.out hg HI.out.1); have HZz := Aside0.mk hk; clear hk hg))
   (try rw [Exit.noGoto_ret])
   refine bodyPost_ret (results_ctt rfl _ _ w.heap.size 24 _ (0, 0) _ rfl HZz.out Try.underlying24 rfl (by kernel_rfl)) rfl ?_
   refine ⟨.slice AV jd.1.length cV, ?_, ?_, HBz.out⟩
   ·rw [HT.out]; dsimp only; rw [HCC.out]; rfl
   ·rw [HT.out]; exact HVz.out
 ·have HFT : Aside0 (frame_readB l = frame_tailB l false n1 (decide (rd l 12 = 1)) 14) := ⟨by rw [HF.out, if_neg (by rw [e13.out]; exact h13), HN1.out, e12.out]⟩
  have q13 : (rd l 13 == 1) = false := beq_eq_false_iff_ne.mpr h13
  clear e12 e13 HF
  have HLB : Aside0 (14 ≤ l.length) := H14
  have ln14 := HLB.out
  by_cases g1 : l.length = 14
  ·have HT : Aside0 (frame_readB l = frame_err 40) := ⟨by rw [HFT.out]; unfold frame_tailB; rw [if_pos (by omega)]⟩
   have HLEN := HLB
   have qa : ((l.length : Int) = 14) = True := eq_true (by omega)
   have qb : ((l.length : Int) == 14) = true := beq_iff_eq.mpr (by omega)
   have b12 : ((12 : Int) < (l.length : Int)) = True := eq_true (by have := HLEN.out; omega)
   have b13 : ((13 : Int) < (l.length : Int)) = True := eq_true (by have := HLEN.out; omega)
   go_wp2_with (first | ((with_reducible refine gate_store (t := 3) (p := 35) rfl ?_); refine r4_fld HI.out rfl rfl 3 _ _ rfl rfl rfl rfl (show (1 : Nat) < 5 by decide) (by kernel_rfl) rfl ?_; intro y35 hk hg; clear HI hg; have HI : Aside0 (r4_I w y35 #[.bool false, .int .i64 n1, .bool false, .int .i64 0, .slice none 0 0]) := ⟨hk⟩; clear hk; have hx12 : y35.cell? ⟨ad.block, ad.off + 12, none⟩ = some (.int .i64 (rd l 12)) := HI.out.at2 HR.out 12 (by have := HLEN.out; omega)) | ((with_reducible refine gate_store (t := 4) (p := 40) rfl ?_); refine r4_fld HI.out rfl rfl 4 _ _ rfl rfl rfl rfl (show (2 : Nat) < 5 by decide) (by kernel_rfl) rfl ?_; intro y40 hk hg; clear HI hg; have HI : Aside0 (r4_I w y40 #[.bool false, .int .i64 n1, .bool (rd l 12 == 1), .int .i64 0, .slice none 0 0]) := ⟨hk⟩; clear hk; have hx13 : y40.cell? ⟨ad.block, ad.off + 13, none⟩ = some (.int .i64 (rd l 13)) := HI.out.at2 HR.out 13 (by have := HLEN.out; omega)) | ((with_reducible refine gate_store (t := 24) (p := 2) rfl ?_); refine r4_put HI.out rfl rfl _ _ rfl rfl rfl (by kernel_rfl) ?_; intro wz hk hb; have HZz := Aside0.mk hk; have HBz := Aside0.mk hb; clear hk hb))
   (try rw [Exit.noGoto_ret])
   refine bodyPost_ret (results_ctt rfl _ _ w.heap.size 24 r4_zs (0, 0) _ rfl HZz.out Try.underlying24 rfl (by kernel_rfl)) rfl ?_
   refine ⟨.slice none 0 0, ?_, ?_, HBz.out⟩
   ·rw [HT.out]; rfl
   ·rw [HT.out]; exact Kd.R_nil _ _ _ _ _
  have HLEN : Aside0 (15 ≤ l.length) := ⟨by omega⟩
  have qa : ((l.length : Int) = 14) = False := eq_false (by omega)
  have qb : ((l.length : Int) == 14) = false := beq_eq_false_iff_ne.mpr (by omega)
  have b12 : ((12 : Int) < (l.length : Int)) = True := eq_true (by have := HLEN.out; omega)
  have b13 : ((13 : Int) < (l.length : Int)) = True := eq_true (by have := HLEN.out; omega)
  have b14 : ((14 : Int) < (l.length : Int)) = True := eq_true (by have := HLEN.out; omega)
  have eat : Aside0 (frame_numAt l 14 1 = rd l 14) := ⟨(r4x_numAt_one HB.out 14 (by have := HLEN.out; omega)).trans (by simp [rd])⟩
  by_cases g2 : rd l 14 = 0
  rotate_left
  ·have HT : Aside0 (frame_readB l = frame_err 42) := ⟨by rw [HFT.out]; unfold frame_tailB; rw [if_neg (by have := HLEN.out; omega), if_pos (by rw [eat.out]; exact g2)]⟩
   have qz : (rd l 14 == 0) = false := beq_eq_false_iff_ne.mpr g2
   go_wp2_with (first | ((with_reducible refine gate_store (t := 3) (p := 35) rfl ?_); refine r4_fld HI.out rfl rfl 3 _ _ rfl rfl rfl rfl (show (1 : Nat) < 5 by decide) (by kernel_rfl) rfl ?_; intro y35 hk hg; clear HI hg; have HI : Aside0 (r4_I w y35 #[.bool false, .int .i64 n1, .bool false, .int .i64 0, .slice none 0 0]) := ⟨hk⟩; clear hk; have hx12 : y35.cell? ⟨ad.block, ad.off + 12, none⟩ = some (.int .i64 (rd l 12)) := HI.out.at2 HR.out 12 (by have := HLEN.out; omega)) | ((with_reducible refine gate_store (t := 4) (p := 40) rfl ?_); refine r4_fld HI.out rfl rfl 4 _ _ rfl rfl rfl rfl (show (2 : Nat) < 5 by decide) (by kernel_rfl) rfl ?_; intro y40 hk hg; clear HI hg; have HI : Aside0 (r4_I w y40 #[.bool false, .int .i64 n1, .bool (rd l 12 == 1), .int .i64 0, .slice none 0 0]) := ⟨hk⟩; clear hk; have hx13 : y40.cell? ⟨ad.block, ad.off + 13, none⟩ = some (.int .i64 (rd l 13)) := HI.out.at2 HR.out 13 (by have := HLEN.out; omega); have hx14 : y40.cell? ⟨ad.block, ad.off + 14, none⟩ = some (.int .i64 (rd l 14)) := HI.out.at2 HR.out 14 (by have := HLEN.out; omega)) | ((with_reducible refine gate_store (t := 24) (p := 2) rfl ?_); refine r4_put HI.out rfl rfl _ _ rfl rfl rfl (by kernel_rfl) ?_; intro wz hk hb; have HZz := Aside0.mk hk; have HBz := Aside0.mk hb; clear hk hb))
   (try rw [Exit.noGoto_ret])
   refine bodyPost_ret (results_ctt rfl _ _ w.heap.size 24 r4_zs (0, 0) _ rfl HZz.out Try.underlying24 rfl (by kernel_rfl)) rfl ?_
   refine ⟨.slice none 0 0, ?_, ?_, HBz.out⟩
   ·rw [HT.out]; rfl
   ·rw [HT.out]; exact Kd.R_nil _ _ _ _ _
  have wa : wrap64 ((14 : Int) + 1) = 15 := by decide +kernel
  have wb : wrap64 ((15 : Int) + 4) = 19 := by decide +kernel
  by_cases g3 : l.length < 19
  ·have HT : Aside0 (frame_readB l = frame_err 40) := ⟨by rw [HFT.out]; unfold frame_tailB; rw [if_neg (by have := HLEN.out; omega), if_neg (by rw [eat.out]; exact fun h => h g2), if_pos (by omega)]⟩
   have qc : ((l.length : Int) < 19) = True := eq_true (by omega)
   go_wp2_with (first | ((with_reducible refine gate_store (t := 3) (p := 35) rfl ?_); refine r4_fld HI.out rfl rfl 3 _ _ rfl rfl rfl rfl (show (1 : Nat) < 5 by decide) (by kernel_rfl) rfl ?_; intro y35 hk hg; clear HI hg; have HI : Aside0 (r4_I w y35 #[.bool false, .int .i64 n1, .bool false, .int .i64 0, .slice none 0 0]) := ⟨hk⟩; clear hk; have hx12 : y35.cell? ⟨ad.block, ad.off + 12, none⟩ = some (.int .i64 (rd l 12)) := HI.out.at2 HR.out 12 (by have := HLEN.out; omega)) | ((with_reducible refine gate_store (t := 4) (p := 40) rfl ?_); refine r4_fld HI.out rfl rfl 4 _ _ rfl rfl rfl rfl (show (2 : Nat) < 5 by decide) (by kernel_rfl) rfl ?_; intro y40 hk hg; clear HI hg; have HI : Aside0 (r4_I w y40 #[.bool false, .int .i64 n1, .bool (rd l 12 == 1), .int .i64 0, .slice none 0 0]) := ⟨hk⟩; clear hk; have hx13 : y40.cell? ⟨ad.block, ad.off + 13, none⟩ = some (.int .i64 (rd l 13)) := HI.out.at2 HR.out 13 (by have := HLEN.out; omega); have hx14 : y40.cell? ⟨ad.block, ad.off + 14, none⟩ = some (.int .i64 (rd l 14)) := HI.out.at2 HR.out 14 (by have := HLEN.out; omega)) | ((with_reducible refine gate_store (t := 24) (p := 2) rfl ?_); refine r4_put HI.out rfl rfl _ _ rfl rfl rfl (by kernel_rfl) ?_; intro wz hk hb; have HZz := Aside0.mk hk; have HBz := Aside0.mk hb; clear hk hb))
   (try rw [Exit.noGoto_ret])
   refine bodyPost_ret (results_ctt rfl _ _ w.heap.size 24 r4_zs (0, 0) _ rfl HZz.out Try.underlying24 rfl (by kernel_rfl)) rfl ?_
   refine ⟨.slice none 0 0, ?_, ?_, HBz.out⟩
   ·rw [HT.out]; rfl
   ·rw [HT.out]; exact Kd.R_nil _ _ _ _ _
  have qc : ((l.length : Int) < 19) = False := eq_false (by omega)
  obtain ⟨L, hL⟩ : ∃ L : Nat, frame_numAt l 15 4 = (L : Int) := ⟨(frame_numAt l 15 4).toNat, by have := frame_num4 l 15 (by omega); omega⟩
  have hL16 : L < 16 := by have := frame_num4 l 15 (by omega); omega
  obtain ⟨A2, hcut2, hC2, hc2⟩ := r4_cut (some ad) c0 l 15 4 (by omega) HC.out
  have hcut2' : ∀ W, (Instr.slice 25 (.slice (some ad) l.length c0) (some (.int .i64 15)) (some (.int .i64 19)) none).run Try.prog W = .ok (.slice A2 4 (c0 - 15)) W := hcut2
  have HG2 : Aside0 (∀ (W : World) (cs : Array Value), r4_I w W cs → Calls Try.prog 54 #[.slice A2 4 (c0 - 15)] W fun e W' => ∃ s, e = .returned (.tuple #[.int .i64 (L : Int), .bool s]) ∧ r4_I w W' cs) := ⟨fun W cs hI => by
   have := r4_get (cs := cs) (l := l) (i := 15) (m := 4) (by omega) hc2 hI (hC2 _ (Kd.C_below HR.out hI.2.2)) HN.out
   rw [hL] at this
   exact this⟩
  have HFU : Aside0 (frame_readB l = if 8 < (L : Int) then frame_err 41 else if (decide (rd l 12 = 1)) = true then (0, false, n1, (decide (rd l 12 = 1)), (L : Int), [], 19) else if l.length < 19 + 8 * L then frame_err 40 else (0, false, n1, (decide (rd l 12 = 1)), (L : Int), (H.joinB (frame_bitsAt l 19 (8 * L))).1, 19 + 8 * L)) := ⟨by
   rw [HFT.out]; unfold frame_tailB; rw [if_neg (by have := HLEN.out; omega), if_neg (by rw [eat.out]; exact fun h => h g2), if_neg (by omega), hL, Int.toNat_natCast]⟩
  have HG3 : Aside0 (19 ≤ l.length) := ⟨by omega⟩
  clear hcut2 hC2 hc2 hL g1 g3 ln14 eat HFT
  go_wp2_with (first | ((with_reducible refine gate_store (t := 3) (p := 35) rfl ?_); refine r4_fld HI.out rfl rfl 3 _ _ rfl rfl rfl rfl (show (1 : Nat) < 5 by decide) (by kernel_rfl) rfl ?_; intro y35 hk hg; clear HI hg; have HI : Aside0 (r4_I w y35 #[.bool false, .int .i64 n1, .bool false, .int .i64 0, .slice none 0 0]) := ⟨hk⟩; clear hk; have hx12 : y35.cell? ⟨ad.block, ad.off + 12, none⟩ = some (.int .i64 (rd l 12)) := HI.out.at2 HR.out 12 (by have := HLEN.out; omega)) | ((with_reducible refine gate_store (t := 4) (p := 40) rfl ?_); refine r4_fld HI.out rfl rfl 4 _ _ rfl rfl rfl rfl (show (2 : Nat) < 5 by decide) (by kernel_rfl) rfl ?_; intro y40 hk hg; clear HI hg; have HI : Aside0 (r4_I w y40 #[.bool false, .int .i64 n1, .bool (rd l 12 == 1), .int .i64 0, .slice none 0 0]) := ⟨hk⟩; clear hk; have hx13 : y40.cell? ⟨ad.block, ad.off + 13, none⟩ = some (.int .i64 (rd l 13)) := HI.out.at2 HR.out 13 (by have := HLEN.out; omega); have hx14 : y40.cell? ⟨ad.block, ad.off + 14, none⟩ = some (.int .i64 (rd l 14)) := HI.out.at2 HR.out 14 (by have := HLEN.out; omega)))
  refine (HG2.out _ _ HI.out).mono ?_
  rintro e W9 ⟨s9, rfl, hI⟩
  have nI := Aside0.mk hI
  clear HI hI HG2 hcut2'
  have HI := nI
  clear nI
  by_cases g4 : 8 < L
  ·have HT : Aside0 (frame_readB l = frame_err 41) := ⟨by rw [HFU.out, if_pos (by omega)]⟩
   have qd : ((8 : Int) < (L : Int)) = True := eq_true (by omega)
   have qd2 : ((L : Int) > 8) = True := eq_true (by omega)
   go_wp2_with (first | ((with_reducible refine gate_store (t := 3) (p := 114) rfl ?_); refine r4_fld HI.out rfl rfl 3 _ _ rfl rfl rfl rfl (show (3 : Nat) < 5 by decide) (by kernel_rfl) rfl ?_; intro y114 hk hg; clear HI hg; have HI : Aside0 (r4_I w y114 #[.bool false, .int .i64 n1, .bool (rd l 12 == 1), .int .i64 (L : Int), .slice none 0 0]) := ⟨hk⟩; clear hk; have z2 : y114.cell? ⟨w.heap.size + 1, 2, none⟩ = some (.bool (rd l 12 == 1)) := (blk_cell HI.out.2.1 2).trans rfl; have z3 : y114.cell? ⟨w.heap.size + 1, 3, none⟩ = some (.int .i64 (L : Int)) := (blk_cell HI.out.2.1 3).trans rfl) | ((with_reducible refine gate_store (t := 24) (p := 2) rfl ?_); refine r4_put HI.out rfl rfl _ _ rfl rfl rfl (by kernel_rfl) ?_; intro wz hk hb; have HZz := Aside0.mk hk; have HBz := Aside0.mk hb; clear hk hb))
   (try rw [Exit.noGoto_ret])
   refine bodyPost_ret (results_ctt rfl _ _ w.heap.size 24 r4_zs (0, 0) _ rfl HZz.out Try.underlying24 rfl (by kernel_rfl)) rfl ?_
   refine ⟨.slice none 0 0, ?_, ?_, HBz.out⟩
   ·rw [HT.out]; rfl
   ·rw [HT.out]; exact Kd.R_nil _ _ _ _ _
  have qd : ((8 : Int) < (L : Int)) = False := eq_false (by omega)
  cases hrm : (rd l 12 == 1) with
  | true =>
   rw [hrm] at HI
   have HT : Aside0 (frame_readB l = (0, false, n1, true, (L : Int), [], 19)) := ⟨by rw [HFU.out, if_neg (by omega), show decide (rd l 12 = 1) = (rd l 12 == 1) from rfl, hrm, if_pos rfl]⟩
   clear hrm
   go_wp2_with (first | ((with_reducible refine gate_store (t := 3) (p := 114) rfl ?_); refine r4_fld HI.out rfl rfl 3 _ _ rfl rfl rfl rfl (show (3 : Nat) < 5 by decide) (by kernel_rfl) rfl ?_; intro y114 hk hg; clear HI hg; have HI : Aside0 (r4_I w y114 #[.bool false, .int .i64 n1, .bool true, .int .i64 (L : Int), .slice none 0 0]) := ⟨hk⟩; clear hk; have z2 : y114.cell? ⟨w.heap.size + 1, 2, none⟩ = some (.bool true) := (blk_cell HI.out.2.1 2).trans rfl; have z3 : y114.cell? ⟨w.heap.size + 1, 3, none⟩ = some (.int .i64 (L : Int)) := (blk_cell HI.out.2.1 3).trans rfl) | ((with_reducible refine gate_dst (N := 152) rfl ?_); refine wpList_load_row rfl 24 _ rfl _ rfl _ _ (0, 0) _ HI.out.2.1 Try.underlying24 rfl (by kernel_rfl) ?_) | ((with_reducible refine gate_store (t := 24) (p := 2) rfl ?_); refine HW.store_box' rfl rfl 24 _ _ rfl rfl rfl HI.out.1 rfl (by kernel_rfl) (by intro q hq; simp only [List.mem_cons, List.not_mem_nil, or_false] at hq; rcases hq with rfl | rfl | rfl | rfl | rfl <;> rfl) ?_; intro wz hk hg; have HBz := Aside0.mk (HI.out.2.2.grown hg HI.out.2.2.size (fun k he => by injection he with he; omega)); have HZz := Aside0.mk hk; clear hk hg))
   (try rw [Exit.noGoto_ret])
   refine bodyPost_ret (results_ctt rfl _ _ w.heap.size 24 _ (0, 0) _ rfl HZz.out Try.underlying24 rfl (by kernel_rfl)) rfl ?_
   refine ⟨.slice none 0 0, ?_, ?_, HBz.out⟩
   ·rw [HT.out]; rfl
   ·rw [HT.out]; exact Kd.R_nil _ _ _ _ _
  | false =>
   rw [hrm] at HI
   have hcc : ((19 + 8 * L : Nat) : Int) = 19 + 8 * (L : Int) := by omega
   have HCC := Aside0.mk hcc
   by_cases g5 : l.length < 19 + 8 * L
   ·have HT : Aside0 (frame_readB l = frame_err 40) := ⟨by rw [HFU.out, if_neg (by omega), show decide (rd l 12 = 1) = (rd l 12 == 1) from rfl, hrm, if_neg (by simp), if_pos (by omega)]⟩
    have qe : ((l.length : Int) < 19 + 8 * (L : Int)) = True := eq_true (by omega)
    clear hrm hcc g5
    go_wp2_with (first | ((with_reducible refine gate_store (t := 3) (p := 114) rfl ?_); refine r4_fld HI.out rfl rfl 3 _ _ rfl rfl rfl rfl (show (3 : Nat) < 5 by decide) (by kernel_rfl) rfl ?_; intro y114 hk hg; clear HI hg; have HI : Aside0 (r4_I w y114 #[.bool false, .int .i64 n1, .bool false, .int .i64 (L : Int), .slice none 0 0]) := ⟨hk⟩; clear hk; have z2 : y114.cell? ⟨w.heap.size + 1, 2, none⟩ = some (.bool false) := (blk_cell HI.out.2.1 2).trans rfl; have z3 : y114.cell? ⟨w.heap.size + 1, 3, none⟩ = some (.int .i64 (L : Int)) := (blk_cell HI.out.2.1 3).trans rfl) | ((with_reducible refine gate_store (t := 24) (p := 2) rfl ?_); refine r4_put HI.out rfl rfl _ _ rfl rfl rfl (by kernel_rfl) ?_; intro wz hk hb; have HZz := Aside0.mk hk; have HBz := Aside0.mk hb; clear hk hb))
    (try rw [Exit.noGoto_ret])
    refine bodyPost_ret (results_ctt rfl _ _ w.heap.size 24 r4_zs (0, 0) _ rfl HZz.out Try.underlying24 rfl (by kernel_rfl)) rfl ?_
    refine ⟨.slice none 0 0, ?_, ?_, HBz.out⟩
    ·rw [HT.out]; rfl
    ·rw [HT.out]; exact Kd.R_nil _ _ _ _ _
   have HT : Aside0 (frame_readB l = (0, false, n1, false, (L : Int), (H.joinB (frame_bitsAt l 19 (8 * L))).1, 19 + 8 * L)) := ⟨by rw [HFU.out, if_neg (by omega), show decide (rd l 12 = 1) = (rd l 12 == 1) from rfl, hrm, if_neg (by simp), if_neg (by omega)]⟩
   have qe : ((l.length : Int) < 19 + 8 * (L : Int)) = False := eq_false (by omega)
   obtain ⟨A3, hcut3, hC3, hc3⟩ := r4_cut (some ad) c0 l 19 (8 * L) (by omega) HC.out
   rw [hcc] at hcut3
   have hcut3' : ∀ W, (Instr.slice 25 (.slice (some ad) l.length c0) (some (.int .i64 19)) (some (.int .i64 (19 + 8 * (L : Int)))) none).run Try.prog W = .ok (.slice A3 (8 * L) (c0 - 19)) W := hcut3
   have hbl := frame_bitsAt_len l 19 (8 * L) (by omega)
   obtain ⟨KJ, hKJ⟩ := r4x_join_k (frame_bitsAt l 19 (8 * L)) (by rw [hbl]; have := HN.out; omega)
   have HJ : Aside0 (∀ (W : World) (cs : Array Value), r4_I w W cs → Calls Try.prog 55 #[.slice A3 (8 * L) (c0 - 19)] W fun e W' => ∃ v, e = .returned (.tuple #[v, .bool (H.joinB (frame_bitsAt l 19 (8 * L))).2]) ∧ Kd.R (Kd.int .u8) 5 W' W.heap.size (fun _ => True) v (H.joinB (frame_bitsAt l 19 (8 * L))).1 ∧ r4_I w W' cs) := ⟨fun W cs hI => by
    have := phaetonref01_Join.calls KJ A3 (c0 - 19) (frame_bitsAt l 19 (8 * L)) (H.joinB (frame_bitsAt l 19 (8 * L))).1 (H.joinB (frame_bitsAt l 19 (8 * L))).2 W (by rw [hbl]; exact hC3 _ (Kd.C_below HR.out hI.2.2)) (by rw [hbl]; exact hc3) (hKJ KJ (Nat.le_refl _))
    rw [hbl] at this
    refine this.mono ?_
    rintro e W' ⟨v, rfl, hv, hb⟩
    exact ⟨v, rfl, hv, blk_below hI.1 hb, blk_below hI.2.1 hb, hI.2.2.trans (hb.mono hI.2.2.size)⟩⟩
   obtain ⟨jd, hjd⟩ : ∃ jd, jd = (H.joinB (frame_bitsAt l 19 (8 * L))) := ⟨_, rfl⟩
   rw [← hjd] at HT HJ
   clear hrm hcc hcut3 hC3 hc3 hbl hKJ hjd g5
   go_wp2_with (first | ((with_reducible refine gate_store (t := 3) (p := 114) rfl ?_); refine r4_fld HI.out rfl rfl 3 _ _ rfl rfl rfl rfl (show (3 : Nat) < 5 by decide) (by kernel_rfl) rfl ?_; intro y114 hk hg; clear HI hg; have HI : Aside0 (r4_I w y114 #[.bool false, .int .i64 n1, .bool false, .int .i64 (L : Int), .slice none 0 0]) := ⟨hk⟩; clear hk; have z2 : y114.cell? ⟨w.heap.size + 1, 2, none⟩ = some (.bool false) := (blk_cell HI.out.2.1 2).trans rfl; have z3 : y114.cell? ⟨w.heap.size + 1, 3, none⟩ = some (.int .i64 (L : Int)) := (blk_cell HI.out.2.1 3).trans rfl))
   have HS9 := Aside0.mk HI.out.2.2.size
   refine (HJ.out _ _ HI.out).mono ?_
   rintro e W8 ⟨v, rfl, hv, hI⟩
   obtain ⟨AV, cV, rfl⟩ := Kd.R_slice hv
   have HV := Aside0.mk (Kd.R_lower hv HS9.out)
   have nI := Aside0.mk hI
   clear HI hI HJ hcut3' hv z2 z3
   have HI := nI
   clear nI
   have z3 : W8.cell? ⟨w.heap.size + 1, 3, none⟩ = some (.int .i64 (L : Int)) := (blk_cell HI.out.2.1 3).trans rfl
   go_wp2_with (first | ((with_reducible refine gate_store (t := 22) (p := 146) rfl ?_); refine r4_fld HI.out rfl rfl 22 _ _ rfl rfl rfl rfl (show (4 : Nat) < 5 by decide) (by kernel_rfl) rfl ?_; intro y146 hk hg; have nV := Aside0.mk (frame_R_far HV.out hg HI.out.2.1); clear HV; have HV := nV; clear nV; clear HI hg; have HI : Aside0 (r4_I w y146 #[.bool false, .int .i64 n1, .bool false, .int .i64 (L : Int), .slice AV jd.1.length cV]) := ⟨hk⟩; clear hk; have z3 : y146.cell? ⟨w.heap.size + 1, 3, none⟩ = some (.int .i64 (L : Int)) := (blk_cell HI.out.2.1 3).trans rfl) | ((with_reducible refine gate_dst (N := 152) rfl ?_); refine wpList_load_row rfl 24 _ rfl _ rfl _ _ (0, 0) _ HI.out.2.1 Try.underlying24 rfl (by kernel_rfl) ?_) | ((with_reducible refine gate_store (t := 24) (p := 2) rfl ?_); refine HW.store_box' rfl rfl 24 _ _ rfl rfl rfl HI.out.1 rfl (by kernel_rfl) (by intro q hq; simp only [List.mem_cons, List.not_mem_nil, or_false] at hq; rcases hq with rfl | rfl | rfl | rfl | rfl <;> rfl) ?_; intro wz hk hg; have HBz := Aside0.mk (HI.out.2.2.grown hg HI.out.2.2.size (fun k he => by injection he with he; omega)); have HVz := Aside0.mk (frame_R_far HV.out hg HI.out.1); have HZz := Aside0.mk hk; clear hk hg))
   (try rw [Exit.noGoto_ret])
   refine bodyPost_ret (results_ctt rfl _ _ w.heap.size 24 _ (0, 0) _ rfl HZz.out Try.underlying24 rfl (by kernel_rfl)) rfl ?_
   refine ⟨.slice AV jd.1.length cV, ?_, ?_, HBz.out⟩
   ·rw [HT.out]; dsimp only; rw [HCC.out]; rfl
   ·rw [HT.out]; exact HVz.out
theorem phaetonref04_Read.calls (A0 : Option Addr) (c0 : Nat) (l0 : List Int) (r1 : Bool) (r2 : Int) (r3 : Bool) (r4 : Int) (r5 : List Int) (r6 : Int) (r7 : Int) (w : World) (hr0 : Kd.C (Kd.int .i64) w A0 l0.length l0) (hc0 : l0.length ≤ c0) (h : phaetonref04_Read.f l0 = some (r1, r2, r3, r4, r5, r6, r7)) :
  Calls Try.prog 36 #[.slice A0 l0.length c0] w fun e w' => ∃ v4_ : Value, e = .returned (.tuple #[.agg #[.bool r1, .int .i64 r2, .bool r3, .int .i64 r4, v4_], .int .i64 r6, .int .i64 r7]) ∧ Kd.R (Kd.int .u8) 5 w' w.heap.size (fun _ => True) v4_ r5 ∧ Below w.heap.size w w' := by
 unfold phaetonref04_Read.f at h
 split at h
 case isFalse => cases h
 case isTrue hl =>
  split at h
  case isFalse => cases h
  case isTrue hw =>
   have hx := r4_Read_at A0 c0 l0 w hr0 hc0 hl hw
   have he := Option.some.inj h
   unfold r4_pack at he
   simp only [Prod.mk.injEq] at he
   obtain ⟨e1, e2, e3, e4, e5, e6, e7⟩ := he
   rw [e1, e2, e3, e4, e5, e6, e7] at hx
   exact hx

end Go.Proofs.Ythgeekcobmhbfaa.Px
