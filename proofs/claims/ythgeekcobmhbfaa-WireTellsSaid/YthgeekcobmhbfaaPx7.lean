-- Written by myprint.py, a program of this session's, over the kit's print.py; not a text of print.sh's own.
import Derived.Test.YthgeekcobmhbfaaPx0
import Derived.Test.YthgeekcobmhbfaaPx6
namespace Go.Proofs.Ythgeekcobmhbfaa.Px
open Go.RowKit Go.Proofs.YthgeekcobmhbfaaW.PrintWords Go.Proofs.YthgeekcobmhbfaaW.PrintLast Go.Proofs.YthgeekcobmhbfaaW.PrintMore
attribute [local go_sem] max2_int min2_int max_two min_two max_three min_three max_four min_four   -- for this text's walks alone
set_option linter.unusedVariables false
set_option linter.unusedSimpArgs false

/-! ### frame_reader_frame: helper -/
def frame_err (e : Int) : Int × Bool × Int × Bool × Int × List Int × Nat := (e, false, 0, false, 0, [], 0)
def frame_tailB (l : List Int) (e : Bool) (id : Int) (rm : Bool) (at_ : Nat) : Int × Bool × Int × Bool × Int × List Int × Nat :=
 if l.length < at_ + 1 then frame_err 40 else if ¬ frame_numAt l at_ 1 = 0 then frame_err 42 else if l.length < at_ + 5 then frame_err 40
 else if 8 < frame_numAt l (at_ + 1) 4 then frame_err 41 else if rm = true then (0, e, id, rm, frame_numAt l (at_ + 1) 4, [], at_ + 5)
 else if l.length < at_ + 5 + 8 * (frame_numAt l (at_ + 1) 4).toNat then frame_err 40
 else (0, e, id, rm, frame_numAt l (at_ + 1) 4, (H.joinB (frame_bitsAt l (at_ + 5) (8 * (frame_numAt l (at_ + 1) 4).toNat))).1, at_ + 5 + 8 * (frame_numAt l (at_ + 1) 4).toNat)
/-- The frame of bits: what is wrong (0: nothing), its fields, how many bits it has. -/
def frame_readB (l : List Int) : Int × Bool × Int × Bool × Int × List Int × Nat :=
 if l.length < 1 then frame_err 40 else if ¬ frame_numAt l 0 1 = 0 then frame_err 42 else if l.length < 12 then frame_err 40 else if l.length < 13 then frame_err 40 else if l.length < 14 then frame_err 40
 else if frame_numAt l 13 1 = 1 then
  (if ¬ frame_numAt l 12 1 = 1 then frame_err 42 else if l.length < 32 then frame_err 40 else if l.length < 33 then frame_err 40 else if l.length < 34 then frame_err 40 else if ¬ frame_numAt l 33 1 = 0 then frame_err 42
  else frame_tailB l true (Go.bits .or .i64 (IntKind.i64.wrap (frame_numAt l 1 11 * 262144)) (frame_numAt l 14 18)) (decide (frame_numAt l 32 1 = 1)) 34)
 else frame_tailB l false (frame_numAt l 1 11) (decide (frame_numAt l 12 1 = 1)) 14
theorem frame_num4 (l : List Int) (at_ : Nat) (h : at_ + 4 ≤ l.length) : 0 ≤ frame_numAt l at_ 4 ∧ frame_numAt l at_ 4 < 16 := by
 unfold frame_numAt H.getB
 have hl := frame_bitsAt_len l at_ 4 h
 rw [if_neg (by omega)]
 by_cases hr : H.rightB (frame_bitsAt l at_ 4) = true
 ·rw [if_pos hr]
  have := H.valB_range hr
  rw [hl] at this
  exact ⟨this.1, by have := this.2; omega⟩
 ·rw [if_neg hr]; exact ⟨Int.le_refl 0, by decide⟩
theorem fb_join_div (i : Nat) (h : i ≤ 4611686018427387904) : wrap64 (Int.tdiv (i : Int) 8) = ((i / 8 : Nat) : Int) := by
 rw [Int.tdiv_eq_ediv_of_nonneg (by omega)]; unfold wrap64; omega
theorem fb_join_rem (i : Nat) : wrap64 (7 - Int.tmod (i : Int) 8) = ((7 - i % 8 : Nat) : Int) := by
 rw [Int.tmod_eq_emod_of_nonneg (by omega)]; unfold wrap64; omega
theorem fb_join_l0 (l : List Int) (hr : H.rightB l = true) (h8 : l.length % 8 = 0) (hl : l.length ≤ 4611686018427387904) : ∀ d i : Nat, i + d = l.length → Ev (fun k => bits_Join.l0 k (H.partB l i) l (l.length : Int) (i : Int)) (H.bytesB l, true) := by
 intro d
 induction d with
 | zero =>
  intro i hi
  refine Ev.step (f := fun _ => some (H.bytesB l, true)) (fun k => ?_) (Ev.now _)
  simp only [bits_Join.l0]
  rw [if_neg (by omega), show i = l.length by omega, H.partB_full]
 | succ d ih =>
  intro i hi
  have hlt : i < l.length := by omega
  have hbit := H.rightB_mem hr _ (fb_rd_mem hlt)
  obtain ⟨e1, e2, e3, e4⟩ := H.byteAt_step hr i
  have hq : i / 8 < l.length / 8 := by omega
  have hg : rd (H.partB l i) ((i / 8 : Nat) : Int) = H.byteAt (H.partF l i) (i / 8) := by
   rw [fb_rd_nat]; simp [H.partB, List.getD_eq_getElem?_getD, hq]
  refine Ev.step (f := fun k => bits_Join.l0 k (H.partB l (i + 1)) l (l.length : Int) ((i + 1 : Nat) : Int)) (fun k => ?_) (ih (i + 1) (by omega))
  simp only [bits_Join.l0, H.partB_length]
  rw [if_pos (by omega), if_pos (by omega), if_pos (by omega), fb_join_div i (by omega), fb_join_rem, if_pos (by omega), if_pos (by omega), if_pos (by omega), hg, fb_rd_nat, fb_shl_bit hbit _ (by omega), H.or_u8 (by omega) e3 e4 e2 hbit, ← e1, H.wrap_succ hlt hl, Int.toNat_natCast, ← H.partB_succ]
theorem fb_join_k (l : List Int) (hlim : l.length ≤ 281474976710656) (hw : ∀ x ∈ l, H.W64 x) : ∃ K, ∀ k, K ≤ k → bits_Join.f k l = some (H.joinB l) := by
 have hl : l.length ≤ 4611686018427387904 := by omega
 unfold H.joinB
 by_cases h8 : l.length % 8 = 0
 ·rw [if_pos h8]
  obtain ⟨K, hK⟩ := fb_right_k l hl hw
  by_cases hr : H.rightB l = true
  ·rw [if_pos hr]
   obtain ⟨K2, hK2⟩ := fb_join_l0 l hr h8 hl l.length 0 (by omega)
   refine ⟨K + K2 + 1, fun k hk => ?_⟩
   obtain ⟨k, rfl⟩ : ∃ m, k = m + 1 := ⟨k - 1, by omega⟩
   have hd : wrap64 ((l.length : Int) / 8) = ((l.length / 8 : Nat) : Int) := by unfold wrap64; omega
   simp only [bits_Join.f]
   rw [if_pos (by omega), hK _ (by omega), hr]
   rw [Option.bind_some, Bool.not_true, bits_Join.j0.eq_2]
   have h2 := hK2 k (by omega)
   rw [H.partB_zero] at h2
   rw [if_neg (by decide), hd, if_pos (Int.natCast_nonneg _), Int.toNat_natCast, if_pos (Nat.le_trans (Nat.div_le_self _ _) hlim)]
   exact h2
  ·rw [if_neg hr]
   refine ⟨K + 1, fun k hk => ?_⟩
   obtain ⟨k, rfl⟩ : ∃ m, k = m + 1 := ⟨k - 1, by omega⟩
   simp only [bits_Join.f]
   rw [if_pos (by omega), hK _ (by omega), Bool.eq_false_iff.mpr hr]
   rw [Option.bind_some, Bool.not_false, bits_Join.j0.eq_2, if_pos rfl]
 ·rw [if_neg h8]
  refine ⟨1, fun k hk => ?_⟩
  obtain ⟨k, rfl⟩ : ∃ m, k = m + 1 := ⟨k - 1, by omega⟩
  simp only [bits_Join.f]
  rw [if_neg (by omega)]
  rw [bits_Join.j0.eq_2, if_pos rfl]
def frame_zs : Array Value := #[.bool false, .int .i64 0, .bool false, .int .i64 0, .slice none 0 0]
/-- How a reader stands amid its work: its block, the frame's, the result's. -/
def frame_St (w0 W : World) (g F Z : Nat) (A : Option Addr) (n c at_ : Nat) (cs : Array Value) : Prop :=
 Below w0.heap.size w0 W ∧ frame_RdAt W g A n c at_ ∧ W.heap[F]? = some (.cells cs 24 (0, 0)) ∧ W.heap[Z]? = some (.cells frame_zs 24 (0, 0)) ∧ w0.heap.size ≤ g ∧ w0.heap.size ≤ F ∧ w0.heap.size ≤ Z ∧ g ≠ F ∧ g ≠ Z ∧ F ≠ Z
theorem frame_St.call {w0 W W' : World} {g F Z : Nat} {A : Option Addr} {n c at_ at2 : Nat} {cs : Array Value} (h : frame_St w0 W g F Z A n c at_ cs) (hR : frame_RdAt W' g A n c at2) (hB : Below w0.heap.size w0 W') (hG : W.grownBy W' (some g)) : frame_St w0 W' g F Z A n c at2 cs := by
 obtain ⟨_, _, h3, h4, h5, h6, h7, h8, h9, h10⟩ := h
 exact ⟨hB, hR, blk_grown h3 hG (fun e => h8 (by injection e with e; exact e.symm)), blk_grown h4 hG (fun e => h9 (by injection e with e; exact e.symm)), h5, h6, h7, h8, h9, h10⟩
theorem frame_St.store {w0 W W1 : World} {g F Z : Nat} {A : Option Addr} {n c at_ : Nat} {cs cs' : Array Value} (h : frame_St w0 W g F Z A n c at_ cs) (hk : W1.heap[F]? = some (.cells cs' 24 (0, 0))) (hg : W.grownBy W1 (some F)) : frame_St w0 W1 g F Z A n c at_ cs' := by
 obtain ⟨h1, h2, h3, h4, h5, h6, h7, h8, h9, h10⟩ := h
 exact ⟨h1.grown hg h1.size (fun k he => by injection he with he; omega), blk_grown h2 hg (fun e => h8 (by injection e with e)), hk, blk_grown h4 hg (fun e => h10 (by injection e with e; exact e.symm)), h5, h6, h7, h8, h9, h10⟩
theorem frame_St.below {w0 W W' : World} {g F Z : Nat} {A : Option Addr} {n c at_ : Nat} {cs : Array Value} (h : frame_St w0 W g F Z A n c at_ cs) (hb : Below W.heap.size W W') : frame_St w0 W' g F Z A n c at_ cs := by
 obtain ⟨h1, h2, h3, h4, h5⟩ := h
 exact ⟨h1.trans (hb.mono h1.size), blk_below h2 hb, blk_below h3 hb, blk_below h4 hb, h5⟩
theorem frame_St.drew {w0 W : World} {g F Z : Nat} {A : Option Addr} {n c at_ : Nat} {cs : Array Value} (h : frame_St w0 W g F Z A n c at_ cs) : frame_St w0 W.drew g F Z A n c at_ cs := h.below ⟨rfl, rfl, rfl, Nat.le_refl _, fun _ _ => rfl⟩
theorem frame_St.panic {w0 W W' : World} {g F Z : Nat} {A : Option Addr} {n c at_ : Nat} {cs : Array Value} (h : frame_St w0 W g F Z A n c at_ cs) (hG : W.grownBy W' (some g)) : Below w0.heap.size w0 W' := h.1.grown hG h.1.size (fun k he => by injection he with he; have := h.2.2.2.2.1; omega)
theorem frame_St.result {w0 W W1 : World} {g F Z : Nat} {A : Option Addr} {n c at_ : Nat} {cs : Array Value} (h : frame_St w0 W g F Z A n c at_ cs) (hg : W.grownBy W1 (some Z)) : Below w0.heap.size w0 W1 ∧ frame_RdAt W1 g A n c at_ := by
 obtain ⟨h1, h2, h3, h4, h5, h6, h7, h8, h9, h10⟩ := h
 exact ⟨h1.grown hg h1.size (fun k he => by injection he with he; omega), blk_grown h2 hg (fun e => h9 (by injection e with e))⟩
theorem frame_R_far {W w1 : World} {base : Nat} {v : Value} {xs : List Int} {g : Nat} {cells : Array Value} (h : Kd.R (Kd.int .u8) 5 W base (fun _ => True) v xs) (hg : W.grownBy w1 (some g)) (hb : W.heap[g]? = some (.cells cells 24 (0, 0))) : Kd.R (Kd.int .u8) 5 w1 base (fun _ => True) v xs :=
 Kd.R_mono (Kd.R_grown (Kd.R_types h hb (by decide)) hg (fun k hk e => hk.2 (by injection e))) (fun _ _ => trivial)
theorem frame_St.cell {w0 W : World} {g F Z : Nat} {A : Option Addr} {n c at_ : Nat} {cs : Array Value} (h : frame_St w0 W g F Z A n c at_ cs) (j : Nat) : W.cell? ⟨F, j, none⟩ = cs[j]? := blk_cell h.2.2.1 j
theorem frame_St.frozen {w0 W : World} {g F Z : Nat} {A : Option Addr} {n c at_ : Nat} {cs : Array Value} (h : frame_St w0 W g F Z A n c at_ cs) (j : Nat) : W.frozen? ⟨F, j, none⟩ = false := blk_frozen h.2.2.1 j
theorem frame_St.start {w0 w : World} {g : Nat} {A : Option Addr} {n c at_ : Nat} (hg : w0.heap.size ≤ g) (hB : Below w0.heap.size w0 w) (h : frame_RdAt w g A n c at_) : frame_St w0 ((w.alloc (.cells frame_zs 24 (0, 0))).alloc (.cells frame_zs 24 (0, 0))) g (w.heap.size + 1) w.heap.size A n c at_ frame_zs := by
 have hgw := blk_lt h
 have hs := hB.size
 have k2 := blk_new (w.alloc (.cells frame_zs 24 (0, 0))) (.cells frame_zs 24 (0, 0))
 rw [World.size_alloc] at k2
 exact ⟨(hB.alloc hs _).alloc (by rw [World.size_alloc]; omega) _, blk_alloc (blk_alloc h _) _, k2, blk_alloc (blk_new w _) _, hg, by omega, by omega, by omega, by omega, by omega⟩
set_option maxHeartbeats 6400000 in
set_option maxRecDepth 100000 in
theorem frame_frame (g : Nat) (A : Option Addr) (l : List Int) (c : Nat) (w0 w : World) (hg : w0.heap.size ≤ g) (hB : Below w0.heap.size w0 w) (hr : Kd.C (Kd.int .i64) w0 A l.length l) (hc : l.length ≤ c) (h : frame_RdAt w g A l.length c 0) (hn : l.length ≤ 1073741824) (hw : ∀ x ∈ l, H.W64 x) :
  Calls Try.prog 64 #[.pointer (some ⟨g, 0, none⟩)] w fun e w' => (∃ v, e = .panicked [{ v := .iface 52 (.int .i64 v), recovered := false }] ∧ frame_readB l = frame_err v ∧ (v = 40 ∨ v = 41 ∨ v = 42) ∧ Below w0.heap.size w0 w') ∨
   (∃ b1 n2 b3 n4 r5 at_ v5, e = .returned (.agg #[.bool b1, .int .i64 n2, .bool b3, .int .i64 n4, v5]) ∧ frame_readB l = (0, b1, n2, b3, n4, r5, at_) ∧ Kd.R (Kd.int .u8) 5 w' w.heap.size (fun _ => True) v5 r5 ∧ frame_RdAt w' g A l.length c at_ ∧ Below w0.heap.size w0 w') := by
 have hu := Try.underlying24
 have HS := Aside0.mk (frame_St.start hg hB h)
 have HSZ := Aside0.mk hB.size
 have HSW := Aside0.mk (show w.heap.size + 2 ≤ ((w.alloc (.cells frame_zs 24 (0, 0))).alloc (.cells frame_zs 24 (0, 0))).heap.size by rw [World.size_alloc, World.size_alloc]; omega)
 have HG := Aside0.mk hg
 have HR := Aside0.mk hr
 have HC := Aside0.mk hc
 have HN := Aside0.mk hn
 have HWL := Aside0.mk hw
 obtain ⟨n13, e13⟩ : ∃ x, x = frame_numAt l 13 1 := ⟨_, rfl⟩
 obtain ⟨n12, e12⟩ : ∃ x, x = frame_numAt l 12 1 := ⟨_, rfl⟩
 obtain ⟨n1, e1⟩ : ∃ x, x = frame_numAt l 1 11 := ⟨_, rfl⟩
 have E13 := Aside0.mk e13
 have E12 := Aside0.mk e12
 have E1 := Aside0.mk e1
 clear hg hB hr hc h hn hw e13 e12 e1
 go_enter Try.func64, Try.ntmps64
 go_wp2_with fail
 by_cases q0 : l.length < 1
 ·refine (frame_must_short g A l.length c 0 0 _ HS.out.2.1 (by omega) HN.out (by omega)).mono ?_
  rintro e wp ⟨rfl, hg⟩
  have HP := Aside0.mk (HS.out.panic hg)
  clear hg
  go_wp2_with fail
  exact ⟨rfl, Or.inl ⟨40, rfl, by unfold frame_readB; rw [if_pos q0], by decide, HP.out⟩⟩
 by_cases m0 : frame_numAt l 0 1 = 0
 rotate_left
 ·refine (frame_must_wrong g A l c 0 0 w0 _ HG.out HS.out.1 HR.out HC.out HS.out.2.1 HN.out HWL.out (by omega) m0).mono ?_
  rintro e wp ⟨rfl, hg⟩
  have HP := Aside0.mk (HS.out.panic hg)
  clear hg
  go_wp2_with fail
  exact ⟨rfl, Or.inl ⟨42, rfl, by unfold frame_readB; rw [if_neg q0, if_pos m0], by decide, HP.out⟩⟩
 refine (frame_must_ok g A l c 0 0 w0 _ HG.out HS.out.1 HR.out HC.out HS.out.2.1 HN.out HWL.out (by omega) m0).mono ?_
 rintro e w1_ ⟨rfl, hR, hB, hG⟩
 have HS2 := Aside0.mk (HS.out.call hR hB hG)
 have HW2 := Aside0.mk (show w.heap.size + 2 ≤ w1_.heap.size from Nat.le_trans HSW.out hG.size)
 clear hR hB hG HS HSW
 have HS := HS2
 have HSW := HW2
 clear HS2 HW2
 go_wp2_with fail
 by_cases q1_11 : l.length < 12
 ·refine (frame_number_short g A l.length c 1 11 _ HS.out.2.1 (by omega) HN.out (by omega) (by omega)).mono ?_
  rintro e wp ⟨rfl, hg⟩
  have HP := Aside0.mk (HS.out.panic hg)
  clear hg
  go_wp2_with fail
  exact ⟨rfl, Or.inl ⟨40, rfl, by unfold frame_readB; rw [if_neg q0, if_neg (fun h_ => h_ m0), if_pos q1_11], by decide, HP.out⟩⟩
 refine (frame_number_ok g A l c 1 11 w0 _ HG.out HS.out.1 HR.out HC.out HS.out.2.1 HN.out HWL.out (by omega) (by omega)).mono ?_
 rintro e w2_ ⟨he, hR, hB, hG⟩
 rw [← E1.out] at he
 subst he
 have HS2 := Aside0.mk (HS.out.call hR hB hG)
 have HW2 := Aside0.mk (show w.heap.size + 2 ≤ w2_.heap.size from Nat.le_trans HSW.out hG.size)
 clear hR hB hG HS HSW
 have HS := HS2
 have HSW := HW2
 clear HS2 HW2
 go_wp2_with (first | ((with_reducible refine gate_store (t := 3) (p := 8) rfl ?_); refine HW.store_field rfl rfl 3 _ _ rfl rfl rfl rfl HS.out.2.2.1 (show (1 : Nat) < 5 by decide) (by kernel_rfl) rfl ?_; intro ws hk hg; have HS2 := Aside0.mk (HS.out.store (cs' := #[.bool false, .int .i64 n1, .bool false, .int .i64 0, .slice none 0 0]) hk hg); have HW2 := Aside0.mk (Nat.le_trans HSW.out hg.size); clear hk hg HS HSW; have HS := HS2; have HSW := HW2; clear HS2 HW2; have k0 := HS.out.cell 0; have k1 := HS.out.cell 1; have k2 := HS.out.cell 2; have k3 := HS.out.cell 3; have k4 := HS.out.cell 4; replace k0 := k0.trans rfl; replace k1 := k1.trans rfl; replace k2 := k2.trans rfl; replace k3 := k3.trans rfl; replace k4 := k4.trans rfl))
 (try clear k0 k1 k2 k3 k4)
 by_cases q12_1 : l.length < 13
 ·refine (frame_number_short g A l.length c 12 1 _ HS.out.2.1 (by omega) HN.out (by omega) (by omega)).mono ?_
  rintro e wp ⟨rfl, hg⟩
  have HP := Aside0.mk (HS.out.panic hg)
  clear hg
  go_wp2_with fail
  exact ⟨rfl, Or.inl ⟨40, rfl, by unfold frame_readB; rw [if_neg q0, if_neg (fun h_ => h_ m0), if_neg q1_11, if_pos q12_1], by decide, HP.out⟩⟩
 refine (frame_number_ok g A l c 12 1 w0 _ HG.out HS.out.1 HR.out HC.out HS.out.2.1 HN.out HWL.out (by omega) (by omega)).mono ?_
 rintro e w3_ ⟨he, hR, hB, hG⟩
 rw [← E12.out] at he
 subst he
 have HS2 := Aside0.mk (HS.out.call hR hB hG)
 have HW2 := Aside0.mk (show w.heap.size + 2 ≤ w3_.heap.size from Nat.le_trans HSW.out hG.size)
 clear hR hB hG HS HSW
 have HS := HS2
 have HSW := HW2
 clear HS2 HW2
 by_cases hb12 : n12 = 1
 ·subst hb12
  go_wp2_with (first | ((with_reducible refine gate_store (t := 4) (p := 12) rfl ?_); refine HW.store_field rfl rfl 4 _ _ rfl rfl rfl rfl HS.out.2.2.1 (show (2 : Nat) < 5 by decide) (by kernel_rfl) rfl ?_; intro ws hk hg; have HS2 := Aside0.mk (HS.out.store (cs' := #[.bool false, .int .i64 n1, .bool true, .int .i64 0, .slice none 0 0]) hk hg); have HW2 := Aside0.mk (Nat.le_trans HSW.out hg.size); clear hk hg HS HSW; have HS := HS2; have HSW := HW2; clear HS2 HW2; have k0 := HS.out.cell 0; have k1 := HS.out.cell 1; have k2 := HS.out.cell 2; have k3 := HS.out.cell 3; have k4 := HS.out.cell 4; replace k0 := k0.trans rfl; replace k1 := k1.trans rfl; replace k2 := k2.trans rfl; replace k3 := k3.trans rfl; replace k4 := k4.trans rfl))
  (try clear k0 k1 k2 k3 k4)
  by_cases q13_1 : l.length < 14
  ·refine (frame_number_short g A l.length c 13 1 _ HS.out.2.1 (by omega) HN.out (by omega) (by omega)).mono ?_
   rintro e wp ⟨rfl, hg⟩
   have HP := Aside0.mk (HS.out.panic hg)
   clear hg
   go_wp2_with fail
   exact ⟨rfl, Or.inl ⟨40, rfl, by unfold frame_readB; rw [if_neg q0, if_neg (fun h_ => h_ m0), if_neg q1_11, if_neg q12_1, if_pos q13_1], by decide, HP.out⟩⟩
  refine (frame_number_ok g A l c 13 1 w0 _ HG.out HS.out.1 HR.out HC.out HS.out.2.1 HN.out HWL.out (by omega) (by omega)).mono ?_
  rintro e w4_ ⟨he, hR, hB, hG⟩
  rw [← E13.out] at he
  subst he
  have HS2 := Aside0.mk (HS.out.call hR hB hG)
  have HW2 := Aside0.mk (show w.heap.size + 2 ≤ w4_.heap.size from Nat.le_trans HSW.out hG.size)
  clear hR hB hG HS HSW
  have HS := HS2
  have HSW := HW2
  clear HS2 HW2
  by_cases hb13 : n13 = 1
  ·subst hb13
   go_wp2_with (first | ((with_reducible refine gate_store (t := 4) (p := 16) rfl ?_); refine HW.store_field rfl rfl 4 _ _ rfl rfl rfl rfl HS.out.2.2.1 (show (0 : Nat) < 5 by decide) (by kernel_rfl) rfl ?_; intro ws hk hg; have HS2 := Aside0.mk (HS.out.store (cs' := #[.bool true, .int .i64 n1, .bool true, .int .i64 0, .slice none 0 0]) hk hg); have HW2 := Aside0.mk (Nat.le_trans HSW.out hg.size); clear hk hg HS HSW; have HS := HS2; have HSW := HW2; clear HS2 HW2; have k0 := HS.out.cell 0; have k1 := HS.out.cell 1; have k2 := HS.out.cell 2; have k3 := HS.out.cell 3; have k4 := HS.out.cell 4; replace k0 := k0.trans rfl; replace k1 := k1.trans rfl; replace k2 := k2.trans rfl; replace k3 := k3.trans rfl; replace k4 := k4.trans rfl))
   obtain ⟨n18, e18⟩ : ∃ x, x = frame_numAt l 14 18 := ⟨_, rfl⟩
   have E18 := Aside0.mk e18
   clear e18
   obtain ⟨n32, e32⟩ : ∃ x, x = frame_numAt l 32 1 := ⟨_, rfl⟩
   have E32 := Aside0.mk e32
   clear e32
   by_cases q14 : l.length < 32
   ·refine wp_region_any (by kernel_rfl) ?_
    (try (change wpAny _ _ _ _ _ _ _ (World.drew _)))
    refine wpAny_take (i := 0) (v := ?v0) rfl (by kernel_rfl) (by kernel_rfl) (by kernel_rfl) (fun _ _ _ h => h) (Or.inl ⟨by rfl, ?h0⟩) ?r0
    case h0 => (intro w; go_simp; (try with_reducible rfl))
    case r0 =>
     refine wpAny_take (i := 3) (v := ?v3) rfl (by kernel_rfl) (by kernel_rfl) (by kernel_rfl) (fun _ _ _ h => h) (Or.inl ⟨by rfl, ?h3⟩) ?r3
     case h3 => (intro w; go_simp; (try with_reducible rfl))
     case r3 =>
      refine wpAny_ready (rs := [1, 4]) (by kernel_rfl) (by simp) ?_
      refine AllReady.cons rfl (fun K hK => ?_) (AllReady.cons rfl (fun K hK => ?_) AllReady.nil)
      ·go_simp
       refine hK _ _ ?_
       clear hK K
       refine wpAny_take (i := 2) (v := ?v2) rfl (by kernel_rfl) (by kernel_rfl) (by kernel_rfl) (fun _ _ _ h => h) (Or.inl ⟨by rfl, ?h2⟩) ?r2
       case h2 => (intro w; go_simp; (try with_reducible rfl))
       case r2 =>
        refine wpAny_ready (rs := [4]) (by kernel_rfl) (by simp) ?_
        refine AllReady.cons rfl (fun K hK => ?_) AllReady.nil
        go_simp
        go_wp2_with (go_at_call 66; refine (frame_number_short g A l.length c 14 18 _ HS.out.drew.2.1 (by omega) HN.out (by omega) (by omega)).mono ?_; rintro e wp ⟨rfl, hg⟩; have HP := Aside0.mk (HS.out.drew.panic hg); clear hg)
        exact ⟨rfl, Or.inl ⟨40, rfl, by unfold frame_readB; rw [if_neg q0, if_neg (fun h_ => h_ m0), if_neg q1_11, if_neg q12_1, if_neg q13_1, if_pos E13.out.symm, if_neg (fun h_ => h_ E12.out.symm), if_pos q14], by decide, HP.out⟩⟩
      ·go_simp
       go_wp2_with (go_at_call 66; refine (frame_number_short g A l.length c 14 18 _ HS.out.drew.2.1 (by omega) HN.out (by omega) (by omega)).mono ?_; rintro e wp ⟨rfl, hg⟩; have HP := Aside0.mk (HS.out.drew.panic hg); clear hg)
       exact ⟨rfl, Or.inl ⟨40, rfl, by unfold frame_readB; rw [if_neg q0, if_neg (fun h_ => h_ m0), if_neg q1_11, if_neg q12_1, if_neg q13_1, if_pos E13.out.symm, if_neg (fun h_ => h_ E12.out.symm), if_pos q14], by decide, HP.out⟩⟩
   go_cut [] (fun wc => Aside0 (frame_St w0 wc g (w.heap.size + 1) w.heap.size A l.length c 32 #[.bool true, .int .i64 ((Go.bits .or .i64 (IntKind.i64.wrap (n1 * 262144)) n18)), .bool true, .int .i64 0, .slice none 0 0]) ∧ Aside0 (w.heap.size + 2 ≤ wc.heap.size))
   case first =>
    go_region_with (go_at_call 66; refine (frame_number_ok g A l c 14 18 w0 _ HG.out HS.out.drew.1 HR.out HC.out HS.out.drew.2.1 HN.out HWL.out (by omega) (by omega)).mono ?_; rintro e w9 ⟨he, hR, hB, hG⟩; rw [← E18.out] at he; subst he; have HS2 := Aside0.mk (HS.out.drew.call hR hB hG); have HW2 := Aside0.mk (Nat.le_trans HSW.out hG.size); clear hR hB hG; have z1 := (HS2.out.cell 1).trans rfl; have zf := HS2.out.frozen 1)
    all_goals
     go_wp2_with fail
     go_meet
     exact ⟨⟨HS2.out.store (blk_put HS2.out.2.2.1 1 _ rfl) ⟨rfl, rfl, rfl, by simp [World.setCell], fun k _ hk => Below.heap_setCell _ _ _ k (fun e => hk (by rw [e]))⟩⟩, ⟨by have := HW2.out; simpa [World.setCell] using this⟩⟩
   case rest =>
    obtain ⟨HS2, HW2⟩ := hcut
    clear HS HSW
    (try clear k0 k1 k2 k3 k4)
    have HS := HS2
    have HSW := HW2
    clear HS2 HW2
    obtain ⟨idd, hidd⟩ : ∃ x, x = Go.bits .or .i64 (IntKind.i64.wrap (n1 * 262144)) n18 := ⟨_, rfl⟩
    rw [← hidd] at HS
    have HID := Aside0.mk hidd
    clear hidd
    go_wp2_with fail
    by_cases q32_1 : l.length < 33
    ·refine (frame_number_short g A l.length c 32 1 _ HS.out.2.1 (by omega) HN.out (by omega) (by omega)).mono ?_
     rintro e wp ⟨rfl, hg⟩
     have HP := Aside0.mk (HS.out.panic hg)
     clear hg
     go_wp2_with fail
     exact ⟨rfl, Or.inl ⟨40, rfl, by unfold frame_readB; rw [if_neg q0, if_neg (fun h_ => h_ m0), if_neg q1_11, if_neg q12_1, if_neg q13_1, if_pos E13.out.symm, if_neg (fun h_ => h_ E12.out.symm), if_neg q14, if_pos q32_1], by decide, HP.out⟩⟩
    refine (frame_number_ok g A l c 32 1 w0 _ HG.out HS.out.1 HR.out HC.out HS.out.2.1 HN.out HWL.out (by omega) (by omega)).mono ?_
    rintro e w5_ ⟨he, hR, hB, hG⟩
    rw [← E32.out] at he
    subst he
    have HS2 := Aside0.mk (HS.out.call hR hB hG)
    have HW2 := Aside0.mk (show w.heap.size + 2 ≤ w5_.heap.size from Nat.le_trans HSW.out hG.size)
    clear hR hB hG HS HSW
    have HS := HS2
    have HSW := HW2
    clear HS2 HW2
    by_cases hb32 : n32 = 1
    ·subst hb32
     go_wp2_with (first | ((with_reducible refine gate_store (t := 4) (p := 33) rfl ?_); refine HW.store_field rfl rfl 4 _ _ rfl rfl rfl rfl HS.out.2.2.1 (show (2 : Nat) < 5 by decide) (by kernel_rfl) rfl ?_; intro ws hk hg; have HS2 := Aside0.mk (HS.out.store (cs' := #[.bool true, .int .i64 idd, .bool true, .int .i64 0, .slice none 0 0]) hk hg); have HW2 := Aside0.mk (Nat.le_trans HSW.out hg.size); clear hk hg HS HSW; have HS := HS2; have HSW := HW2; clear HS2 HW2; have k0 := HS.out.cell 0; have k1 := HS.out.cell 1; have k2 := HS.out.cell 2; have k3 := HS.out.cell 3; have k4 := HS.out.cell 4; replace k0 := k0.trans rfl; replace k1 := k1.trans rfl; replace k2 := k2.trans rfl; replace k3 := k3.trans rfl; replace k4 := k4.trans rfl))
     (try clear k0 k1 k2 k3 k4)
     by_cases q33 : l.length < 34
     ·refine (frame_must_short g A l.length c 33 0 _ HS.out.2.1 (by omega) HN.out (by omega)).mono ?_
      rintro e wp ⟨rfl, hg⟩
      have HP := Aside0.mk (HS.out.panic hg)
      clear hg
      go_wp2_with fail
      exact ⟨rfl, Or.inl ⟨40, rfl, by unfold frame_readB; rw [if_neg q0, if_neg (fun h_ => h_ m0), if_neg q1_11, if_neg q12_1, if_neg q13_1, if_pos E13.out.symm, if_neg (fun h_ => h_ E12.out.symm), if_neg q14, if_neg q32_1, if_pos q33], by decide, HP.out⟩⟩
     by_cases m33 : frame_numAt l 33 1 = 0
     rotate_left
     ·refine (frame_must_wrong g A l c 33 0 w0 _ HG.out HS.out.1 HR.out HC.out HS.out.2.1 HN.out HWL.out (by omega) m33).mono ?_
      rintro e wp ⟨rfl, hg⟩
      have HP := Aside0.mk (HS.out.panic hg)
      clear hg
      go_wp2_with fail
      exact ⟨rfl, Or.inl ⟨42, rfl, by unfold frame_readB; rw [if_neg q0, if_neg (fun h_ => h_ m0), if_neg q1_11, if_neg q12_1, if_neg q13_1, if_pos E13.out.symm, if_neg (fun h_ => h_ E12.out.symm), if_neg q14, if_neg q32_1, if_neg q33, if_pos m33], by decide, HP.out⟩⟩
     refine (frame_must_ok g A l c 33 0 w0 _ HG.out HS.out.1 HR.out HC.out HS.out.2.1 HN.out HWL.out (by omega) m33).mono ?_
     rintro e w6_ ⟨rfl, hR, hB, hG⟩
     have HS2 := Aside0.mk (HS.out.call hR hB hG)
     have HW2 := Aside0.mk (show w.heap.size + 2 ≤ w6_.heap.size from Nat.le_trans HSW.out hG.size)
     clear hR hB hG HS HSW
     have HS := HS2
     have HSW := HW2
     clear HS2 HW2
     go_wp2_with fail
     by_cases t34 : l.length < 35
     ·refine (frame_must_short g A l.length c 34 0 _ HS.out.2.1 (by omega) HN.out (by omega)).mono ?_
      rintro e wp ⟨rfl, hg⟩
      have HP := Aside0.mk (HS.out.panic hg)
      clear hg
      go_wp2_with fail
      exact ⟨rfl, Or.inl ⟨40, rfl, by unfold frame_readB; rw [if_neg q0, if_neg (fun h_ => h_ m0), if_neg q1_11, if_neg q12_1, if_neg q13_1, if_pos E13.out.symm, if_neg (fun h_ => h_ E12.out.symm), if_neg q14, if_neg q32_1, if_neg q33, if_neg (fun h_ => h_ m33), ← E1.out, ← E18.out, ← HID.out, show decide (frame_numAt l 32 1 = 1) = true from decide_eq_true E32.out.symm, frame_tailB, if_pos t34], by decide, HP.out⟩⟩
     by_cases m34 : frame_numAt l 34 1 = 0
     rotate_left
     ·refine (frame_must_wrong g A l c 34 0 w0 _ HG.out HS.out.1 HR.out HC.out HS.out.2.1 HN.out HWL.out (by omega) m34).mono ?_
      rintro e wp ⟨rfl, hg⟩
      have HP := Aside0.mk (HS.out.panic hg)
      clear hg
      go_wp2_with fail
      exact ⟨rfl, Or.inl ⟨42, rfl, by unfold frame_readB; rw [if_neg q0, if_neg (fun h_ => h_ m0), if_neg q1_11, if_neg q12_1, if_neg q13_1, if_pos E13.out.symm, if_neg (fun h_ => h_ E12.out.symm), if_neg q14, if_neg q32_1, if_neg q33, if_neg (fun h_ => h_ m33), ← E1.out, ← E18.out, ← HID.out, show decide (frame_numAt l 32 1 = 1) = true from decide_eq_true E32.out.symm, frame_tailB, if_neg t34, if_pos m34], by decide, HP.out⟩⟩
     refine (frame_must_ok g A l c 34 0 w0 _ HG.out HS.out.1 HR.out HC.out HS.out.2.1 HN.out HWL.out (by omega) m34).mono ?_
     rintro e w7_ ⟨rfl, hR, hB, hG⟩
     have HS2 := Aside0.mk (HS.out.call hR hB hG)
     have HW2 := Aside0.mk (show w.heap.size + 2 ≤ w7_.heap.size from Nat.le_trans HSW.out hG.size)
     clear hR hB hG HS HSW
     have HS := HS2
     have HSW := HW2
     clear HS2 HW2
     (try clear k0 k1 k2 k3 k4)
     go_wp2_with fail
     by_cases u34 : l.length < 39
     ·refine (frame_number_short g A l.length c 35 4 _ HS.out.2.1 (by omega) HN.out (by omega) (by omega)).mono ?_
      rintro e wp ⟨rfl, hg⟩
      have HP := Aside0.mk (HS.out.panic hg)
      clear hg
      go_wp2_with fail
      exact ⟨rfl, Or.inl ⟨40, rfl, by unfold frame_readB; rw [if_neg q0, if_neg (fun h_ => h_ m0), if_neg q1_11, if_neg q12_1, if_neg q13_1, if_pos E13.out.symm, if_neg (fun h_ => h_ E12.out.symm), if_neg q14, if_neg q32_1, if_neg q33, if_neg (fun h_ => h_ m33), ← E1.out, ← E18.out, ← HID.out, show decide (frame_numAt l 32 1 = 1) = true from decide_eq_true E32.out.symm, frame_tailB, if_neg t34, if_neg (fun h_ => h_ m34), if_pos u34], by decide, HP.out⟩⟩
     have h4 := frame_num4 l 35 (by omega)
     obtain ⟨n4, e4⟩ : ∃ x, x = frame_numAt l 35 4 := ⟨_, rfl⟩
     rw [← e4] at h4
     have E4 := Aside0.mk e4
     have H4 := Aside0.mk h4
     clear e4 h4
     refine (frame_number_ok g A l c 35 4 w0 _ HG.out HS.out.1 HR.out HC.out HS.out.2.1 HN.out HWL.out (by omega) (by omega)).mono ?_
     rintro e w8_ ⟨he, hR, hB, hG⟩
     rw [← E4.out] at he
     subst he
     have HS2 := Aside0.mk (HS.out.call hR hB hG)
     have HW2 := Aside0.mk (show w.heap.size + 2 ≤ w8_.heap.size from Nat.le_trans HSW.out hG.size)
     clear hR hB hG HS HSW
     have HS := HS2
     have HSW := HW2
     clear HS2 HW2
     by_cases g8 : 8 < n4
     ·have g8b : decide (8 < n4) = true := decide_eq_true g8
      have G8 := Aside0.mk g8
      go_wp2_with (first | ((with_reducible refine gate_store (t := 3) (p := 40) rfl ?_); refine HW.store_field rfl rfl 3 _ _ rfl rfl rfl rfl HS.out.2.2.1 (show (3 : Nat) < 5 by decide) (by kernel_rfl) rfl ?_; intro ws hk hg; have HS2 := Aside0.mk (HS.out.store (cs' := #[.bool true, .int .i64 idd, .bool true, .int .i64 n4, .slice none 0 0]) hk hg); have HW2 := Aside0.mk (Nat.le_trans HSW.out hg.size); clear hk hg HS HSW; have HS := HS2; have HSW := HW2; clear HS2 HW2; have k0 := HS.out.cell 0; have k1 := HS.out.cell 1; have k2 := HS.out.cell 2; have k3 := HS.out.cell 3; have k4 := HS.out.cell 4; replace k0 := k0.trans rfl; replace k1 := k1.trans rfl; replace k2 := k2.trans rfl; replace k3 := k3.trans rfl; replace k4 := k4.trans rfl))
      exact ⟨rfl, Or.inl ⟨41, rfl, by unfold frame_readB; rw [if_neg q0, if_neg (fun h_ => h_ m0), if_neg q1_11, if_neg q12_1, if_neg q13_1, if_pos E13.out.symm, if_neg (fun h_ => h_ E12.out.symm), if_neg q14, if_neg q32_1, if_neg q33, if_neg (fun h_ => h_ m33), ← E1.out, ← E18.out, ← HID.out, show decide (frame_numAt l 32 1 = 1) = true from decide_eq_true E32.out.symm, frame_tailB, if_neg t34, if_neg (fun h_ => h_ m34), if_neg u34, ← E4.out, if_pos G8.out], by decide, HS.out.1⟩⟩
     have G8 := Aside0.mk g8
     go_wp2_with (first | ((with_reducible refine gate_store (t := 3) (p := 40) rfl ?_); refine HW.store_field rfl rfl 3 _ _ rfl rfl rfl rfl HS.out.2.2.1 (show (3 : Nat) < 5 by decide) (by kernel_rfl) rfl ?_; intro ws hk hg; have HS2 := Aside0.mk (HS.out.store (cs' := #[.bool true, .int .i64 idd, .bool true, .int .i64 n4, .slice none 0 0]) hk hg); clear hk hg HS; have HS := HS2; clear HS2; (try clear k0 k1 k2 k3 k4); have k0 := HS.out.cell 0; have k1 := HS.out.cell 1; have k2 := HS.out.cell 2; have k3 := HS.out.cell 3; have k4 := HS.out.cell 4; replace k0 := k0.trans rfl; replace k1 := k1.trans rfl; replace k2 := k2.trans rfl; replace k3 := k3.trans rfl; replace k4 := k4.trans rfl) | ((with_reducible refine gate_store (t := 24) (p := 2) rfl ?_); refine HW.store_box' rfl rfl 24 _ _ rfl rfl rfl HS.out.2.2.2.1 rfl (by kernel_rfl) (by intro q hq; simp only [List.mem_cons, List.not_mem_nil, or_false] at hq; rcases hq with rfl | rfl | rfl | rfl | rfl <;> rfl) ?_; intro wz hk hg; have HZ := Aside0.mk hk; have HS2 := Aside0.mk (HS.out.result hg); clear hk hg HS; have HS := HS2; clear HS2))
     refine bodyPost_ret (results_cell_row rfl _ _ w.heap.size 24 _ (0, 0) _ rfl HZ.out Try.underlying24 rfl (by kernel_rfl)) rfl ?_
     exact Or.inr ⟨_, _, _, _, [], _, _, rfl, by unfold frame_readB; rw [if_neg q0, if_neg (fun h_ => h_ m0), if_neg q1_11, if_neg q12_1, if_neg q13_1, if_pos E13.out.symm, if_neg (fun h_ => h_ E12.out.symm), if_neg q14, if_neg q32_1, if_neg q33, if_neg (fun h_ => h_ m33), ← E1.out, ← E18.out, ← HID.out, show decide (frame_numAt l 32 1 = 1) = true from decide_eq_true E32.out.symm, frame_tailB, if_neg t34, if_neg (fun h_ => h_ m34), if_neg u34, ← E4.out, if_neg (by have := G8.out; omega), if_pos rfl], Kd.R_nil _ _ _ _ _, HS.out.2, HS.out.1⟩
    ·skip
     have b32 : (n32 == 1) = false := by simpa using hb32
     have b32d : decide (n32 = 1) = false := decide_eq_false hb32
     go_wp2_with (first | ((with_reducible refine gate_store (t := 4) (p := 33) rfl ?_); refine HW.store_field rfl rfl 4 _ _ rfl rfl rfl rfl HS.out.2.2.1 (show (2 : Nat) < 5 by decide) (by kernel_rfl) rfl ?_; intro ws hk hg; have HS2 := Aside0.mk (HS.out.store (cs' := #[.bool true, .int .i64 idd, .bool false, .int .i64 0, .slice none 0 0]) hk hg); have HW2 := Aside0.mk (Nat.le_trans HSW.out hg.size); clear hk hg HS HSW; have HS := HS2; have HSW := HW2; clear HS2 HW2; have k0 := HS.out.cell 0; have k1 := HS.out.cell 1; have k2 := HS.out.cell 2; have k3 := HS.out.cell 3; have k4 := HS.out.cell 4; replace k0 := k0.trans rfl; replace k1 := k1.trans rfl; replace k2 := k2.trans rfl; replace k3 := k3.trans rfl; replace k4 := k4.trans rfl))
     (try clear k0 k1 k2 k3 k4)
     by_cases q33 : l.length < 34
     ·refine (frame_must_short g A l.length c 33 0 _ HS.out.2.1 (by omega) HN.out (by omega)).mono ?_
      rintro e wp ⟨rfl, hg⟩
      have HP := Aside0.mk (HS.out.panic hg)
      clear hg
      go_wp2_with fail
      exact ⟨rfl, Or.inl ⟨40, rfl, by unfold frame_readB; rw [if_neg q0, if_neg (fun h_ => h_ m0), if_neg q1_11, if_neg q12_1, if_neg q13_1, if_pos E13.out.symm, if_neg (fun h_ => h_ E12.out.symm), if_neg q14, if_neg q32_1, if_pos q33], by decide, HP.out⟩⟩
     by_cases m33 : frame_numAt l 33 1 = 0
     rotate_left
     ·refine (frame_must_wrong g A l c 33 0 w0 _ HG.out HS.out.1 HR.out HC.out HS.out.2.1 HN.out HWL.out (by omega) m33).mono ?_
      rintro e wp ⟨rfl, hg⟩
      have HP := Aside0.mk (HS.out.panic hg)
      clear hg
      go_wp2_with fail
      exact ⟨rfl, Or.inl ⟨42, rfl, by unfold frame_readB; rw [if_neg q0, if_neg (fun h_ => h_ m0), if_neg q1_11, if_neg q12_1, if_neg q13_1, if_pos E13.out.symm, if_neg (fun h_ => h_ E12.out.symm), if_neg q14, if_neg q32_1, if_neg q33, if_pos m33], by decide, HP.out⟩⟩
     refine (frame_must_ok g A l c 33 0 w0 _ HG.out HS.out.1 HR.out HC.out HS.out.2.1 HN.out HWL.out (by omega) m33).mono ?_
     rintro e w9_ ⟨rfl, hR, hB, hG⟩
     have HS2 := Aside0.mk (HS.out.call hR hB hG)
     have HW2 := Aside0.mk (show w.heap.size + 2 ≤ w9_.heap.size from Nat.le_trans HSW.out hG.size)
     clear hR hB hG HS HSW
     have HS := HS2
     have HSW := HW2
     clear HS2 HW2
     go_wp2_with fail
     by_cases t34 : l.length < 35
     ·refine (frame_must_short g A l.length c 34 0 _ HS.out.2.1 (by omega) HN.out (by omega)).mono ?_
      rintro e wp ⟨rfl, hg⟩
      have HP := Aside0.mk (HS.out.panic hg)
      clear hg
      go_wp2_with fail
      exact ⟨rfl, Or.inl ⟨40, rfl, by unfold frame_readB; rw [if_neg q0, if_neg (fun h_ => h_ m0), if_neg q1_11, if_neg q12_1, if_neg q13_1, if_pos E13.out.symm, if_neg (fun h_ => h_ E12.out.symm), if_neg q14, if_neg q32_1, if_neg q33, if_neg (fun h_ => h_ m33), ← E1.out, ← E18.out, ← HID.out, show decide (frame_numAt l 32 1 = 1) = false from decide_eq_false (fun h_ => hb32 (E32.out.trans h_)), frame_tailB, if_pos t34], by decide, HP.out⟩⟩
     by_cases m34 : frame_numAt l 34 1 = 0
     rotate_left
     ·refine (frame_must_wrong g A l c 34 0 w0 _ HG.out HS.out.1 HR.out HC.out HS.out.2.1 HN.out HWL.out (by omega) m34).mono ?_
      rintro e wp ⟨rfl, hg⟩
      have HP := Aside0.mk (HS.out.panic hg)
      clear hg
      go_wp2_with fail
      exact ⟨rfl, Or.inl ⟨42, rfl, by unfold frame_readB; rw [if_neg q0, if_neg (fun h_ => h_ m0), if_neg q1_11, if_neg q12_1, if_neg q13_1, if_pos E13.out.symm, if_neg (fun h_ => h_ E12.out.symm), if_neg q14, if_neg q32_1, if_neg q33, if_neg (fun h_ => h_ m33), ← E1.out, ← E18.out, ← HID.out, show decide (frame_numAt l 32 1 = 1) = false from decide_eq_false (fun h_ => hb32 (E32.out.trans h_)), frame_tailB, if_neg t34, if_pos m34], by decide, HP.out⟩⟩
     refine (frame_must_ok g A l c 34 0 w0 _ HG.out HS.out.1 HR.out HC.out HS.out.2.1 HN.out HWL.out (by omega) m34).mono ?_
     rintro e w10_ ⟨rfl, hR, hB, hG⟩
     have HS2 := Aside0.mk (HS.out.call hR hB hG)
     have HW2 := Aside0.mk (show w.heap.size + 2 ≤ w10_.heap.size from Nat.le_trans HSW.out hG.size)
     clear hR hB hG HS HSW
     have HS := HS2
     have HSW := HW2
     clear HS2 HW2
     (try clear k0 k1 k2 k3 k4)
     go_wp2_with fail
     by_cases u34 : l.length < 39
     ·refine (frame_number_short g A l.length c 35 4 _ HS.out.2.1 (by omega) HN.out (by omega) (by omega)).mono ?_
      rintro e wp ⟨rfl, hg⟩
      have HP := Aside0.mk (HS.out.panic hg)
      clear hg
      go_wp2_with fail
      exact ⟨rfl, Or.inl ⟨40, rfl, by unfold frame_readB; rw [if_neg q0, if_neg (fun h_ => h_ m0), if_neg q1_11, if_neg q12_1, if_neg q13_1, if_pos E13.out.symm, if_neg (fun h_ => h_ E12.out.symm), if_neg q14, if_neg q32_1, if_neg q33, if_neg (fun h_ => h_ m33), ← E1.out, ← E18.out, ← HID.out, show decide (frame_numAt l 32 1 = 1) = false from decide_eq_false (fun h_ => hb32 (E32.out.trans h_)), frame_tailB, if_neg t34, if_neg (fun h_ => h_ m34), if_pos u34], by decide, HP.out⟩⟩
     have h4 := frame_num4 l 35 (by omega)
     obtain ⟨n4, e4⟩ : ∃ x, x = frame_numAt l 35 4 := ⟨_, rfl⟩
     rw [← e4] at h4
     have E4 := Aside0.mk e4
     have H4 := Aside0.mk h4
     clear e4 h4
     refine (frame_number_ok g A l c 35 4 w0 _ HG.out HS.out.1 HR.out HC.out HS.out.2.1 HN.out HWL.out (by omega) (by omega)).mono ?_
     rintro e w11_ ⟨he, hR, hB, hG⟩
     rw [← E4.out] at he
     subst he
     have HS2 := Aside0.mk (HS.out.call hR hB hG)
     have HW2 := Aside0.mk (show w.heap.size + 2 ≤ w11_.heap.size from Nat.le_trans HSW.out hG.size)
     clear hR hB hG HS HSW
     have HS := HS2
     have HSW := HW2
     clear HS2 HW2
     by_cases g8 : 8 < n4
     ·have g8b : decide (8 < n4) = true := decide_eq_true g8
      have G8 := Aside0.mk g8
      go_wp2_with (first | ((with_reducible refine gate_store (t := 3) (p := 40) rfl ?_); refine HW.store_field rfl rfl 3 _ _ rfl rfl rfl rfl HS.out.2.2.1 (show (3 : Nat) < 5 by decide) (by kernel_rfl) rfl ?_; intro ws hk hg; have HS2 := Aside0.mk (HS.out.store (cs' := #[.bool true, .int .i64 idd, .bool false, .int .i64 n4, .slice none 0 0]) hk hg); have HW2 := Aside0.mk (Nat.le_trans HSW.out hg.size); clear hk hg HS HSW; have HS := HS2; have HSW := HW2; clear HS2 HW2; have k0 := HS.out.cell 0; have k1 := HS.out.cell 1; have k2 := HS.out.cell 2; have k3 := HS.out.cell 3; have k4 := HS.out.cell 4; replace k0 := k0.trans rfl; replace k1 := k1.trans rfl; replace k2 := k2.trans rfl; replace k3 := k3.trans rfl; replace k4 := k4.trans rfl))
      exact ⟨rfl, Or.inl ⟨41, rfl, by unfold frame_readB; rw [if_neg q0, if_neg (fun h_ => h_ m0), if_neg q1_11, if_neg q12_1, if_neg q13_1, if_pos E13.out.symm, if_neg (fun h_ => h_ E12.out.symm), if_neg q14, if_neg q32_1, if_neg q33, if_neg (fun h_ => h_ m33), ← E1.out, ← E18.out, ← HID.out, show decide (frame_numAt l 32 1 = 1) = false from decide_eq_false (fun h_ => hb32 (E32.out.trans h_)), frame_tailB, if_neg t34, if_neg (fun h_ => h_ m34), if_neg u34, ← E4.out, if_pos G8.out], by decide, HS.out.1⟩⟩
     have G8 := Aside0.mk g8
     obtain ⟨m4, hm4⟩ := Int.eq_ofNat_of_zero_le H4.out.1
     have hw8 : wrap64 (8 * n4) = ((8 * m4 : Nat) : Int) := by have := H4.out.2; unfold wrap64; omega
     have ht4 : n4.toNat = m4 := by omega
     have HW8 := Aside0.mk hw8
     have HT4 := Aside0.mk ht4
     have HM4 := Aside0.mk (show m4 ≤ 8 by omega)
     clear hw8 ht4 hm4
     go_wp2_with (first | ((with_reducible refine gate_store (t := 3) (p := 40) rfl ?_); refine HW.store_field rfl rfl 3 _ _ rfl rfl rfl rfl HS.out.2.2.1 (show (3 : Nat) < 5 by decide) (by kernel_rfl) rfl ?_; intro ws hk hg; have HS2 := Aside0.mk (HS.out.store (cs' := #[.bool true, .int .i64 idd, .bool false, .int .i64 n4, .slice none 0 0]) hk hg); have HW2 := Aside0.mk (Nat.le_trans HSW.out hg.size); clear hk hg HS HSW; have HS := HS2; have HSW := HW2; clear HS2 HW2; have k0 := HS.out.cell 0; have k1 := HS.out.cell 1; have k2 := HS.out.cell 2; have k3 := HS.out.cell 3; have k4 := HS.out.cell 4; replace k0 := k0.trans rfl; replace k1 := k1.trans rfl; replace k2 := k2.trans rfl; replace k3 := k3.trans rfl; replace k4 := k4.trans rfl))
     rw [HW8.out]
     by_cases t5 : l.length < 39 + 8 * m4
     ·refine (frame_take_short g A l.length c 39 (8 * m4) _ HS.out.2.1 (by omega) HN.out (by have := HM4.out; omega) (by omega)).mono ?_
      rintro e wp ⟨rfl, hg⟩
      have HP := Aside0.mk (HS.out.panic hg)
      clear hg
      go_wp2_with fail
      exact ⟨rfl, Or.inl ⟨40, rfl, by unfold frame_readB; rw [if_neg q0, if_neg (fun h_ => h_ m0), if_neg q1_11, if_neg q12_1, if_neg q13_1, if_pos E13.out.symm, if_neg (fun h_ => h_ E12.out.symm), if_neg q14, if_neg q32_1, if_neg q33, if_neg (fun h_ => h_ m33), ← E1.out, ← E18.out, ← HID.out, show decide (frame_numAt l 32 1 = 1) = false from decide_eq_false (fun h_ => hb32 (E32.out.trans h_)), frame_tailB, if_neg t34, if_neg (fun h_ => h_ m34), if_neg u34, ← E4.out, if_neg (by have := G8.out; omega), if_neg (show ¬ (false = true) by decide), HT4.out, if_pos t5], by decide, HP.out⟩⟩
     obtain ⟨jb, hjb⟩ : ∃ x, x = H.joinB (frame_bitsAt l 39 (8 * m4)) := ⟨_, rfl⟩
     obtain ⟨KJ, hKJ⟩ := fb_join_k (frame_bitsAt l 39 (8 * m4)) (by rw [frame_bitsAt_len l _ _ (by omega)]; have := HM4.out; omega) (frame_w64 l HWL.out 39 (8 * m4))
     have hj := hKJ KJ (Nat.le_refl _)
     rw [← hjb] at hj
     have HJ := Aside0.mk hj
     have HJB := Aside0.mk hjb
     clear hj hKJ hjb
     refine (frame_take_ok g A l c 39 (8 * m4) w0 _ HG.out HS.out.1 HR.out HC.out HS.out.2.1 HN.out (by have := HM4.out; omega) (by omega)).mono ?_
     rintro e w12_ ⟨A1, n1_, c1, rfl, rfl, hc1, hC1, hR, hB, hG⟩
     have HC1 := Aside0.mk hc1
     have HCC := Aside0.mk hC1
     have HS2 := Aside0.mk (HS.out.call hR hB hG)
     have HW2 := Aside0.mk (Nat.le_trans HSW.out hG.size)
     clear hR hB hG HS HSW hc1 hC1 k0 k1 k2 k3 k4
     have HS := HS2
     have HSW := HW2
     clear HS2 HW2
     go_wp2_with fail
     refine (bits_Join.calls KJ A1 c1 (frame_bitsAt l 39 (8 * m4)) jb.1 jb.2 _ HCC.out HC1.out HJ.out).mono ?_
     rintro e w13_ ⟨v5, rfl, hO, hB⟩
     obtain ⟨A5, c5, rfl⟩ := Kd.R_slice hO
     have HO := Aside0.mk (Kd.R_lower hO (Nat.le_trans (Nat.le_add_right _ 2) HSW.out))
     have HS2 := Aside0.mk (HS.out.below hB)
     clear hO hB HS
     have HS := HS2
     clear HS2 HCC HC1 HJ
     have hgf : w.heap.size + 1 ≠ w.heap.size := by omega
     go_wp2_with (first | ((with_reducible refine gate_store (t := 22) (p := 57) rfl ?_); refine HW.store_field rfl rfl 22 _ _ rfl rfl rfl rfl HS.out.2.2.1 (show (4 : Nat) < 5 by decide) (by kernel_rfl) rfl ?_; intro ws hk hg; have HO2 := Aside0.mk (frame_R_far HO.out hg HS.out.2.2.1); clear HO; have HO := HO2; clear HO2; have HS2 := Aside0.mk (HS.out.store (cs' := #[.bool true, .int .i64 idd, .bool false, .int .i64 n4, .slice A5 jb.1.length c5]) hk hg); clear hk hg HS; have HS := HS2; clear HS2; (try clear k0 k1 k2 k3 k4); have k0 := HS.out.cell 0; have k1 := HS.out.cell 1; have k2 := HS.out.cell 2; have k3 := HS.out.cell 3; have k4 := HS.out.cell 4; replace k0 := k0.trans rfl; replace k1 := k1.trans rfl; replace k2 := k2.trans rfl; replace k3 := k3.trans rfl; replace k4 := k4.trans rfl) | ((with_reducible refine gate_store (t := 24) (p := 2) rfl ?_); refine HW.store_box' rfl rfl 24 _ _ rfl rfl rfl HS.out.2.2.2.1 rfl (by kernel_rfl) (by intro q hq; simp only [List.mem_cons, List.not_mem_nil, or_false] at hq; rcases hq with rfl | rfl | rfl | rfl | rfl <;> rfl) ?_; intro wz hk hg; have HO2 := Aside0.mk (frame_R_far HO.out hg HS.out.2.2.2.1); clear HO; have HO := HO2; clear HO2; have HZ := Aside0.mk hk; have HS2 := Aside0.mk (HS.out.result hg); clear hk hg HS; have HS := HS2; clear HS2))
     refine bodyPost_ret (results_cell_row rfl _ _ w.heap.size 24 _ (0, 0) _ rfl HZ.out Try.underlying24 rfl (by kernel_rfl)) rfl ?_
     exact Or.inr ⟨_, _, _, _, jb.1, _, _, rfl, by unfold frame_readB; rw [if_neg q0, if_neg (fun h_ => h_ m0), if_neg q1_11, if_neg q12_1, if_neg q13_1, if_pos E13.out.symm, if_neg (fun h_ => h_ E12.out.symm), if_neg q14, if_neg q32_1, if_neg q33, if_neg (fun h_ => h_ m33), ← E1.out, ← E18.out, ← HID.out, show decide (frame_numAt l 32 1 = 1) = false from decide_eq_false (fun h_ => hb32 (E32.out.trans h_)), frame_tailB, if_neg t34, if_neg (fun h_ => h_ m34), if_neg u34, ← E4.out, if_neg (by have := G8.out; omega), if_neg (show ¬ (false = true) by decide), HT4.out, if_neg t5, ← HJB.out], HO.out, HS.out.2, HS.out.1⟩
  ·skip
   have b13 : (n13 == 1) = false := by simpa using hb13
   have b13d : decide (n13 = 1) = false := decide_eq_false hb13
   go_wp2_with (first | ((with_reducible refine gate_store (t := 4) (p := 16) rfl ?_); refine HW.store_field rfl rfl 4 _ _ rfl rfl rfl rfl HS.out.2.2.1 (show (0 : Nat) < 5 by decide) (by kernel_rfl) rfl ?_; intro ws hk hg; have HS2 := Aside0.mk (HS.out.store (cs' := #[.bool false, .int .i64 n1, .bool true, .int .i64 0, .slice none 0 0]) hk hg); have HW2 := Aside0.mk (Nat.le_trans HSW.out hg.size); clear hk hg HS HSW; have HS := HS2; have HSW := HW2; clear HS2 HW2; have k0 := HS.out.cell 0; have k1 := HS.out.cell 1; have k2 := HS.out.cell 2; have k3 := HS.out.cell 3; have k4 := HS.out.cell 4; replace k0 := k0.trans rfl; replace k1 := k1.trans rfl; replace k2 := k2.trans rfl; replace k3 := k3.trans rfl; replace k4 := k4.trans rfl))
   (try clear k0 k1 k2 k3 k4)
   by_cases t14 : l.length < 15
   ·refine (frame_must_short g A l.length c 14 0 _ HS.out.2.1 (by omega) HN.out (by omega)).mono ?_
    rintro e wp ⟨rfl, hg⟩
    have HP := Aside0.mk (HS.out.panic hg)
    clear hg
    go_wp2_with fail
    exact ⟨rfl, Or.inl ⟨40, rfl, by unfold frame_readB; rw [if_neg q0, if_neg (fun h_ => h_ m0), if_neg q1_11, if_neg q12_1, if_neg q13_1, if_neg (fun h_ => hb13 (E13.out.trans h_)), ← E1.out, show decide (frame_numAt l 12 1 = 1) = true from decide_eq_true E12.out.symm, frame_tailB, if_pos t14], by decide, HP.out⟩⟩
   by_cases m14 : frame_numAt l 14 1 = 0
   rotate_left
   ·refine (frame_must_wrong g A l c 14 0 w0 _ HG.out HS.out.1 HR.out HC.out HS.out.2.1 HN.out HWL.out (by omega) m14).mono ?_
    rintro e wp ⟨rfl, hg⟩
    have HP := Aside0.mk (HS.out.panic hg)
    clear hg
    go_wp2_with fail
    exact ⟨rfl, Or.inl ⟨42, rfl, by unfold frame_readB; rw [if_neg q0, if_neg (fun h_ => h_ m0), if_neg q1_11, if_neg q12_1, if_neg q13_1, if_neg (fun h_ => hb13 (E13.out.trans h_)), ← E1.out, show decide (frame_numAt l 12 1 = 1) = true from decide_eq_true E12.out.symm, frame_tailB, if_neg t14, if_pos m14], by decide, HP.out⟩⟩
   refine (frame_must_ok g A l c 14 0 w0 _ HG.out HS.out.1 HR.out HC.out HS.out.2.1 HN.out HWL.out (by omega) m14).mono ?_
   rintro e w14_ ⟨rfl, hR, hB, hG⟩
   have HS2 := Aside0.mk (HS.out.call hR hB hG)
   have HW2 := Aside0.mk (show w.heap.size + 2 ≤ w14_.heap.size from Nat.le_trans HSW.out hG.size)
   clear hR hB hG HS HSW
   have HS := HS2
   have HSW := HW2
   clear HS2 HW2
   (try clear k0 k1 k2 k3 k4)
   go_wp2_with fail
   by_cases u14 : l.length < 19
   ·refine (frame_number_short g A l.length c 15 4 _ HS.out.2.1 (by omega) HN.out (by omega) (by omega)).mono ?_
    rintro e wp ⟨rfl, hg⟩
    have HP := Aside0.mk (HS.out.panic hg)
    clear hg
    go_wp2_with fail
    exact ⟨rfl, Or.inl ⟨40, rfl, by unfold frame_readB; rw [if_neg q0, if_neg (fun h_ => h_ m0), if_neg q1_11, if_neg q12_1, if_neg q13_1, if_neg (fun h_ => hb13 (E13.out.trans h_)), ← E1.out, show decide (frame_numAt l 12 1 = 1) = true from decide_eq_true E12.out.symm, frame_tailB, if_neg t14, if_neg (fun h_ => h_ m14), if_pos u14], by decide, HP.out⟩⟩
   have h4 := frame_num4 l 15 (by omega)
   obtain ⟨n4, e4⟩ : ∃ x, x = frame_numAt l 15 4 := ⟨_, rfl⟩
   rw [← e4] at h4
   have E4 := Aside0.mk e4
   have H4 := Aside0.mk h4
   clear e4 h4
   refine (frame_number_ok g A l c 15 4 w0 _ HG.out HS.out.1 HR.out HC.out HS.out.2.1 HN.out HWL.out (by omega) (by omega)).mono ?_
   rintro e w15_ ⟨he, hR, hB, hG⟩
   rw [← E4.out] at he
   subst he
   have HS2 := Aside0.mk (HS.out.call hR hB hG)
   have HW2 := Aside0.mk (show w.heap.size + 2 ≤ w15_.heap.size from Nat.le_trans HSW.out hG.size)
   clear hR hB hG HS HSW
   have HS := HS2
   have HSW := HW2
   clear HS2 HW2
   by_cases g8 : 8 < n4
   ·have g8b : decide (8 < n4) = true := decide_eq_true g8
    have G8 := Aside0.mk g8
    go_wp2_with (first | ((with_reducible refine gate_store (t := 3) (p := 40) rfl ?_); refine HW.store_field rfl rfl 3 _ _ rfl rfl rfl rfl HS.out.2.2.1 (show (3 : Nat) < 5 by decide) (by kernel_rfl) rfl ?_; intro ws hk hg; have HS2 := Aside0.mk (HS.out.store (cs' := #[.bool false, .int .i64 n1, .bool true, .int .i64 n4, .slice none 0 0]) hk hg); have HW2 := Aside0.mk (Nat.le_trans HSW.out hg.size); clear hk hg HS HSW; have HS := HS2; have HSW := HW2; clear HS2 HW2; have k0 := HS.out.cell 0; have k1 := HS.out.cell 1; have k2 := HS.out.cell 2; have k3 := HS.out.cell 3; have k4 := HS.out.cell 4; replace k0 := k0.trans rfl; replace k1 := k1.trans rfl; replace k2 := k2.trans rfl; replace k3 := k3.trans rfl; replace k4 := k4.trans rfl))
    exact ⟨rfl, Or.inl ⟨41, rfl, by unfold frame_readB; rw [if_neg q0, if_neg (fun h_ => h_ m0), if_neg q1_11, if_neg q12_1, if_neg q13_1, if_neg (fun h_ => hb13 (E13.out.trans h_)), ← E1.out, show decide (frame_numAt l 12 1 = 1) = true from decide_eq_true E12.out.symm, frame_tailB, if_neg t14, if_neg (fun h_ => h_ m14), if_neg u14, ← E4.out, if_pos G8.out], by decide, HS.out.1⟩⟩
   have G8 := Aside0.mk g8
   go_wp2_with (first | ((with_reducible refine gate_store (t := 3) (p := 40) rfl ?_); refine HW.store_field rfl rfl 3 _ _ rfl rfl rfl rfl HS.out.2.2.1 (show (3 : Nat) < 5 by decide) (by kernel_rfl) rfl ?_; intro ws hk hg; have HS2 := Aside0.mk (HS.out.store (cs' := #[.bool false, .int .i64 n1, .bool true, .int .i64 n4, .slice none 0 0]) hk hg); clear hk hg HS; have HS := HS2; clear HS2; (try clear k0 k1 k2 k3 k4); have k0 := HS.out.cell 0; have k1 := HS.out.cell 1; have k2 := HS.out.cell 2; have k3 := HS.out.cell 3; have k4 := HS.out.cell 4; replace k0 := k0.trans rfl; replace k1 := k1.trans rfl; replace k2 := k2.trans rfl; replace k3 := k3.trans rfl; replace k4 := k4.trans rfl) | ((with_reducible refine gate_store (t := 24) (p := 2) rfl ?_); refine HW.store_box' rfl rfl 24 _ _ rfl rfl rfl HS.out.2.2.2.1 rfl (by kernel_rfl) (by intro q hq; simp only [List.mem_cons, List.not_mem_nil, or_false] at hq; rcases hq with rfl | rfl | rfl | rfl | rfl <;> rfl) ?_; intro wz hk hg; have HZ := Aside0.mk hk; have HS2 := Aside0.mk (HS.out.result hg); clear hk hg HS; have HS := HS2; clear HS2))
   refine bodyPost_ret (results_cell_row rfl _ _ w.heap.size 24 _ (0, 0) _ rfl HZ.out Try.underlying24 rfl (by kernel_rfl)) rfl ?_
   exact Or.inr ⟨_, _, _, _, [], _, _, rfl, by unfold frame_readB; rw [if_neg q0, if_neg (fun h_ => h_ m0), if_neg q1_11, if_neg q12_1, if_neg q13_1, if_neg (fun h_ => hb13 (E13.out.trans h_)), ← E1.out, show decide (frame_numAt l 12 1 = 1) = true from decide_eq_true E12.out.symm, frame_tailB, if_neg t14, if_neg (fun h_ => h_ m14), if_neg u14, ← E4.out, if_neg (by have := G8.out; omega), if_pos rfl], Kd.R_nil _ _ _ _ _, HS.out.2, HS.out.1⟩
 ·skip
  have b12 : (n12 == 1) = false := by simpa using hb12
  have b12d : decide (n12 = 1) = false := decide_eq_false hb12
  go_wp2_with (first | ((with_reducible refine gate_store (t := 4) (p := 12) rfl ?_); refine HW.store_field rfl rfl 4 _ _ rfl rfl rfl rfl HS.out.2.2.1 (show (2 : Nat) < 5 by decide) (by kernel_rfl) rfl ?_; intro ws hk hg; have HS2 := Aside0.mk (HS.out.store (cs' := #[.bool false, .int .i64 n1, .bool false, .int .i64 0, .slice none 0 0]) hk hg); have HW2 := Aside0.mk (Nat.le_trans HSW.out hg.size); clear hk hg HS HSW; have HS := HS2; have HSW := HW2; clear HS2 HW2; have k0 := HS.out.cell 0; have k1 := HS.out.cell 1; have k2 := HS.out.cell 2; have k3 := HS.out.cell 3; have k4 := HS.out.cell 4; replace k0 := k0.trans rfl; replace k1 := k1.trans rfl; replace k2 := k2.trans rfl; replace k3 := k3.trans rfl; replace k4 := k4.trans rfl))
  (try clear k0 k1 k2 k3 k4)
  by_cases q13_1 : l.length < 14
  ·refine (frame_number_short g A l.length c 13 1 _ HS.out.2.1 (by omega) HN.out (by omega) (by omega)).mono ?_
   rintro e wp ⟨rfl, hg⟩
   have HP := Aside0.mk (HS.out.panic hg)
   clear hg
   go_wp2_with fail
   exact ⟨rfl, Or.inl ⟨40, rfl, by unfold frame_readB; rw [if_neg q0, if_neg (fun h_ => h_ m0), if_neg q1_11, if_neg q12_1, if_pos q13_1], by decide, HP.out⟩⟩
  refine (frame_number_ok g A l c 13 1 w0 _ HG.out HS.out.1 HR.out HC.out HS.out.2.1 HN.out HWL.out (by omega) (by omega)).mono ?_
  rintro e w16_ ⟨he, hR, hB, hG⟩
  rw [← E13.out] at he
  subst he
  have HS2 := Aside0.mk (HS.out.call hR hB hG)
  have HW2 := Aside0.mk (show w.heap.size + 2 ≤ w16_.heap.size from Nat.le_trans HSW.out hG.size)
  clear hR hB hG HS HSW
  have HS := HS2
  have HSW := HW2
  clear HS2 HW2
  by_cases hb13 : n13 = 1
  ·subst hb13
   go_wp2_with (first | ((with_reducible refine gate_store (t := 4) (p := 16) rfl ?_); refine HW.store_field rfl rfl 4 _ _ rfl rfl rfl rfl HS.out.2.2.1 (show (0 : Nat) < 5 by decide) (by kernel_rfl) rfl ?_; intro ws hk hg; have HS2 := Aside0.mk (HS.out.store (cs' := #[.bool true, .int .i64 n1, .bool false, .int .i64 0, .slice none 0 0]) hk hg); have HW2 := Aside0.mk (Nat.le_trans HSW.out hg.size); clear hk hg HS HSW; have HS := HS2; have HSW := HW2; clear HS2 HW2; have k0 := HS.out.cell 0; have k1 := HS.out.cell 1; have k2 := HS.out.cell 2; have k3 := HS.out.cell 3; have k4 := HS.out.cell 4; replace k0 := k0.trans rfl; replace k1 := k1.trans rfl; replace k2 := k2.trans rfl; replace k3 := k3.trans rfl; replace k4 := k4.trans rfl))
   exact ⟨rfl, Or.inl ⟨42, rfl, by unfold frame_readB; rw [if_neg q0, if_neg (fun h_ => h_ m0), if_neg q1_11, if_neg q12_1, if_neg q13_1, if_pos E13.out.symm, if_pos (fun h_ => hb12 (E12.out.trans h_))], by decide, HS.out.1⟩⟩
  ·skip
   have b13 : (n13 == 1) = false := by simpa using hb13
   have b13d : decide (n13 = 1) = false := decide_eq_false hb13
   go_wp2_with (first | ((with_reducible refine gate_store (t := 4) (p := 16) rfl ?_); refine HW.store_field rfl rfl 4 _ _ rfl rfl rfl rfl HS.out.2.2.1 (show (0 : Nat) < 5 by decide) (by kernel_rfl) rfl ?_; intro ws hk hg; have HS2 := Aside0.mk (HS.out.store (cs' := #[.bool false, .int .i64 n1, .bool false, .int .i64 0, .slice none 0 0]) hk hg); have HW2 := Aside0.mk (Nat.le_trans HSW.out hg.size); clear hk hg HS HSW; have HS := HS2; have HSW := HW2; clear HS2 HW2; have k0 := HS.out.cell 0; have k1 := HS.out.cell 1; have k2 := HS.out.cell 2; have k3 := HS.out.cell 3; have k4 := HS.out.cell 4; replace k0 := k0.trans rfl; replace k1 := k1.trans rfl; replace k2 := k2.trans rfl; replace k3 := k3.trans rfl; replace k4 := k4.trans rfl))
   (try clear k0 k1 k2 k3 k4)
   by_cases t14 : l.length < 15
   ·refine (frame_must_short g A l.length c 14 0 _ HS.out.2.1 (by omega) HN.out (by omega)).mono ?_
    rintro e wp ⟨rfl, hg⟩
    have HP := Aside0.mk (HS.out.panic hg)
    clear hg
    go_wp2_with fail
    exact ⟨rfl, Or.inl ⟨40, rfl, by unfold frame_readB; rw [if_neg q0, if_neg (fun h_ => h_ m0), if_neg q1_11, if_neg q12_1, if_neg q13_1, if_neg (fun h_ => hb13 (E13.out.trans h_)), ← E1.out, show decide (frame_numAt l 12 1 = 1) = false from decide_eq_false (fun h_ => hb12 (E12.out.trans h_)), frame_tailB, if_pos t14], by decide, HP.out⟩⟩
   by_cases m14 : frame_numAt l 14 1 = 0
   rotate_left
   ·refine (frame_must_wrong g A l c 14 0 w0 _ HG.out HS.out.1 HR.out HC.out HS.out.2.1 HN.out HWL.out (by omega) m14).mono ?_
    rintro e wp ⟨rfl, hg⟩
    have HP := Aside0.mk (HS.out.panic hg)
    clear hg
    go_wp2_with fail
    exact ⟨rfl, Or.inl ⟨42, rfl, by unfold frame_readB; rw [if_neg q0, if_neg (fun h_ => h_ m0), if_neg q1_11, if_neg q12_1, if_neg q13_1, if_neg (fun h_ => hb13 (E13.out.trans h_)), ← E1.out, show decide (frame_numAt l 12 1 = 1) = false from decide_eq_false (fun h_ => hb12 (E12.out.trans h_)), frame_tailB, if_neg t14, if_pos m14], by decide, HP.out⟩⟩
   refine (frame_must_ok g A l c 14 0 w0 _ HG.out HS.out.1 HR.out HC.out HS.out.2.1 HN.out HWL.out (by omega) m14).mono ?_
   rintro e w17_ ⟨rfl, hR, hB, hG⟩
   have HS2 := Aside0.mk (HS.out.call hR hB hG)
   have HW2 := Aside0.mk (show w.heap.size + 2 ≤ w17_.heap.size from Nat.le_trans HSW.out hG.size)
   clear hR hB hG HS HSW
   have HS := HS2
   have HSW := HW2
   clear HS2 HW2
   (try clear k0 k1 k2 k3 k4)
   go_wp2_with fail
   by_cases u14 : l.length < 19
   ·refine (frame_number_short g A l.length c 15 4 _ HS.out.2.1 (by omega) HN.out (by omega) (by omega)).mono ?_
    rintro e wp ⟨rfl, hg⟩
    have HP := Aside0.mk (HS.out.panic hg)
    clear hg
    go_wp2_with fail
    exact ⟨rfl, Or.inl ⟨40, rfl, by unfold frame_readB; rw [if_neg q0, if_neg (fun h_ => h_ m0), if_neg q1_11, if_neg q12_1, if_neg q13_1, if_neg (fun h_ => hb13 (E13.out.trans h_)), ← E1.out, show decide (frame_numAt l 12 1 = 1) = false from decide_eq_false (fun h_ => hb12 (E12.out.trans h_)), frame_tailB, if_neg t14, if_neg (fun h_ => h_ m14), if_pos u14], by decide, HP.out⟩⟩
   have h4 := frame_num4 l 15 (by omega)
   obtain ⟨n4, e4⟩ : ∃ x, x = frame_numAt l 15 4 := ⟨_, rfl⟩
   rw [← e4] at h4
   have E4 := Aside0.mk e4
   have H4 := Aside0.mk h4
   clear e4 h4
   refine (frame_number_ok g A l c 15 4 w0 _ HG.out HS.out.1 HR.out HC.out HS.out.2.1 HN.out HWL.out (by omega) (by omega)).mono ?_
   rintro e w18_ ⟨he, hR, hB, hG⟩
   rw [← E4.out] at he
   subst he
   have HS2 := Aside0.mk (HS.out.call hR hB hG)
   have HW2 := Aside0.mk (show w.heap.size + 2 ≤ w18_.heap.size from Nat.le_trans HSW.out hG.size)
   clear hR hB hG HS HSW
   have HS := HS2
   have HSW := HW2
   clear HS2 HW2
   by_cases g8 : 8 < n4
   ·have g8b : decide (8 < n4) = true := decide_eq_true g8
    have G8 := Aside0.mk g8
    go_wp2_with (first | ((with_reducible refine gate_store (t := 3) (p := 40) rfl ?_); refine HW.store_field rfl rfl 3 _ _ rfl rfl rfl rfl HS.out.2.2.1 (show (3 : Nat) < 5 by decide) (by kernel_rfl) rfl ?_; intro ws hk hg; have HS2 := Aside0.mk (HS.out.store (cs' := #[.bool false, .int .i64 n1, .bool false, .int .i64 n4, .slice none 0 0]) hk hg); have HW2 := Aside0.mk (Nat.le_trans HSW.out hg.size); clear hk hg HS HSW; have HS := HS2; have HSW := HW2; clear HS2 HW2; have k0 := HS.out.cell 0; have k1 := HS.out.cell 1; have k2 := HS.out.cell 2; have k3 := HS.out.cell 3; have k4 := HS.out.cell 4; replace k0 := k0.trans rfl; replace k1 := k1.trans rfl; replace k2 := k2.trans rfl; replace k3 := k3.trans rfl; replace k4 := k4.trans rfl))
    exact ⟨rfl, Or.inl ⟨41, rfl, by unfold frame_readB; rw [if_neg q0, if_neg (fun h_ => h_ m0), if_neg q1_11, if_neg q12_1, if_neg q13_1, if_neg (fun h_ => hb13 (E13.out.trans h_)), ← E1.out, show decide (frame_numAt l 12 1 = 1) = false from decide_eq_false (fun h_ => hb12 (E12.out.trans h_)), frame_tailB, if_neg t14, if_neg (fun h_ => h_ m14), if_neg u14, ← E4.out, if_pos G8.out], by decide, HS.out.1⟩⟩
   have G8 := Aside0.mk g8
   obtain ⟨m4, hm4⟩ := Int.eq_ofNat_of_zero_le H4.out.1
   have hw8 : wrap64 (8 * n4) = ((8 * m4 : Nat) : Int) := by have := H4.out.2; unfold wrap64; omega
   have ht4 : n4.toNat = m4 := by omega
   have HW8 := Aside0.mk hw8
   have HT4 := Aside0.mk ht4
   have HM4 := Aside0.mk (show m4 ≤ 8 by omega)
   clear hw8 ht4 hm4
   go_wp2_with (first | ((with_reducible refine gate_store (t := 3) (p := 40) rfl ?_); refine HW.store_field rfl rfl 3 _ _ rfl rfl rfl rfl HS.out.2.2.1 (show (3 : Nat) < 5 by decide) (by kernel_rfl) rfl ?_; intro ws hk hg; have HS2 := Aside0.mk (HS.out.store (cs' := #[.bool false, .int .i64 n1, .bool false, .int .i64 n4, .slice none 0 0]) hk hg); have HW2 := Aside0.mk (Nat.le_trans HSW.out hg.size); clear hk hg HS HSW; have HS := HS2; have HSW := HW2; clear HS2 HW2; have k0 := HS.out.cell 0; have k1 := HS.out.cell 1; have k2 := HS.out.cell 2; have k3 := HS.out.cell 3; have k4 := HS.out.cell 4; replace k0 := k0.trans rfl; replace k1 := k1.trans rfl; replace k2 := k2.trans rfl; replace k3 := k3.trans rfl; replace k4 := k4.trans rfl))
   rw [HW8.out]
   by_cases t5 : l.length < 19 + 8 * m4
   ·refine (frame_take_short g A l.length c 19 (8 * m4) _ HS.out.2.1 (by omega) HN.out (by have := HM4.out; omega) (by omega)).mono ?_
    rintro e wp ⟨rfl, hg⟩
    have HP := Aside0.mk (HS.out.panic hg)
    clear hg
    go_wp2_with fail
    exact ⟨rfl, Or.inl ⟨40, rfl, by unfold frame_readB; rw [if_neg q0, if_neg (fun h_ => h_ m0), if_neg q1_11, if_neg q12_1, if_neg q13_1, if_neg (fun h_ => hb13 (E13.out.trans h_)), ← E1.out, show decide (frame_numAt l 12 1 = 1) = false from decide_eq_false (fun h_ => hb12 (E12.out.trans h_)), frame_tailB, if_neg t14, if_neg (fun h_ => h_ m14), if_neg u14, ← E4.out, if_neg (by have := G8.out; omega), if_neg (show ¬ (false = true) by decide), HT4.out, if_pos t5], by decide, HP.out⟩⟩
   obtain ⟨jb, hjb⟩ : ∃ x, x = H.joinB (frame_bitsAt l 19 (8 * m4)) := ⟨_, rfl⟩
   obtain ⟨KJ, hKJ⟩ := fb_join_k (frame_bitsAt l 19 (8 * m4)) (by rw [frame_bitsAt_len l _ _ (by omega)]; have := HM4.out; omega) (frame_w64 l HWL.out 19 (8 * m4))
   have hj := hKJ KJ (Nat.le_refl _)
   rw [← hjb] at hj
   have HJ := Aside0.mk hj
   have HJB := Aside0.mk hjb
   clear hj hKJ hjb
   refine (frame_take_ok g A l c 19 (8 * m4) w0 _ HG.out HS.out.1 HR.out HC.out HS.out.2.1 HN.out (by have := HM4.out; omega) (by omega)).mono ?_
   rintro e w19_ ⟨A1, n1_, c1, rfl, rfl, hc1, hC1, hR, hB, hG⟩
   have HC1 := Aside0.mk hc1
   have HCC := Aside0.mk hC1
   have HS2 := Aside0.mk (HS.out.call hR hB hG)
   have HW2 := Aside0.mk (Nat.le_trans HSW.out hG.size)
   clear hR hB hG HS HSW hc1 hC1 k0 k1 k2 k3 k4
   have HS := HS2
   have HSW := HW2
   clear HS2 HW2
   go_wp2_with fail
   refine (bits_Join.calls KJ A1 c1 (frame_bitsAt l 19 (8 * m4)) jb.1 jb.2 _ HCC.out HC1.out HJ.out).mono ?_
   rintro e w20_ ⟨v5, rfl, hO, hB⟩
   obtain ⟨A5, c5, rfl⟩ := Kd.R_slice hO
   have HO := Aside0.mk (Kd.R_lower hO (Nat.le_trans (Nat.le_add_right _ 2) HSW.out))
   have HS2 := Aside0.mk (HS.out.below hB)
   clear hO hB HS
   have HS := HS2
   clear HS2 HCC HC1 HJ
   have hgf : w.heap.size + 1 ≠ w.heap.size := by omega
   go_wp2_with (first | ((with_reducible refine gate_store (t := 22) (p := 57) rfl ?_); refine HW.store_field rfl rfl 22 _ _ rfl rfl rfl rfl HS.out.2.2.1 (show (4 : Nat) < 5 by decide) (by kernel_rfl) rfl ?_; intro ws hk hg; have HO2 := Aside0.mk (frame_R_far HO.out hg HS.out.2.2.1); clear HO; have HO := HO2; clear HO2; have HS2 := Aside0.mk (HS.out.store (cs' := #[.bool false, .int .i64 n1, .bool false, .int .i64 n4, .slice A5 jb.1.length c5]) hk hg); clear hk hg HS; have HS := HS2; clear HS2; (try clear k0 k1 k2 k3 k4); have k0 := HS.out.cell 0; have k1 := HS.out.cell 1; have k2 := HS.out.cell 2; have k3 := HS.out.cell 3; have k4 := HS.out.cell 4; replace k0 := k0.trans rfl; replace k1 := k1.trans rfl; replace k2 := k2.trans rfl; replace k3 := k3.trans rfl; replace k4 := k4.trans rfl) | ((with_reducible refine gate_store (t := 24) (p := 2) rfl ?_); refine HW.store_box' rfl rfl 24 _ _ rfl rfl rfl HS.out.2.2.2.1 rfl (by kernel_rfl) (by intro q hq; simp only [List.mem_cons, List.not_mem_nil, or_false] at hq; rcases hq with rfl | rfl | rfl | rfl | rfl <;> rfl) ?_; intro wz hk hg; have HO2 := Aside0.mk (frame_R_far HO.out hg HS.out.2.2.2.1); clear HO; have HO := HO2; clear HO2; have HZ := Aside0.mk hk; have HS2 := Aside0.mk (HS.out.result hg); clear hk hg HS; have HS := HS2; clear HS2))
   refine bodyPost_ret (results_cell_row rfl _ _ w.heap.size 24 _ (0, 0) _ rfl HZ.out Try.underlying24 rfl (by kernel_rfl)) rfl ?_
   exact Or.inr ⟨_, _, _, _, jb.1, _, _, rfl, by unfold frame_readB; rw [if_neg q0, if_neg (fun h_ => h_ m0), if_neg q1_11, if_neg q12_1, if_neg q13_1, if_neg (fun h_ => hb13 (E13.out.trans h_)), ← E1.out, show decide (frame_numAt l 12 1 = 1) = false from decide_eq_false (fun h_ => hb12 (E12.out.trans h_)), frame_tailB, if_neg t14, if_neg (fun h_ => h_ m14), if_neg u14, ← E4.out, if_neg (by have := G8.out; omega), if_neg (show ¬ (false = true) by decide), HT4.out, if_neg t5, ← HJB.out], HO.out, HS.out.2, HS.out.1⟩

/-! ### frame_Read: function 61 -/
theorem frame_as_yes (v : Value) (W : World) : (Instr.typeAssert (.iface 52 v) 20 52 true).run Try.prog W = .ok (.tuple #[v, .bool true]) W := by kernel_rfl
theorem frame_as_nil (W : World) : (Instr.typeAssert .nilIface 20 52 true).run Try.prog W = .ok (.tuple #[.int .i64 0, .bool false]) W := by kernel_rfl
/-- Operations of a deferred call that are still to be made (folded). -/
structure frame_OpsS (P : Program) (ops : Array Oper) (Q : Exit → Act → List Frame → World → Prop) (l : List Nat) (a : Act) (cs : List Frame) (w : World) : Prop where
 out : wpOpsS P ops Q l a cs w
theorem frame_opsS_step {P : Program} {ops : Array Oper} {Q : Exit → Act → List Frame → World → Prop} {i : Nat} {rest : List Nat} {a : Act} {cs : List Frame} {w w' : World} {o : Oper} {v : Value} (ho : ops[i]? = some o) (hw : Region.wanted o (yielded ops a.tmps) = true)
  (hr : (execOp a.eval o).run P w = .ok (.value v) w') {a' : Act} (ha : a.put o.dst v = a') (h : frame_OpsS P ops Q rest a' cs w') : frame_OpsS P ops Q (i :: rest) a cs w := by
 subst ha
 obtain ⟨h⟩ := h
 constructor
 simp only [wpOpsS, ho, hw, if_true, hr, Oper.upon]
 exact h
theorem frame_opsS_recover {P : Program} {ops : Array Oper} {Q : Exit → Act → List Frame → World → Prop} {i : Nat} {rest : List Nat} {a : Act} {cs cs' : List Frame} {w w' : World} {o : Oper} {v : Value} (ho : ops[i]? = some o) (hw : Region.wanted o (yielded ops a.tmps) = true)
  (hr : (execOp a.eval o).run P w = .ok .recover w') (hc : recoverD cs = some (v, cs')) {a' : Act} (ha : a.put o.dst v = a') (h : frame_OpsS P ops Q rest a' cs' w') : frame_OpsS P ops Q (i :: rest) a cs w := by
 subst ha
 obtain ⟨h⟩ := h
 constructor
 simp only [wpOpsS, ho, hw, if_true, hr, hc]
 exact h
theorem frame_opsS_none {P : Program} {ops : Array Oper} {Q : Exit → Act → List Frame → World → Prop} {i : Nat} {rest : List Nat} {a : Act} {cs : List Frame} {w w' : World} {o : Oper} (ho : ops[i]? = some o) (hw : Region.wanted o (yielded ops a.tmps) = true)
  (hr : (execOp a.eval o).run P w = .ok .recover w') (hc : recoverD cs = none) {a' : Act} (ha : a.put o.dst .nilIface = a') (h : frame_OpsS P ops Q rest a' cs w') : frame_OpsS P ops Q (i :: rest) a cs w := by
 subst ha
 obtain ⟨h⟩ := h
 constructor
 simp only [wpOpsS, ho, hw, if_true, hr, hc]
 exact h
theorem frame_opsS_end {P : Program} {ops : Array Oper} {Q : Exit → Act → List Frame → World → Prop} {a : Act} {cs : List Frame} {w : World} (h : Q .normal a cs w) : frame_OpsS P ops Q [] a cs w := ⟨h⟩
theorem frame_exec_as {P : Program} {w w' : World} {a : Act} {o : Oper} {x : Operand} {t u : TypeId} {v : Value} (ho : o.op = .typeAssert x t u true) (h : (Instr.typeAssert (a.eval x) t u true).run P w = .ok v w') : (execOp a.eval o).run P w = .ok (.value v) w' := by
 unfold execOp
 simp only [ho, Sem.run_bind, h, Result.andThen_ok, Sem.run_pure]
set_option maxHeartbeats 1600000 in
set_option maxRecDepth 100000 in
theorem frame_catch_panic (z0 z1 z2 : Nat) (x : Int) (older : List PanicEntry) (w : World) (h0 : w.heap[z0]? = some (.cells frame_zs 24 (0, 0))) (h1 : w.heap[z1]? = some (.cells #[.int .i64 0] 3 (0, 0))) (h2 : w.heap[z2]? = some (.cells #[.int .i64 0] 52 (0, 0))) (hne : z0 ≠ z1 ∧ z0 ≠ z2 ∧ z1 ≠ z2) :
  CallsD Try.prog 63 #[.pointer (some ⟨z0, 0, none⟩), .pointer (some ⟨z1, 0, none⟩), .pointer (some ⟨z2, 0, none⟩)] (.panicking ({ v := .iface 52 (.int .i64 x), recovered := false } :: older)) w fun e u' w' =>
   e = .returned (.tuple #[]) ∧ u' = .panicking ({ v := .iface 52 (.int .i64 x), recovered := true } :: older) ∧ w'.heap[z0]? = some (.cells frame_zs 24 (0, 0)) ∧ w'.heap[z1]? = some (.cells #[.int .i64 0] 3 (0, 0)) ∧ w'.heap[z2]? = some (.cells #[.int .i64 x] 52 (0, 0)) ∧
    (∀ B w0, B ≤ z0 → B ≤ z1 → B ≤ z2 → Below B w0 w → Below B w0 w') := by
 refine callsD_of_wpS Try.func63 rfl fun c₀ cs hu => ?_
 show Code.wpS _ _ _ ({ tmps := #[.pointer (some ⟨z0, 0, none⟩), .pointer (some ⟨z1, 0, none⟩), .pointer (some ⟨z2, 0, none⟩), undef, undef, undef, undef, undef, undef, undef, undef, undef, undef], defers := [] } : Act) _ _
 apply wpS_seq
 refine wpS_region (frame_OpsS.out (l := [0, 1, 2, 3, 4, 5, 6]) ?_)
 refine frame_opsS_recover (cs' := { c₀ with mode := .panicking ({ v := .iface 52 (.int .i64 x), recovered := true } :: older) } :: cs) (v := .iface 52 (.int .i64 x)) rfl (by rfl) rfl (by simp [recoverD, hu]) (a' := ({ tmps := #[.pointer (some ⟨z0, 0, none⟩), .pointer (some ⟨z1, 0, none⟩), .pointer (some ⟨z2, 0, none⟩), undef, undef, undef, .iface 52 (.int .i64 x), undef, undef, undef, undef, undef, undef], defers := [] } : Act)) rfl ?_
 refine frame_opsS_step (w' := w) (v := .tuple #[.int .i64 x, .bool true]) rfl (by rfl) (frame_exec_as rfl (frame_as_yes (.int .i64 x) w)) (a' := ({ tmps := #[.pointer (some ⟨z0, 0, none⟩), .pointer (some ⟨z1, 0, none⟩), .pointer (some ⟨z2, 0, none⟩), undef, undef, undef, .iface 52 (.int .i64 x), .tuple #[.int .i64 x, .bool true], undef, undef, undef, undef, undef], defers := [] } : Act)) rfl ?_
 refine frame_opsS_step (w' := w) (v := .tuple #[.int .i64 x, .bool true]) rfl (by rfl) rfl (a' := ({ tmps := #[.pointer (some ⟨z0, 0, none⟩), .pointer (some ⟨z1, 0, none⟩), .pointer (some ⟨z2, 0, none⟩), undef, undef, .tuple #[.int .i64 x, .bool true], .iface 52 (.int .i64 x), .tuple #[.int .i64 x, .bool true], undef, undef, undef, undef, undef], defers := [] } : Act)) rfl ?_
 refine frame_opsS_step (w' := w) (v := .int .i64 x) rfl (by rfl) rfl (a' := ({ tmps := #[.pointer (some ⟨z0, 0, none⟩), .pointer (some ⟨z1, 0, none⟩), .pointer (some ⟨z2, 0, none⟩), undef, undef, .tuple #[.int .i64 x, .bool true], .iface 52 (.int .i64 x), .tuple #[.int .i64 x, .bool true], .int .i64 x, undef, undef, undef, undef], defers := [] } : Act)) rfl ?_
 refine frame_opsS_step (w' := w) (v := .bool true) rfl (by rfl) rfl (a' := ({ tmps := #[.pointer (some ⟨z0, 0, none⟩), .pointer (some ⟨z1, 0, none⟩), .pointer (some ⟨z2, 0, none⟩), undef, undef, .tuple #[.int .i64 x, .bool true], .iface 52 (.int .i64 x), .tuple #[.int .i64 x, .bool true], .int .i64 x, .bool true, undef, undef, undef], defers := [] } : Act)) rfl ?_
 refine frame_opsS_step (w' := w) (v := .int .i64 x) rfl (by rfl) rfl (a' := ({ tmps := #[.pointer (some ⟨z0, 0, none⟩), .pointer (some ⟨z1, 0, none⟩), .pointer (some ⟨z2, 0, none⟩), .int .i64 x, undef, .tuple #[.int .i64 x, .bool true], .iface 52 (.int .i64 x), .tuple #[.int .i64 x, .bool true], .int .i64 x, .bool true, undef, undef, undef], defers := [] } : Act)) rfl ?_
 refine frame_opsS_step (w' := w) (v := .bool true) rfl (by rfl) rfl (a' := ({ tmps := #[.pointer (some ⟨z0, 0, none⟩), .pointer (some ⟨z1, 0, none⟩), .pointer (some ⟨z2, 0, none⟩), .int .i64 x, .bool true, .tuple #[.int .i64 x, .bool true], .iface 52 (.int .i64 x), .tuple #[.int .i64 x, .bool true], .int .i64 x, .bool true, undef, undef, undef], defers := [] } : Act)) rfl ?_
 refine frame_opsS_end ?_
 refine wpS_of_wp ?_
 have hu24 := Try.underlying24
 have HB0 := Aside0.mk h0
 have HB1 := Aside0.mk h1
 have HB2 := Aside0.mk h2
 have HNE := Aside0.mk hne
 have HU := Aside0.mk hu
 clear h0 h1 h2 hne hu
 have HL := Aside0.mk (fun (B : Nat) (w0 : World) (a : B ≤ z0) (b : B ≤ z1) (c : B ≤ z2) (h : Below B w0 w) => h)
 go_wp2_with (first | ((with_reducible refine gate_store (t := 24) (p := 0) rfl ?_); refine HW.store_box' rfl rfl 24 _ _ rfl rfl rfl HB0.out rfl (by kernel_rfl) (by intro q hq; simp only [List.mem_cons, List.not_mem_nil, or_false] at hq; rcases hq with rfl | rfl | rfl | rfl | rfl <;> rfl) ?_; intro w1 hk hg; have HL2 := Aside0.mk (fun (B : Nat) (w0 : World) (a : B ≤ z0) (b : B ≤ z1) (c : B ≤ z2) (h : Below B w0 w) => (HL.out B w0 a b c h).grown hg (Nat.le_trans a (Nat.le_of_lt (blk_lt HB0.out))) (fun k he => by injection he with he; omega)); have HC0 := Aside0.mk hk; have HC1 := Aside0.mk (blk_grown HB1.out hg (fun e => by injection e with e; exact HNE.out.1 e.symm)); have HC2 := Aside0.mk (blk_grown HB2.out hg (fun e => by injection e with e; exact HNE.out.2.1 e.symm)); clear HB0 HB1 HB2 HL hk hg; have HB0 := HC0; have HB1 := HC1; have HB2 := HC2; have HL := HL2; clear HC0 HC1 HC2 HL2) | ((with_reducible refine gate_store (t := 3) (p := 1) rfl ?_); refine HW.store_field rfl rfl 3 _ _ rfl rfl rfl rfl HB1.out (show (0 : Nat) < 1 by decide) (by kernel_rfl) rfl ?_; intro w1 hk hg; have HL2 := Aside0.mk (fun (B : Nat) (w0 : World) (a : B ≤ z0) (b : B ≤ z1) (c : B ≤ z2) (h : Below B w0 w) => (HL.out B w0 a b c h).grown hg (Nat.le_trans a (Nat.le_of_lt (blk_lt HB0.out))) (fun k he => by injection he with he; omega)); have HC0 := Aside0.mk (blk_grown HB0.out hg (fun e => by injection e with e; exact HNE.out.1 e)); have HC1 := Aside0.mk hk; have HC2 := Aside0.mk (blk_grown HB2.out hg (fun e => by injection e with e; exact HNE.out.2.2 e.symm)); clear HB0 HB1 HB2 HL hk hg; have HB0 := HC0; have HB1 := HC1; have HB2 := HC2; have HL := HL2; clear HC0 HC1 HC2 HL2) | ((with_reducible refine gate_store (t := 52) (p := 2) rfl ?_); refine HW.store_field rfl rfl 52 _ _ rfl rfl rfl rfl HB2.out (show (0 : Nat) < 1 by decide) (by kernel_rfl) rfl ?_; intro w1 hk hg; have HL2 := Aside0.mk (fun (B : Nat) (w0 : World) (a : B ≤ z0) (b : B ≤ z1) (c : B ≤ z2) (h : Below B w0 w) => (HL.out B w0 a b c h).grown hg (Nat.le_trans a (Nat.le_of_lt (blk_lt HB0.out))) (fun k he => by injection he with he; omega)); have HC0 := Aside0.mk (blk_grown HB0.out hg (fun e => by injection e with e; exact HNE.out.2.1 e)); have HC1 := Aside0.mk (blk_grown HB1.out hg (fun e => by injection e with e; exact HNE.out.2.2 e)); have HC2 := Aside0.mk hk; clear HB0 HB1 HB2 HL hk hg; have HB0 := HC0; have HB1 := HC1; have HB2 := HC2; have HL := HL2; clear HC0 HC1 HC2 HL2))
 exact ⟨rfl, _, rfl, _, results_none rfl _ _ _, rfl, rfl, HB0.out, HB1.out, HB2.out, HL.out⟩
set_option maxHeartbeats 1600000 in
set_option maxRecDepth 100000 in
theorem frame_catch_idle (z0 z1 z2 : Nat) (w : World) :
  CallsD Try.prog 63 #[.pointer (some ⟨z0, 0, none⟩), .pointer (some ⟨z1, 0, none⟩), .pointer (some ⟨z2, 0, none⟩)] .returning w fun e u' w' => e = .returned (.tuple #[]) ∧ u' = .returning ∧ w' = w := by
 refine callsD_of_wpS Try.func63 rfl fun c₀ cs hu => ?_
 show Code.wpS _ _ _ ({ tmps := #[.pointer (some ⟨z0, 0, none⟩), .pointer (some ⟨z1, 0, none⟩), .pointer (some ⟨z2, 0, none⟩), undef, undef, undef, undef, undef, undef, undef, undef, undef, undef], defers := [] } : Act) _ _
 apply wpS_seq
 refine wpS_region (frame_OpsS.out (l := [0, 1, 2, 3, 4, 5, 6]) ?_)
 refine frame_opsS_none rfl (by rfl) rfl (by simp [recoverD, hu]) (a' := ({ tmps := #[.pointer (some ⟨z0, 0, none⟩), .pointer (some ⟨z1, 0, none⟩), .pointer (some ⟨z2, 0, none⟩), undef, undef, undef, .nilIface, undef, undef, undef, undef, undef, undef], defers := [] } : Act)) rfl ?_
 refine frame_opsS_step (w' := w) (v := .tuple #[.int .i64 0, .bool false]) rfl (by rfl) (frame_exec_as rfl (frame_as_nil w)) (a' := ({ tmps := #[.pointer (some ⟨z0, 0, none⟩), .pointer (some ⟨z1, 0, none⟩), .pointer (some ⟨z2, 0, none⟩), undef, undef, undef, .nilIface, .tuple #[.int .i64 0, .bool false], undef, undef, undef, undef, undef], defers := [] } : Act)) rfl ?_
 refine frame_opsS_step (w' := w) (v := .tuple #[.int .i64 0, .bool false]) rfl (by rfl) rfl (a' := ({ tmps := #[.pointer (some ⟨z0, 0, none⟩), .pointer (some ⟨z1, 0, none⟩), .pointer (some ⟨z2, 0, none⟩), undef, undef, .tuple #[.int .i64 0, .bool false], .nilIface, .tuple #[.int .i64 0, .bool false], undef, undef, undef, undef, undef], defers := [] } : Act)) rfl ?_
 refine frame_opsS_step (w' := w) (v := .int .i64 0) rfl (by rfl) rfl (a' := ({ tmps := #[.pointer (some ⟨z0, 0, none⟩), .pointer (some ⟨z1, 0, none⟩), .pointer (some ⟨z2, 0, none⟩), undef, undef, .tuple #[.int .i64 0, .bool false], .nilIface, .tuple #[.int .i64 0, .bool false], .int .i64 0, undef, undef, undef, undef], defers := [] } : Act)) rfl ?_
 refine frame_opsS_step (w' := w) (v := .bool false) rfl (by rfl) rfl (a' := ({ tmps := #[.pointer (some ⟨z0, 0, none⟩), .pointer (some ⟨z1, 0, none⟩), .pointer (some ⟨z2, 0, none⟩), undef, undef, .tuple #[.int .i64 0, .bool false], .nilIface, .tuple #[.int .i64 0, .bool false], .int .i64 0, .bool false, undef, undef, undef], defers := [] } : Act)) rfl ?_
 refine frame_opsS_step (w' := w) (v := .int .i64 0) rfl (by rfl) rfl (a' := ({ tmps := #[.pointer (some ⟨z0, 0, none⟩), .pointer (some ⟨z1, 0, none⟩), .pointer (some ⟨z2, 0, none⟩), .int .i64 0, undef, .tuple #[.int .i64 0, .bool false], .nilIface, .tuple #[.int .i64 0, .bool false], .int .i64 0, .bool false, undef, undef, undef], defers := [] } : Act)) rfl ?_
 refine frame_opsS_step (w' := w) (v := .bool false) rfl (by rfl) rfl (a' := ({ tmps := #[.pointer (some ⟨z0, 0, none⟩), .pointer (some ⟨z1, 0, none⟩), .pointer (some ⟨z2, 0, none⟩), .int .i64 0, .bool false, .tuple #[.int .i64 0, .bool false], .nilIface, .tuple #[.int .i64 0, .bool false], .int .i64 0, .bool false, undef, undef, undef], defers := [] } : Act)) rfl ?_
 refine frame_opsS_end ?_
 refine wpS_of_wp ?_
 have HU := Aside0.mk hu
 clear hu
 go_wp2_with fail
 have hu := HU.out
 refine ⟨rfl, .returning, ?_, _, results_none rfl _ _ _, rfl, rfl, rfl⟩
 cases c₀
 simp_all
def frame_Read.f (l : List Int) : Option (Bool × Int × Bool × Int × List Int × Int × Int) :=
 if l.length ≤ 1073741824 then (if l.all (fun x => decide (-9223372036854775808 ≤ x ∧ x ≤ 9223372036854775807)) = true then some ((frame_readB l).2.1, (frame_readB l).2.2.1, (frame_readB l).2.2.2.1, (frame_readB l).2.2.2.2.1, (frame_readB l).2.2.2.2.2.1, ((frame_readB l).2.2.2.2.2.2 : Int), (frame_readB l).1) else none) else none
theorem frame_load_one {P : Program} (w : World) (g ty : Nat) (v : Value) (d : TypeDesc) (hc : w.cell? ⟨g, 0, none⟩ = some v) (hu : P.underlying ty = some d) (hd : (match d with | .struct _ | .array _ _ => true | _ => false) = false) : (loadVar ty ⟨g, 0, none⟩).run P w = .ok v w := by
 have hagg : (isAgg ty).run P w = .ok false w := by
  unfold isAgg
  rw [Sem.run_bind, run_underlying hu w]
  cases d <;> simp_all
 simp [loadVar, Sem.run_bind, hagg, go_sem, hc]
theorem frame_results3 {P : Program} {fn : Func} {p0 p1 p2 : Tmp} {t0 t1 t2 : TypeId} (h : fn.results = #[.cell p0 t0, .cell p1 t1, .cell p2 t2]) (tmps : Array Value) (w : World) (z0 z1 z2 : Nat) (cs : Array Value) (t : TypeId) (v1 v2 : Value) (d d1 d2 : TypeDesc)
  (hp0 : tmps.getD p0 undef = .pointer (some ⟨z0, 0, none⟩)) (hp1 : tmps.getD p1 undef = .pointer (some ⟨z1, 0, none⟩)) (hp2 : tmps.getD p2 undef = .pointer (some ⟨z2, 0, none⟩)) (h0 : w.heap[z0]? = some (.cells cs t (0, 0))) (h1 : w.cell? ⟨z1, 0, none⟩ = some v1) (h2 : w.cell? ⟨z2, 0, none⟩ = some v2)
  (hu : P.underlying t0 = some d) (hd : (match d with | .struct _ | .array _ _ => true | _ => false) = true) (hi : (P.info? t0).map (·.size) = some cs.size) (hu1 : P.underlying t1 = some d1) (hd1 : (match d1 with | .struct _ | .array _ _ => true | _ => false) = false) (hu2 : P.underlying t2 = some d2) (hd2 : (match d2 with | .struct _ | .array _ _ => true | _ => false) = false) :
  (results fn tmps).run P w = .ok (.tuple #[.agg cs, v1, v2]) w := by
 rw [Array.getD_eq_getD_getElem?] at hp0 hp1 hp2
 simp [results, h, hp0, hp1, hp2, asAddr, run_loadVar_row w z0 t t0 cs (0, 0) d h0 hu hd hi, frame_load_one w z1 t1 v1 d1 h1 hu1 hd1, frame_load_one w z2 t2 v2 d2 h2 hu2 hd2]
theorem frame_errs {l : List Int} {v : Int} (h : frame_readB l = frame_err v) : (frame_readB l).2.1 = false ∧ (frame_readB l).2.2.1 = 0 ∧ (frame_readB l).2.2.2.1 = false ∧ (frame_readB l).2.2.2.2.1 = 0 ∧ (frame_readB l).2.2.2.2.2.1 = [] ∧ (frame_readB l).2.2.2.2.2.2 = 0 ∧ (frame_readB l).1 = v := by
 rw [h]; exact ⟨rfl, rfl, rfl, rfl, rfl, rfl, rfl⟩
/-- How the results stand at the end: their three blocks, the frame's bytes. -/
def frame_End (w0 W : World) (Z0 Z1 Z2 : Nat) (c0 : Array Value) (v1 v2 v5 : Value) (r5 : List Int) : Prop :=
 Below w0.heap.size w0 W ∧ W.heap[Z0]? = some (.cells c0 24 (0, 0)) ∧ W.heap[Z1]? = some (.cells #[v1] 3 (0, 0)) ∧ W.heap[Z2]? = some (.cells #[v2] 52 (0, 0)) ∧ Kd.R (Kd.int .u8) 5 W w0.heap.size (fun _ => True) v5 r5 ∧ w0.heap.size ≤ Z0 ∧ w0.heap.size ≤ Z1 ∧ w0.heap.size ≤ Z2 ∧ Z0 ≠ Z1 ∧ Z0 ≠ Z2 ∧ Z1 ≠ Z2
theorem frame_End.set0 {w0 W : World} {Z0 Z1 Z2 : Nat} {c0 : Array Value} {v1 v2 v5 : Value} {r5 : List Int} (h : frame_End w0 W Z0 Z1 Z2 c0 v1 v2 v5 r5) (j : Nat) (v : Value) {c1 : Array Value} (e : c0.setIfInBounds j v = c1) : frame_End w0 (W.setCell ⟨Z0, j, none⟩ v) Z0 Z1 Z2 c1 v1 v2 v5 r5 := by
 obtain ⟨h1, h2, h3, h4, h5, h6, h7, h8, h9, h10, h11⟩ := h
 exact ⟨h1.setCell (p := ⟨Z0, j, none⟩) h6 v, blk_put h2 j v e, blk_far h3 (p := ⟨Z0, j, none⟩) (fun e => h9 e.symm) v, blk_far h4 (p := ⟨Z0, j, none⟩) (fun e => h10 e.symm) v, Kd.R_set h5 h2 (by decide) j v, h6, h7, h8, h9, h10, h11⟩
theorem frame_End.set1 {w0 W : World} {Z0 Z1 Z2 : Nat} {c0 : Array Value} {v1 v2 v5 : Value} {r5 : List Int} (h : frame_End w0 W Z0 Z1 Z2 c0 v1 v2 v5 r5) (v : Value) : frame_End w0 (W.setCell ⟨Z1, 0, none⟩ v) Z0 Z1 Z2 c0 v v2 v5 r5 := by
 obtain ⟨h1, h2, h3, h4, h5, h6, h7, h8, h9, h10, h11⟩ := h
 exact ⟨h1.setCell (p := ⟨Z1, 0, none⟩) h7 v, blk_far h2 (p := ⟨Z1, 0, none⟩) h9 v, blk_put h3 0 v rfl, blk_far h4 (p := ⟨Z1, 0, none⟩) (fun e => h11 e.symm) v, Kd.R_set h5 h3 (by decide) 0 v, h6, h7, h8, h9, h10, h11⟩
theorem frame_End.set2 {w0 W : World} {Z0 Z1 Z2 : Nat} {c0 : Array Value} {v1 v2 v5 : Value} {r5 : List Int} (h : frame_End w0 W Z0 Z1 Z2 c0 v1 v2 v5 r5) (v : Value) : frame_End w0 (W.setCell ⟨Z2, 0, none⟩ v) Z0 Z1 Z2 c0 v1 v v5 r5 := by
 obtain ⟨h1, h2, h3, h4, h5, h6, h7, h8, h9, h10, h11⟩ := h
 exact ⟨h1.setCell (p := ⟨Z2, 0, none⟩) h8 v, blk_far h2 (p := ⟨Z2, 0, none⟩) h10 v, blk_far h3 (p := ⟨Z2, 0, none⟩) h11 v, blk_put h4 0 v rfl, Kd.R_set h5 h4 (by decide) 0 v, h6, h7, h8, h9, h10, h11⟩
theorem frame_End.drew {w0 W : World} {Z0 Z1 Z2 : Nat} {c0 : Array Value} {v1 v2 v5 : Value} {r5 : List Int} (h : frame_End w0 W Z0 Z1 Z2 c0 v1 v2 v5 r5) : frame_End w0 W.drew Z0 Z1 Z2 c0 v1 v2 v5 r5 := by
 obtain ⟨h1, h2, h3, h4, h5, h6⟩ := h
 exact ⟨below_drew h1, h2, h3, h4, Kd.R_drew h5, h6⟩
set_option maxHeartbeats 3200000 in
set_option maxRecDepth 100000 in
theorem frame_Read_at (A0 : Option Addr) (c0 : Nat) (l : List Int) (w : World) (hr0 : Kd.C (Kd.int .i64) w A0 l.length l) (hc0 : l.length ≤ c0) (hn : l.length ≤ 1073741824) (hw : ∀ x ∈ l, H.W64 x) :
  Calls Try.prog 61 #[.slice A0 l.length c0] w fun e w' => ∃ v4_ : Value, e = .returned (.tuple #[.agg #[.bool (frame_readB l).2.1, .int .i64 (frame_readB l).2.2.1, .bool (frame_readB l).2.2.2.1, .int .i64 (frame_readB l).2.2.2.2.1, v4_], .int .i64 ((frame_readB l).2.2.2.2.2.2 : Int), .int .i64 (frame_readB l).1]) ∧ Kd.R (Kd.int .u8) 5 w' w.heap.size (fun _ => True) v4_ (frame_readB l).2.2.2.2.2.1 ∧ Below w.heap.size w w' := by
 have hmf : ∀ (fn : Fn) (first cap : Array Value) (w : World), (Instr.makeFunc fn first cap).run Try.prog w = .ok (.func fn first cap) w := fun _ _ _ _ => rfl
 have hu := Try.underlying24
 have hu2 := Try.underlying89
 obtain ⟨W3, hW3⟩ : ∃ W3, W3 = ((w.alloc (.cells frame_zs 24 (0, 0))).alloc (.cells #[.int .i64 0] 3 (0, 0))).alloc (.cells #[.int .i64 0] 52 (0, 0)) := ⟨_, rfl⟩
 have hs3 : W3.heap.size = w.heap.size + 1 + 1 + 1 := by rw [hW3, World.size_alloc, World.size_alloc, World.size_alloc]
 have hb3 : Below w.heap.size w W3 := hW3 ▸ below_alloc (below_alloc (below_alloc (Below.refl _ _) _) _) _
 have k0 : W3.heap[w.heap.size]? = some (.cells frame_zs 24 (0, 0)) := hW3 ▸ blk_alloc (blk_alloc (blk_new _ _) _) _
 have k1 : W3.heap[w.heap.size + 1]? = some (.cells #[.int .i64 0] 3 (0, 0)) := by
  have := blk_new (w.alloc (.cells frame_zs 24 (0, 0))) (.cells #[.int .i64 0] 3 (0, 0))
  rw [World.size_alloc] at this
  exact hW3 ▸ blk_alloc this _
 have k2 : W3.heap[w.heap.size + 1 + 1]? = some (.cells #[.int .i64 0] 52 (0, 0)) := by
  have := blk_new ((w.alloc (.cells frame_zs 24 (0, 0))).alloc (.cells #[.int .i64 0] 3 (0, 0))) (.cells #[.int .i64 0] 52 (0, 0))
  rw [World.size_alloc, World.size_alloc] at this
  exact hW3 ▸ this
 have k3 := blk_new W3 (.cells #[.slice A0 l.length c0, .int .i64 0] 89 (0, 0))
 rw [hs3] at k3
 have hf := frame_frame (w.heap.size + 1 + 1 + 1) A0 l c0 W3 (W3.alloc (.cells #[.slice A0 l.length c0, .int .i64 0] 89 (0, 0))) (by omega) (below_alloc (Below.refl _ _) _) (Kd.C_below hr0 hb3) hc0 k3 hn hw
 have HF := Aside0.mk hf
 have HB3 := Aside0.mk hb3
 have K0 := Aside0.mk k0
 have K1 := Aside0.mk k1
 have K2 := Aside0.mk k2
 have HS3 := Aside0.mk hs3
 rw [hW3] at HF
 have HW3 := Aside0.mk hW3
 clear hf hb3 k0 k1 k2 k3 hs3 hr0 hc0 hn hw hW3
 go_enter_defers Try.func61, Try.ntmps61
 go_wp2_with fail
 refine HF.out.mono ?_
 rw [← HW3.out]
 rintro e w1 (⟨v, rfl, hv, _, hB1⟩ | ⟨b1, n2, b3, n4, r5, at_, v5, rfl, hrd, hO, hR1, hB1⟩)
 ·have HV := Aside0.mk hv
  have HB1 := Aside0.mk hB1
  clear hv hB1 HF
  go_wp2_with fail
  have hB1 := HB1.out
  have hs3 := HS3.out
  refine leaves_cons (f := 63) (args := #[.pointer (some ⟨w.heap.size, 0, none⟩), .pointer (some ⟨w.heap.size + 1, 0, none⟩), .pointer (some ⟨w.heap.size + 1 + 1, 0, none⟩)]) (by simp) (by simp [go_sem]) ?_
  refine (frame_catch_panic w.heap.size (w.heap.size + 1) (w.heap.size + 1 + 1) v [] w1 (blk_below K0.out hB1) (blk_below K1.out hB1) (blk_below K2.out hB1) (by omega)).mono ?_
  rintro e u' w2 ⟨rfl, rfl, q0, q1, q2, hL⟩
  obtain ⟨e1, e2, e3, e4, e5, e6, e7⟩ := frame_errs HV.out
  refine ⟨_, frame_results3 rfl _ _ w.heap.size (w.heap.size + 1) (w.heap.size + 1 + 1) frame_zs 24 (.int .i64 0) (.int .i64 v) _ _ _ rfl rfl rfl q0 ((blk_cell q1 0).trans rfl) ((blk_cell q2 0).trans rfl) Try.underlying24 rfl (by kernel_rfl) Try.underlying3 rfl Try.underlying52 rfl, ?_⟩
  refine ⟨.slice none 0 0, ?_, ?_, hL _ _ (Nat.le_refl _) (Nat.le_succ _) (by omega) (HB3.out.trans (hB1.mono HB3.out.size))⟩
  ·rw [e1, e2, e3, e4, e6, e7]; rfl
  ·rw [e5]; exact Kd.R_nil _ _ _ _ _
 ·obtain ⟨A5, c5, rfl⟩ := Kd.R_slice hO
  have hs3 := HS3.out
  have HRD := Aside0.mk hrd
  have HO := Aside0.mk (Kd.R_lower hO (show w.heap.size ≤ _ by rw [World.size_alloc]; omega))
  have HG := Aside0.mk hR1
  have J0 := Aside0.mk (blk_below K0.out hB1)
  have J1 := Aside0.mk (blk_below K1.out hB1)
  have J2 := Aside0.mk (blk_below K2.out hB1)
  have HB := Aside0.mk (HB3.out.trans (hB1.mono HB3.out.size))
  clear hrd hO hR1 hB1 HF HB3 K0 K1 K2 hs3
  go_wp2_with (first | ((with_reducible refine gate_store (t := 24) (p := 2) rfl ?_); refine HW.store_box' rfl rfl 24 _ _ rfl rfl rfl J0.out rfl (by kernel_rfl) (by intro q hq; simp only [List.mem_cons, List.not_mem_nil, or_false] at hq; rcases hq with rfl | rfl | rfl | rfl | rfl <;> rfl) ?_; intro wz hk hg; have HO2 := Aside0.mk (frame_R_far HO.out hg J0.out); have HG2 := Aside0.mk (blk_grown HG.out hg (fun e => by injection e with e; omega)); have L1 := Aside0.mk (blk_grown J1.out hg (fun e => by injection e with e; omega)); have L2 := Aside0.mk (blk_grown J2.out hg (fun e => by injection e with e; omega)); have HB2 := Aside0.mk (HB.out.grown hg HB.out.size (fun k he => by injection he with he; omega)); have L0 := Aside0.mk hk; clear hk hg HO HG J0 J1 J2 HB; have z00 := (blk_cell L0.out 0).trans rfl; have z01 := (blk_cell L0.out 1).trans rfl; have z02 := (blk_cell L0.out 2).trans rfl; have z03 := (blk_cell L0.out 3).trans rfl; have z04 := (blk_cell L0.out 4).trans rfl; have y00 := blk_frozen L0.out 0; have y01 := blk_frozen L0.out 1; have y02 := blk_frozen L0.out 2; have y03 := blk_frozen L0.out 3; have y04 := blk_frozen L0.out 4; have z10 := (blk_cell L1.out 0).trans rfl; have y10 := blk_frozen L1.out 0; have z20 := (blk_cell L2.out 0).trans rfl; have y20 := blk_frozen L2.out 0; have zg := (blk_cell HG2.out 1).trans rfl))
  go_region
  go_wp2_with fail
  have hE : frame_End w wz w.heap.size (w.heap.size + 1) (w.heap.size + 1 + 1) #[.bool b1, .int .i64 n2, .bool b3, .int .i64 n4, .slice A5 r5.length c5] (.int .i64 0) (.int .i64 0) (.slice A5 r5.length c5) r5 :=
   ⟨HB2.out, L0.out, L1.out, L2.out, HO2.out, Nat.le_refl _, by omega, by omega, by omega, by omega, by omega⟩
  have hE2 := (((((((hE.set0 0 (.bool b1) rfl).set0 1 (.int .i64 n2) rfl).set0 2 (.bool b3) rfl).set0 3 (.int .i64 n4) rfl).set0 4 (.slice A5 r5.length c5) rfl).set1 (.int .i64 (at_ : Int))).set2 (.int .i64 0)).drew
  refine leaves_cons (f := 63) (args := #[.pointer (some ⟨w.heap.size, 0, none⟩), .pointer (some ⟨w.heap.size + 1, 0, none⟩), .pointer (some ⟨w.heap.size + 1 + 1, 0, none⟩)]) (by simp) (by simp [go_sem]) ?_
  refine (frame_catch_idle w.heap.size (w.heap.size + 1) (w.heap.size + 1 + 1) _).mono ?_
  rintro e u' w2 ⟨rfl, rfl, rfl⟩
  obtain ⟨q1, q2, q3, q4, q5, _⟩ := hE2
  refine ⟨_, frame_results3 rfl _ _ w.heap.size (w.heap.size + 1) (w.heap.size + 1 + 1) #[.bool b1, .int .i64 n2, .bool b3, .int .i64 n4, .slice A5 r5.length c5] 24 (.int .i64 (at_ : Int)) (.int .i64 0) _ _ _ rfl rfl rfl q2 ((blk_cell q3 0).trans rfl) ((blk_cell q4 0).trans rfl) Try.underlying24 rfl (by kernel_rfl) Try.underlying3 rfl Try.underlying52 rfl, ?_⟩
  rw [HRD.out]
  exact ⟨_, rfl, q5, q1⟩
theorem frame_Read.calls (A0 : Option Addr) (c0 : Nat) (l0 : List Int) (r1 : Bool) (r2 : Int) (r3 : Bool) (r4 : Int) (r5 : List Int) (r6 : Int) (r7 : Int) (w : World) (hr0 : Kd.C (Kd.int .i64) w A0 l0.length l0) (hc0 : l0.length ≤ c0) (h : frame_Read.f l0 = some (r1, r2, r3, r4, r5, r6, r7)) :
  Calls Try.prog 61 #[.slice A0 l0.length c0] w fun e w' => ∃ v4_ : Value, e = .returned (.tuple #[.agg #[.bool r1, .int .i64 r2, .bool r3, .int .i64 r4, v4_], .int .i64 r6, .int .i64 r7]) ∧ Kd.R (Kd.int .u8) 5 w' w.heap.size (fun _ => True) v4_ r5 ∧ Below w.heap.size w w' := by
 unfold frame_Read.f at h
 split at h
 case isFalse => cases h
 case isTrue hl =>
  split at h
  case isFalse => cases h
  case isTrue hw =>
   have hx := frame_Read_at A0 c0 l0 w hr0 hc0 hl (fun x hx => by
    have := of_decide_eq_true (List.all_eq_true.mp hw x hx)
    exact this)
   have he := Option.some.inj h
   simp only [Prod.mk.injEq] at he
   obtain ⟨e1, e2, e3, e4, e5, e6, e7⟩ := he
   rw [e1, e2, e3, e4, e5, e6, e7] at hx
   exact hx

-- NOT PRINTED: function 49 (wire_ear_head)

end Go.Proofs.Ythgeekcobmhbfaa.Px
