/- What the document's sum of 8 bits comes to. -/
import Derived.Test.YtfjffajmagefkaaHandCrc
import Derived.Test.YtfjffajmagefkaaPureXor
import Derived.Test.YtfjffajmagefkaaPureBase
import Derived.Test.YtfjffajmagefkaaPx5
set_option linter.unusedVariables false
set_option linter.unusedSimpArgs false
namespace Go.Proofs.Ytfjffajmagefkaa.PB
open Go.RowKit Go.Proofs.Ytfjffajmagefkaa.Px Go.Proofs.YtfjffajmagefkaaW.PrintWords Go.Proofs.YtfjffajmagefkaaW.PrintLast Go.Proofs.YtfjffajmagefkaaW.PrintMore
theorem refByte_step (s : BitVec 8) : (if (s.toNat : Int) ≥ 128 then Go.bits .xor .i64 (Int.tmod (wrap64 ((s.toNat : Int) * 2)) 256) 29 else wrap64 ((s.toNat : Int) * 2)) = ((H.stepZ H.P8 s).toNat : Int) := by
  have hs := s.isLt
  have hw : wrap64 ((s.toNat : Int) * 2) = (s.toNat : Int) * 2 := by unfold wrap64; omega
  have hm : s.msb = decide (2 ^ (8 - 1) ≤ s.toNat) := BitVec.msb_eq_decide s
  have hsh : (s <<< 1).toNat = s.toNat * 2 % 256 := by rw [BitVec.toNat_shiftLeft, Nat.shiftLeft_eq]
  have hi : (s.toNat : Int) * (2 : Int) % (256 : Int) = (((s <<< 1).toNat : Nat) : Int) := by rw [hsh]; omega
  unfold H.stepZ
  by_cases c : 128 ≤ s.toNat
  · rw [if_pos (by omega), hm, decide_eq_true (by omega), if_pos rfl, hw, Int.tmod_eq_emod_of_nonneg (by omega), hi, show (29 : Int) = ((H.P8).toNat : Int) from rfl, bits_bv (by decide)]
  · rw [if_neg (by omega), hm, decide_eq_false (by omega), if_neg (by decide), hw, hsh]; omega
theorem refByte_l1 (l : List Int) (i : Nat) (r : Int) : ∀ d j : Nat, j + d = 8 → ∀ s : BitVec 8, Ev (fun k => phaetonref02_Byte.l0 k l ((H.iter (H.stepZ H.P8) d s).toNat : Int) (wrap64 ((i : Int) + 1))) r → Ev (fun k => phaetonref02_Byte.l1 k l (s.toNat : Int) (i : Int) (j : Int)) r := by
  intro d
  induction d with
  | zero =>
    intro j hj s h
    refine Ev.step (fun k => ?_) h
    rw [phaetonref02_Byte.l1.eq_2, if_neg (by omega)]; rfl
  | succ d ih =>
    intro j hj s h
    refine Ev.step (f := fun k => phaetonref02_Byte.l1 k l ((H.stepZ H.P8 s).toNat : Int) (i : Int) ((j + 1 : Nat) : Int)) (fun k => ?_) (ih (j + 1) (by omega) _ h)
    rw [phaetonref02_Byte.l1.eq_2, if_pos (by omega), H.wrap_succ (n := 8) (by omega) (by omega), ← refByte_step s]
    split <;> rfl
theorem refByte_l0 (l : List Int) (hl : l.length ≤ 4611686018427387904) (hw : ∀ x ∈ l, H.U8 x) : ∀ d i : Nat, i + d = l.length → Ev (fun k => phaetonref02_Byte.l0 k l ((H.crcX (l.take i)).toNat : Int) (i : Int)) (((H.crcX l ^^^ 0xFF#8).toNat : Nat) : Int) := by
  intro d
  induction d with
  | zero =>
    intro i hi
    refine Ev.step (f := fun _ => some (((H.crcX l ^^^ 0xFF#8).toNat : Nat) : Int)) (fun k => ?_) (Ev.now _)
    rw [phaetonref02_Byte.l0.eq_2, if_neg (by omega), List.take_of_length_le (by omega), show (255 : Int) = ((0xFF#8 : BitVec 8).toNat : Int) from rfl, bits_bv (by decide)]
  | succ d ih =>
    intro i hi
    have hlt : i < l.length := by omega
    have hx := hw _ (rd_mem hlt)
    have hsn : H.crcX (l.take (i + 1)) = H.iter (H.stepZ H.P8) 8 (H.crcX (l.take i) ^^^ BitVec.ofInt 8 (l.getD i 0)) := by
      rw [H.take_snoc 0 _ i hlt]
      have hs : H.crcX (l.take i ++ [l.getD i 0]) = H.regX (H.crcX (l.take i)) (l.getD i 0) := by unfold H.crcX; rw [List.foldl_append]; rfl
      rw [hs, H.regX_E8 _ hx, H.E8]
    have h := ih (i + 1) (by omega)
    rw [hsn, ← H.wrap_succ hlt hl] at h
    refine Ev.step (f := fun k => phaetonref02_Byte.l1 k l ((H.crcX (l.take i) ^^^ BitVec.ofInt 8 (l.getD i 0)).toNat : Int) (i : Int) ((0 : Nat) : Int)) (fun k => ?_) (refByte_l1 l i _ 8 0 (by omega) _ h)
    have e : Go.bits .xor .i64 ((H.crcX (l.take i)).toNat : Int) (wrap64 (l.getD i 0)) = ((H.crcX (l.take i) ^^^ BitVec.ofInt 8 (l.getD i 0)).toNat : Int) := by
      rw [H.wrap_u8 hx]
      obtain ⟨m, hm, hx2⟩ := u8_nat hx
      rw [hx2, H.ofInt_nat, ← bits_bv (by decide)]
      congr 1
      rw [BitVec.toNat_ofNat]; omega
    rw [phaetonref02_Byte.l0.eq_2, if_pos (by omega), if_pos (by omega), rd_nat, e]; rfl
theorem refByte_k (l : List Int) (hl : l.length ≤ 4611686018427387904) (hw : ∀ x ∈ l, H.U8 x) : ∃ K, ∀ k, K ≤ k → phaetonref02_Byte.f k l = some (((H.crcX l ^^^ 0xFF#8).toNat : Nat) : Int) := refByte_l0 l hl hw l.length 0 (by omega)

/-! ### the sum of 32 bits -/
end Go.Proofs.Ytfjffajmagefkaa.PB
