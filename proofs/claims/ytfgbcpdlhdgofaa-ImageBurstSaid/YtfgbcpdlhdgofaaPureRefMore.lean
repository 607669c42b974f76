/- What the document's sum of 32 bits comes to. -/
import Derived.Test.YtfgbcpdlhdgofaaHandCrc
import Derived.Test.YtfgbcpdlhdgofaaPureXor
import Derived.Test.YtfgbcpdlhdgofaaPureBase
import Derived.Test.YtfgbcpdlhdgofaaPx5
set_option linter.unusedVariables false
set_option linter.unusedSimpArgs false
namespace Go.Proofs.Ytfgbcpdlhdgofaa.PB
open Go.RowKit Go.Proofs.Ytfgbcpdlhdgofaa.Px Go.Proofs.YtfgbcpdlhdgofaaW.PrintWords Go.Proofs.YtfgbcpdlhdgofaaW.PrintLast Go.Proofs.YtfgbcpdlhdgofaaW.PrintMore
theorem bits_bv32 (a b : BitVec 32) : Go.bits .xor .u32 (a.toNat : Int) (b.toNat : Int) = ((a ^^^ b).toNat : Int) := by
  have ha := a.isLt
  have hb := b.isLt
  rw [H.xor_u32 _ _ (by omega) (by omega), BitVec.toNat_xor]
theorem refMore_step (s : BitVec 32) : (if Int.tmod (s.toNat : Int) 2 = 1 then Go.bits .xor .u32 ((s.toNat : Int) / 2) 3988292384 else (s.toNat : Int) / 2) = ((H.oneW s).toNat : Int) := by
  have hs := s.isLt
  have hsh : ((s >>> 1).toNat : Int) = (s.toNat : Int) / 2 := by rw [BitVec.toNat_ushiftRight, Nat.shiftRight_eq_div_pow]; omega
  rw [Int.tmod_eq_emod_of_nonneg (by omega), ← hsh]
  unfold H.oneW
  by_cases c : s.toNat % 2 = 1
  · rw [if_pos (by omega), if_pos c, show (3988292384 : Int) = ((0xEDB88320#32 : BitVec 32).toNat : Int) from rfl, bits_bv32]
  · rw [if_neg (by omega), if_neg c, BitVec.xor_zero]
theorem refMore_l1 (l : List Int) (i : Nat) (r : Int) : ∀ d j : Nat, j + d = 8 → ∀ s : BitVec 32, Ev (fun k => phaetonref02_More.l0 k l ((H.iter H.oneW d s).toNat : Int) (wrap64 ((i : Int) + 1))) r → Ev (fun k => phaetonref02_More.l1 k l (s.toNat : Int) (i : Int) (j : Int)) r := by
  intro d
  induction d with
  | zero =>
    intro j hj s h
    refine Ev.step (fun k => ?_) h
    rw [phaetonref02_More.l1.eq_2, if_neg (by omega)]; rfl
  | succ d ih =>
    intro j hj s h
    refine Ev.step (f := fun k => phaetonref02_More.l1 k l ((H.oneW s).toNat : Int) (i : Int) ((j + 1 : Nat) : Int)) (fun k => ?_) (ih (j + 1) (by omega) _ h)
    rw [phaetonref02_More.l1.eq_2, if_pos (by omega), H.wrap_succ (n := 8) (by omega) (by omega), ← refMore_step s]
    split <;> rfl
theorem refMore_l0 (c : BitVec 32) (l : List Int) (hl : l.length ≤ 4611686018427387904) (hw : ∀ x ∈ l, H.U8 x) : ∀ d i : Nat, i + d = l.length → Ev (fun k => phaetonref02_More.l0 k l ((H.crcW c (l.take i)).toNat : Int) (i : Int)) (((~~~ H.crcW c l).toNat : Nat) : Int) := by
  intro d
  induction d with
  | zero =>
    intro i hi
    refine Ev.step (f := fun _ => some (((~~~ H.crcW c l).toNat : Nat) : Int)) (fun k => ?_) (Ev.now _)
    have hlt := (~~~ H.crcW c l).isLt
    have e : Go.bits .xor .u32 IntKind.u32.max ((H.crcW c l).toNat : Int) = ((~~~ H.crcW c l).toNat : Int) := by
      rw [show IntKind.u32.max = ((BitVec.allOnes 32).toNat : Int) from rfl, bits_bv32, BitVec.allOnes_xor]
    rw [phaetonref02_More.l0.eq_2, if_neg (by omega), List.take_of_length_le (by omega), e, H.wrap_nat (by omega)]
  | succ d ih =>
    intro i hi
    have hlt : i < l.length := by omega
    have hx := hw _ (rd_mem hlt)
    have hsn : H.crcW c (l.take (i + 1)) = H.iter H.oneW 8 (H.crcW c (l.take i) ^^^ BitVec.ofInt 32 (l.getD i 0)) := by
      rw [H.take_snoc 0 _ i hlt]
      unfold H.crcW
      rw [List.foldl_append]
      rfl
    have h := ih (i + 1) (by omega)
    rw [hsn, ← H.wrap_succ hlt hl] at h
    refine Ev.step (f := fun k => phaetonref02_More.l1 k l ((H.crcW c (l.take i) ^^^ BitVec.ofInt 32 (l.getD i 0)).toNat : Int) (i : Int) ((0 : Nat) : Int)) (fun k => ?_) (refMore_l1 l i _ 8 0 (by omega) _ h)
    have e : Go.bits .xor .u32 ((H.crcW c (l.take i)).toNat : Int) ((l.getD i 0) % 4294967296) = ((H.crcW c (l.take i) ^^^ BitVec.ofInt 32 (l.getD i 0)).toNat : Int) := by
      obtain ⟨m, hm, hx2⟩ := u8_nat hx
      rw [hx2, H.ofInt_nat, ← bits_bv32]
      congr 1
    rw [phaetonref02_More.l0.eq_2, if_pos (by omega), if_pos (by omega), rd_nat, e]; rfl
theorem refMore_k (s : Int) (l : List Int) (hl : l.length ≤ 4611686018427387904) (hw : ∀ x ∈ l, H.U8 x) : ∃ K, ∀ k, K ≤ k → phaetonref02_More.f k s l = some ((H.moreW s l).toNat : Int) := by
  have e : Go.bits .xor .u32 IntKind.u32.max (s % 4294967296) = ((~~~ BitVec.ofInt 32 s).toNat : Int) := by
    have e1 : s % 4294967296 = ((BitVec.ofInt 32 s).toNat : Int) := by rw [BitVec.toNat_ofInt]; omega
    rw [e1, show IntKind.u32.max = ((BitVec.allOnes 32).toNat : Int) from rfl, bits_bv32, BitVec.allOnes_xor]
  obtain ⟨K, h⟩ := refMore_l0 (~~~ BitVec.ofInt 32 s) l hl hw l.length 0 (by omega)
  refine ⟨K, fun k hk => ?_⟩
  unfold phaetonref02_More.f
  rw [e]
  exact h k hk
end Go.Proofs.Ytfgbcpdlhdgofaa.PB
