/- 0s ahead alter no sum of bits; in sums of bytes any byte ahead counts: at most 1000 bits, 500 bytes, 500 0s. -/
import Derived.Test.YtonffeckadmlcaaPx7
import Derived.Test.YtonffeckadmlcaaPureHead02
set_option linter.unusedVariables false
namespace Go.Proofs.Ytonffeckadmlcaa.Pure
open Go.RowKit Go.Proofs.Ytonffeckadmlcaa.PB Go.Proofs.Ytonffeckadmlcaa.Px Go.Proofs.YtonffeckadmlcaaW.PrintWords Go.Proofs.YtonffeckadmlcaaW.PrintLast Go.Proofs.YtonffeckadmlcaaW.PrintMore
theorem zeros_ahead (m : Nat) {l : List Int} (h : H.rightB l = true) : H.crcB (List.replicate m 0 ++ l) = H.crcB l := by
  have hz : H.rightB (List.replicate m (0 : Int)) = true := H.rightB_of fun x hx => .inl (List.eq_of_mem_replicate hx)
  rw [H.crcB_fold (show H.rightB (List.replicate m 0 ++ l) = true by rw [H.rightB_append, hz, h]; rfl), H.crcB_fold h]
  unfold H.tops
  rw [List.map_append, List.map_append, H.fold_append, List.map_replicate, List.map_replicate, show H.atTop 15 (H.isOne 0) = 0#15 from rfl, H.fold_zeros H.lin15]
theorem byte_ahead {b : List Int} (h : ∀ x ∈ b, H.U8 x) : H.crcX (0 :: b) ≠ H.crcX (1 :: b) := by
  have h0 : ∀ x ∈ (0 :: b), H.U8 x := fun x hx => by rcases List.mem_cons.mp hx with rfl | hx; (unfold H.U8; omega); exact h x hx
  have h1 : ∀ x ∈ (1 :: b), H.U8 x := fun x hx => by rcases List.mem_cons.mp hx with rfl | hx; (unfold H.U8; omega); exact h x hx
  rw [crcX_eq h0, crcX_eq h1]
  exact H.fold_mid_ne H.linE8 H.oneE8 0xFF#8 [] [BitVec.ofInt 8 0] [BitVec.ofInt 8 1] (H.bytes8 b) rfl (by decide)
theorem word_ahead (b : List Int) : H.moreW 0 (0 :: b) ≠ H.moreW 0 (1 :: b) := by
  rw [moreW_eq, moreW_eq]
  intro he
  exact H.fold_mid_ne H.linW H.oneW8 _ [] [BitVec.ofInt 32 0] [BitVec.ofInt 32 1] (H.bytes32 b) rfl (by decide) (not_inj he)
theorem ahead_end (k : Nat) (l b : List Int) (m : Nat) (A : List Int) (hr : H.rightB l = true) (hb : ∀ x ∈ b, H.U8 x) (hl : l.length ≤ 1000) (hbl : b.length ≤ 500) (hm : m ≤ 500) (hA : A.length = m) : phaetonlaw02_CrcAhead.l0 (k + 1) l A b true (List.replicate m 0) (m : Int) = some true := by
  have q0 : (List.replicate m (0 : Int)).length + l.length < 17592186044416 := by rw [List.length_replicate]; omega
  have q1 : ([0] : List Int).length + b.length < 140737488355328 := by rw [List.length_singleton]; omega
  have q2 : ([1] : List Int).length + b.length < 140737488355328 := by rw [List.length_singleton]; omega
  have e1 : ¬ (((H.crcX (0 :: b) ^^^ 0xFF#8).toNat : Nat) : Int) = (((H.crcX (1 :: b) ^^^ 0xFF#8).toNat : Nat) : Int) := fun h => byte_ahead hb (xor_inj (toNat_inj h))
  have e2 : ¬ (((H.moreW 0 (0 :: b)).toNat : Nat) : Int) = (((H.moreW 0 (1 :: b)).toNat : Nat) : Int) := fun h => word_ahead b (toNat_inj h)
  have c : ¬ (m : Int) < (A.length : Int) := by rw [hA]; omega
  rw [phaetonlaw02_CrcAhead.l0.eq_2, if_neg c, if_pos q0, Option.bind_some, if_pos q1, Option.bind_some, Option.bind_some, if_pos q2, Option.bind_some, if_pos rfl, crcBits_eq, Option.bind_some, crcBits_eq, Option.bind_some, if_pos (by rw [zeros_ahead m hr]), List.singleton_append, List.singleton_append, crcByte_eq, Option.bind_some, crcByte_eq, Option.bind_some, if_neg e1, crcWord_eq, Option.bind_some, crcWord_eq, Option.bind_some, if_neg e2]
theorem ahead_l0 (l b A : List Int) (hr : H.rightB l = true) (hb : ∀ x ∈ b, H.U8 x) (hl : l.length ≤ 1000) (hbl : b.length ≤ 500) (hA : A.length ≤ 500) : ∀ d i : Nat, i + d = A.length → Ev (fun k => phaetonlaw02_CrcAhead.l0 k l A b true (List.replicate i 0) (i : Int)) true := by
  intro d
  induction d with
  | zero =>
    intro i hi
    exact Ev.step (f := fun _ => some true) (fun k => ahead_end k l b i A hr hb hl hbl (by omega) (by omega)) (Ev.now _)
  | succ d ih =>
    intro i hi
    refine Ev.step (f := fun k => phaetonlaw02_CrcAhead.l0 k l A b true (List.replicate (i + 1) 0) ((i + 1 : Nat) : Int)) (fun k => ?_) (ih (i + 1) (by omega))
    have q : (List.replicate i (0 : Int)).length < 17592186044416 := by rw [List.length_replicate]; omega
    rw [phaetonlaw02_CrcAhead.l0.eq_2, if_pos (by omega), if_pos q, H.wrap_succ (n := A.length) (by omega) (by omega), ← List.replicate_succ']
theorem CrcAhead : phaetonlaw02_CrcAhead.Pure := by
  intro l A b _ hl hwl _ hA hwA _ hb hwb
  obtain ⟨K0, hh⟩ := head02_k
  by_cases c1 : (l.length : Int) > 1000
  · refine ⟨K0 + 1, ?_⟩
    unfold phaetonlaw02_CrcAhead.f
    rw [hh _ (by omega), Option.bind_some, if_pos c1, phaetonlaw02_CrcAhead.j0.eq_2, if_pos rfl, if_pos rfl]
  by_cases c2 : (b.length : Int) > 500
  · refine ⟨K0 + 1, ?_⟩
    unfold phaetonlaw02_CrcAhead.f
    rw [hh _ (by omega), Option.bind_some, if_neg c1, if_pos c2, phaetonlaw02_CrcAhead.j0.eq_2, if_pos rfl, if_pos rfl]
  by_cases c3 : (A.length : Int) > 500
  · refine ⟨K0 + 1, ?_⟩
    unfold phaetonlaw02_CrcAhead.f
    rw [hh _ (by omega), Option.bind_some, if_neg c1, if_neg c2, if_pos c3, phaetonlaw02_CrcAhead.j0.eq_2, if_pos rfl, if_pos rfl]
  obtain ⟨K1, k1⟩ := rright_k l (by omega)
  cases hr : H.rightB l with
  | false =>
    rw [hr] at k1
    refine ⟨K0 + K1 + 1, ?_⟩
    unfold phaetonlaw02_CrcAhead.f
    rw [hh _ (by omega), Option.bind_some, if_neg c1, if_neg c2, if_neg c3, k1 _ (by omega), Option.bind_some, Bool.not_false, phaetonlaw02_CrcAhead.j0.eq_2, if_pos rfl, if_pos rfl]
  | true =>
    rw [hr] at k1
    obtain ⟨K2, k2⟩ := ahead_l0 l b A hr (fun x hx => H.of_wf8 (hwb x hx)) (by omega) (by omega) (by omega) A.length 0 (by omega)
    refine ⟨K0 + K1 + K2 + 1, ?_⟩
    unfold phaetonlaw02_CrcAhead.f
    rw [hh _ (by omega), Option.bind_some, if_neg c1, if_neg c2, if_neg c3, k1 _ (by omega), Option.bind_some, Bool.not_true, phaetonlaw02_CrcAhead.j0.eq_2, if_neg (by decide)]
    exact k2 _ (by omega)
end Go.Proofs.Ytonffeckadmlcaa.Pure
