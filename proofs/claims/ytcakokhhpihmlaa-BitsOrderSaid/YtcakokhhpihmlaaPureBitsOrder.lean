/- Of two numbers of as many bits the lesser one has 0 where they first differ: at all numbers of 32 bits. -/
import Derived.Test.YtcakokhhpihmlaaPx7
import Derived.Test.YtcakokhhpihmlaaPureHead01
import Derived.Test.YtcakokhhpihmlaaPureRef01
set_option linter.unusedVariables false
namespace Go.Proofs.Ytcakokhhpihmlaa.Pure
open Go.RowKit Go.Proofs.Ytcakokhhpihmlaa.PB Go.Proofs.Ytcakokhhpihmlaa.Px Go.Proofs.YtcakokhhpihmlaaW.PrintWords Go.Proofs.YtcakokhhpihmlaaW.PrintLast Go.Proofs.YtcakokhhpihmlaaW.PrintMore
theorem div_step (a : Int) (e : Nat) : a / 2 ^ (e + 1) = a / 2 ^ e / 2 := by
  rw [Int.pow_succ, ← Int.ediv_ediv_of_nonneg (Int.le_of_lt (H.pow_pos2 e))]
theorem lt_of_div {a b : Int} {e : Nat} (h : a / 2 ^ e < b / 2 ^ e) : a < b := by
  by_cases h' : a < b
  · exact h'
  · have := Int.ediv_le_ediv (H.pow_pos2 e) (show b ≤ a by omega)
    omega
theorem order_l0 (a b : Int) (u v : Int) (hu : u = a) (hv : v = b) : ∀ d i : Nat, i + d = 32 → a / 2 ^ d = b / 2 ^ d → Ev (fun k => phaetonlaw01_BitsOrder.l0 k u v true (H.bitsOf a 32) (H.bitsOf b 32) (i : Int)) true := by
  intro d
  induction d with
  | zero =>
    intro i hi he
    refine Ev.step (f := fun _ => some true) (fun k => ?_) (Ev.now _)
    rw [phaetonlaw01_BitsOrder.l0.eq_2, if_neg (by omega), if_pos rfl, if_pos (by rw [hu, hv]; simpa using he)]
  | succ d ih =>
    intro i hi he
    have ga : rd (H.bitsOf a 32) (i : Int) = a / 2 ^ d % 2 := by rw [rd_nat, List.getD_eq_getElem?_getD, H.bitsOf_get a 32 i (by omega), show 32 - 1 - i = d by omega]; rfl
    have gb : rd (H.bitsOf b 32) (i : Int) = b / 2 ^ d % 2 := by rw [rd_nat, List.getD_eq_getElem?_getD, H.bitsOf_get b 32 i (by omega), show 32 - 1 - i = d by omega]; rfl
    rw [div_step, div_step] at he
    by_cases hs : a / 2 ^ d % 2 = b / 2 ^ d % 2
    · refine Ev.step (f := fun k => phaetonlaw01_BitsOrder.l0 k u v true (H.bitsOf a 32) (H.bitsOf b 32) ((i + 1 : Nat) : Int)) (fun k => ?_) (ih (i + 1) (by omega) (by omega))
      rw [phaetonlaw01_BitsOrder.l0.eq_2, H.bitsOf_length, H.bitsOf_length, if_pos (by omega), if_pos (by omega), if_pos (by omega), if_pos (by omega), ga, gb, if_pos hs, show wrap64 ((i : Int) + 1) = ((i + 1 : Nat) : Int) by unfold wrap64; omega]
    · refine Ev.step (f := fun _ => some true) (fun k => ?_) (Ev.now _)
      have hb : ((a / 2 ^ d % 2 == 0) == decide (u < v)) = true := by
        rw [hu, hv]
        by_cases h0 : a / 2 ^ d % 2 = 0
        · have h1 : a < b := lt_of_div (e := d) (by omega)
          rw [h0, decide_eq_true h1]; rfl
        · have h1 : b < a := lt_of_div (e := d) (by omega)
          rw [decide_eq_false (by omega), beq_eq_false_iff_ne.mpr h0]; rfl
      rw [phaetonlaw01_BitsOrder.l0.eq_2, H.bitsOf_length, H.bitsOf_length, if_pos (by omega), if_pos (by omega), if_pos (by omega), if_pos (by omega), ga, gb, if_neg hs, if_pos rfl, if_pos hb]
theorem BitsOrder : phaetonlaw01_BitsOrder.Pure := by
  intro a b h1 h2
  have ha := H.of_wfu32 h1
  have hb := H.of_wfu32 h2
  obtain ⟨K0, hh⟩ := head01_k
  have wa : wrap64 a = a := by unfold wrap64; omega
  have wb : wrap64 b = b := by unfold wrap64; omega
  have pa : bits_Put.f a 32 = some (H.bitsOf a 32, true) := by rw [show bits_Put.f a 32 = some (H.putB a ((32 : Nat) : Int)) from rfl, H.putB_yes (by omega) ha.1 (by omega)]
  have pb : bits_Put.f b 32 = some (H.bitsOf b 32, true) := by rw [show bits_Put.f b 32 = some (H.putB b ((32 : Nat) : Int)) from rfl, H.putB_yes (by omega) hb.1 (by omega)]
  have he : a / 2 ^ 32 = b / 2 ^ 32 := by rw [Int.ediv_eq_zero_of_lt ha.1 (by omega), Int.ediv_eq_zero_of_lt hb.1 (by omega)]
  obtain ⟨K1, k1⟩ := order_l0 a b a b rfl rfl 32 0 (by omega) he
  refine ⟨K0 + K1 + 1, ?_⟩
  unfold phaetonlaw01_BitsOrder.f
  rw [hh _ (by omega), Option.bind_some, wa, wb, pa, Option.bind_some, pb, Option.bind_some, if_pos rfl, if_pos rfl, if_pos (by show ((H.bitsOf a 32).length : Int) = 32; rw [H.bitsOf_length]; rfl)]
  rw [show (((H.bitsOf b 32, true).1.length : Int) != 32) = false by show (((H.bitsOf b 32).length : Int) != 32) = false; rw [H.bitsOf_length]; rfl, phaetonlaw01_BitsOrder.j0.eq_2, if_neg (by decide)]
  exact k1 _ (by omega)
end Go.Proofs.Ytcakokhhpihmlaa.Pure
