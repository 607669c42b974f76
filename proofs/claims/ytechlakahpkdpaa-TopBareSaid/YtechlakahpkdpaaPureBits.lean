/- What the printed functions of package bits, and of the document's answer to layer 1, come to: plain rows and numbers. -/
import Derived.Test.YtechlakahpkdpaaPureBase
import Derived.Test.YtechlakahpkdpaaPx5
import Derived.Test.YtechlakahpkdpaaPx6
import Derived.Test.YtechlakahpkdpaaPx1
import Derived.Test.YtechlakahpkdpaaPx2
set_option linter.unusedVariables false
set_option linter.unusedSimpArgs false
namespace Go.Proofs.Ytechlakahpkdpaa.PB
open Go.RowKit Go.Proofs.Ytechlakahpkdpaa.Px Go.Proofs.YtechlakahpkdpaaW.PrintWords Go.Proofs.YtechlakahpkdpaaW.PrintLast Go.Proofs.YtechlakahpkdpaaW.PrintMore

theorem right_l0 (l : List Int) (hl : l.length ≤ 4611686018427387904) (hw : ∀ x ∈ l, H.W64 x) : ∀ d i : Nat, i + d = l.length → Ev (fun k => bits_Right.l0 k l (l.length : Int) (i : Int)) (H.rightB (l.drop i)) := by
  intro d
  induction d with
  | zero =>
    intro i hi
    refine Ev.step (f := fun _ => some (H.rightB (l.drop i))) (fun k => ?_) (Ev.now _)
    simp only [bits_Right.l0]
    rw [if_neg (by omega), List.drop_eq_nil_of_le (by omega)]; rfl
  | succ d ih =>
    intro i hi
    have hlt : i < l.length := by omega
    have hx := hw _ (rd_mem hlt)
    by_cases hb : H.isBit (l.getD i 0) = true
    · refine Ev.step (f := fun k => bits_Right.l0 k l (l.length : Int) ((i + 1 : Nat) : Int)) (fun k => ?_) ?_
      · simp only [bits_Right.l0]
        rw [if_pos (by omega), if_pos (by omega), if_pos (by omega), rd_nat, if_pos ((H.andNot_one hx).mpr hb), H.wrap_succ hlt hl]
      · have := ih (i + 1) (by omega)
        rw [rd_drop hlt, show H.rightB (l.getD i 0 :: l.drop (i + 1)) = (H.isBit (l.getD i 0) && H.rightB (l.drop (i + 1))) from rfl, hb, Bool.true_and]
        exact this
    · refine Ev.step (f := fun _ => some (H.rightB (l.drop i))) (fun k => ?_) (Ev.now _)
      simp only [bits_Right.l0]
      rw [if_pos (by omega), if_pos (by omega), if_pos (by omega), rd_nat, if_neg (fun h => hb ((H.andNot_one hx).mp h))]
      rw [rd_drop hlt, show H.rightB (l.getD i 0 :: l.drop (i + 1)) = (H.isBit (l.getD i 0) && H.rightB (l.drop (i + 1))) from rfl, Bool.eq_false_iff.mpr hb]; rfl
theorem right_ev (l : List Int) (hl : l.length ≤ 4611686018427387904) (hw : ∀ x ∈ l, H.W64 x) : Ev (fun k => bits_Right.f k l) (H.rightB l) := by
  have := right_l0 l hl hw l.length 0 (by omega)
  simpa [bits_Right.f] using this

theorem right_k (l : List Int) (hl : l.length ≤ 4611686018427387904) (hw : ∀ x ∈ l, H.W64 x) : ∃ K, ∀ k, K ≤ k → bits_Right.f k l = some (H.rightB l) := right_ev l hl hw

theorem get_l0 (l : List Int) (hr : H.rightB l = true) (hl : l.length ≤ 32) : ∀ d i : Nat, i + d = l.length → Ev (fun k => bits_Get.l0 k (H.valB (l.take i)) l (l.length : Int) (i : Int)) (H.valB l, true) := by
  intro d
  induction d with
  | zero =>
    intro i hi
    refine Ev.step (f := fun _ => some (H.valB l, true)) (fun k => ?_) (Ev.now _)
    simp only [bits_Get.l0]
    rw [if_neg (by omega), List.take_of_length_le (by omega)]
  | succ d ih =>
    intro i hi
    have hlt : i < l.length := by omega
    have hrt : H.rightB (l.take i) = true := by
      have := hr; rw [← List.take_append_drop i l, H.rightB_append, Bool.and_eq_true] at this; exact this.1
    have hv := H.valB_range hrt
    have hp := H.pow32 (m := (l.take i).length) (by rw [List.length_take]; omega)
    have hbit := H.rightB_mem hr _ (rd_mem hlt)
    refine Ev.step (f := fun k => bits_Get.l0 k (H.valB (l.take (i + 1))) l (l.length : Int) ((i + 1 : Nat) : Int)) (fun k => ?_) (ih (i + 1) (by omega))
    simp only [bits_Get.l0]
    rw [if_pos (by omega), if_pos (by omega), if_pos (by omega), rd_nat, H.wrap_succ hlt (by omega), show wrap64 (H.valB (l.take i) * 2) = H.valB (l.take i) * 2 by unfold wrap64; omega, H.or_bit hv.1 (by omega) hbit, H.take_snoc 0 l i hlt, H.valB_snoc]
theorem get_ev (l : List Int) (hl : l.length ≤ 4611686018427387904) (hw : ∀ x ∈ l, H.W64 x) : Ev (fun k => bits_Get.f k l) (H.getB l) := by
  unfold H.getB
  by_cases h1 : 32 < l.length
  · rw [if_pos h1]
    refine Ev.step (f := fun _ => some ((0 : Int), false)) (fun k => ?_) (Ev.now _)
    simp only [bits_Get.f]
    rw [if_pos (by omega)]
    simp only [bits_Get.j0]; rw [if_pos trivial]
  · rw [if_neg h1]
    obtain ⟨K, hK⟩ := right_k l hl hw
    by_cases hr : H.rightB l = true
    · rw [if_pos hr]
      obtain ⟨K2, hK2⟩ := get_l0 l hr (by omega) l.length 0 (by omega)
      refine ⟨K + K2 + 1, fun k hk => ?_⟩
      obtain ⟨k, rfl⟩ : ∃ m, k = m + 1 := ⟨k - 1, by omega⟩
      simp only [bits_Get.f]
      rw [if_neg (by omega), hK _ (by omega), hr]
      simp only [Option.bind_some, Bool.not_true, bits_Get.j0]
      rw [if_neg (by decide)]
      exact hK2 _ (by omega)
    · rw [if_neg hr]
      refine ⟨K + 1, fun k hk => ?_⟩
      obtain ⟨k, rfl⟩ : ∃ m, k = m + 1 := ⟨k - 1, by omega⟩
      simp only [bits_Get.f]
      rw [if_neg (by omega), hK _ (by omega), Bool.eq_false_iff.mpr hr]
      simp only [Option.bind_some, Bool.not_false, bits_Get.j0]; rw [if_pos trivial]
theorem get_k (l : List Int) (hl : l.length ≤ 4611686018427387904) (hw : ∀ x ∈ l, H.W64 x) : ∃ K, ∀ k, K ≤ k → bits_Get.f k l = some (H.getB l) := get_ev l hl hw

end Go.Proofs.Ytechlakahpkdpaa.PB
