/- What the document's answer to layer 1 comes to: the same plain words as package bits. -/
import Derived.Test.YtfbmgflkfpppmaaPureBase
import Derived.Test.YtfbmgflkfpppmaaPx5
set_option linter.unusedVariables false
set_option linter.unusedSimpArgs false
namespace Go.Proofs.Ytfbmgflkfpppmaa.PB
open Go.RowKit Go.Proofs.Ytfbmgflkfpppmaa.Px Go.Proofs.YtfbmgflkfpppmaaW.PrintWords Go.Proofs.YtfbmgflkfpppmaaW.PrintLast Go.Proofs.YtfbmgflkfpppmaaW.PrintMore

theorem spread_take (l : List Int) (i : Nat) (h : i < l.length) : H.spreadB (l.take (i + 1)) = H.spreadB (l.take i) ++ H.bitsOf (wrap64 (l.getD i 0)) 8 := by
  rw [H.take_snoc 0 l i h]; simp [H.spreadB, List.flatMap_append]
theorem spread_length (l : List Int) : (H.spreadB l).length = 8 * l.length := by
  induction l with
  | nil => rfl
  | cons x l ih => rw [show H.spreadB (x :: l) = H.bitsOf (wrap64 x) 8 ++ H.spreadB l from rfl, List.length_append, H.bitsOf_length, ih, List.length_cons]; omega

theorem strNums_inj : ∀ a b : List Int, (∀ x ∈ a, H.U8 x) → (∀ x ∈ b, H.U8 x) → (strOfNums a).toList = (strOfNums b).toList → a = b := by
  have key : ∀ l : List Int, (strOfNums l).toList = l.map fun n => UInt8.ofNat n.toNat := fun l => by
    unfold strOfNums
    exact Go.ByteArray.toList_mk _
  intro a b ha hb h
  rw [key, key] at h
  have inj : ∀ (a b : List Int), (∀ x ∈ a, H.U8 x) → (∀ x ∈ b, H.U8 x) → (a.map fun n => UInt8.ofNat n.toNat) = (b.map fun n => UInt8.ofNat n.toNat) → a = b := by
    intro a
    induction a with
    | nil => intro b _ _ h; cases b with
      | nil => rfl
      | cons y b => simp at h
    | cons x a ih =>
      intro b ha hb h
      cases b with
      | nil => simp at h
      | cons y b =>
        simp only [List.map_cons, List.cons.injEq] at h
        have hx := ha x (by simp)
        have hy := hb y (by simp)
        unfold H.U8 at hx hy
        have h1 := congrArg UInt8.toNat h.1
        simp at h1
        rw [ih b (fun z hz => ha z (by simp [hz])) (fun z hz => hb z (by simp [hz])) h.2, show x = y by omega]
  exact inj a b ha hb h
theorem sameBytes_eq (a b : List Int) (ha : ∀ x ∈ a, H.U8 x) (hb : ∀ x ∈ b, H.U8 x) : phaetonref01_SameBytes.f a b = some (decide (a = b)) := by
  unfold phaetonref01_SameBytes.f
  congr 1
  by_cases h : a = b
  · subst h; rw [beq_self_eq_true, decide_eq_true rfl]
  · rw [decide_eq_false h, beq_eq_false_iff_ne]; exact fun e => h (strNums_inj a b ha hb e)
theorem sameBytes (l : List Int) : phaetonref01_SameBytes.f l l = some true := by
  unfold phaetonref01_SameBytes.f; rw [beq_self_eq_true]

end Go.Proofs.Ytfbmgflkfpppmaa.PB
