/- What is stuffed is stripped to what it was; without its last bit, if that was put in, it ends too soon: at most 300 bits. -/
import Derived.Test.YtlggjgabefjjoaaPx3
import Derived.Test.YtlggjgabefjjoaaPureHead03
set_option linter.unusedVariables false
namespace Go.Proofs.Ytlggjgabefjjoaa.Pure
open Go.RowKit Go.Proofs.Ytlggjgabefjjoaa.PB Go.Proofs.Ytlggjgabefjjoaa.Px Go.Proofs.YtlggjgabefjjoaaW.PrintWords Go.Proofs.YtlggjgabefjjoaaW.PrintLast Go.Proofs.YtlggjgabefjjoaaW.PrintMore
theorem back_j0 (l : List Int) (hb : ∀ x ∈ l, H.Bit x) (hl : l.length ≤ 300) : ∃ K, ∀ k, K ≤ k → phaetonlaw03_StuffBack.j0 k l true (H.stuffB l) false = some true := by
  obtain ⟨K1, k1⟩ := ints_k l (by omega)
  have up : ∀ k, phaetonlaw03_StuffBack.j1 (k + 1) l true (H.stuffB l) true = some true := fun k => by rw [phaetonlaw03_StuffBack.j1.eq_2, if_pos rfl, if_pos rfl]
  refine ⟨K1 + 3, fun k hk => ?_⟩
  obtain ⟨k, rfl⟩ : ∃ m, k = m + 2 := ⟨k - 2, by omega⟩
  rw [phaetonlaw03_StuffBack.j0.eq_2, if_neg (by decide)]
  rcases H.snocCases l with rfl | ⟨m, b, rfl⟩
  · rw [if_pos (by rfl)]; exact up k
  obtain ⟨hm, hbb⟩ := H.bits_snoc hb
  rw [List.length_append, List.length_singleton] at hl ⊢
  have e1 : wrap64 (((m.length + 1 : Nat) : Int) - 1) = (m.length : Int) := by unfold wrap64; omega
  rw [if_neg (by omega), e1, if_pos (by omega), if_pos (by omega), Int.toNat_natCast, List.take_left' rfl, stuffStuff_eq m (by omega), Option.bind_some]
  have hgm := H.stuffB_go hm
  have hgl := H.stuffB_go hb
  have hsl := H.stuffS_len m
  by_cases c : (H.runS (H.stuffE (-1, 0) m) b).2 = 5
  · obtain ⟨s1, s2⟩ := H.strip_short hm hbb c
    rw [← hgm] at s1 s2
    rw [← hgl] at s1
    have hlen : (H.stuffB (m ++ [b])).length = (H.stuffB m).length + 2 := by rw [s1, List.length_append]; rfl
    have hmm : (H.stuffB m).length ≤ 2 * m.length := hsl
    have e2 : wrap64 (((H.stuffB m).length : Int) + 1) = (((H.stuffB m).length + 1 : Nat) : Int) := by unfold wrap64; omega
    have e3 : wrap64 (((H.stuffB (m ++ [b])).length : Int) - 1) = (((H.stuffB m).length + 1 : Nat) : Int) := by rw [hlen]; unfold wrap64; omega
    have e4 : (H.stuffB (m ++ [b])).take ((H.stuffB m).length + 1) = H.stuffB m ++ [b] := by
      rw [s1, show H.stuffB m ++ [b, 1 - b] = (H.stuffB m ++ [b]) ++ [1 - b] by simp, List.take_left' (by rw [List.length_append]; rfl)]
    have hbq : (((H.stuffB (m ++ [b])).length : Int) == (((H.stuffB m).length + 1 : Nat) : Int)) = false := by rw [beq_eq_false_iff_ne, hlen]; omega
    rw [e2, hbq, phaetonlaw03_StuffBack.j1.eq_2, if_neg (by decide), e3, if_pos (by omega), if_pos (by rw [hlen]; omega), Int.toNat_natCast, e4, stuffStrip_eq _ (by rw [List.length_append, List.length_singleton]; omega), Option.bind_some, s2, k1 _ (by omega), Option.bind_some, if_pos rfl, if_pos rfl, if_pos rfl]
  · have s1 := H.stuff_last c
    rw [← hgm, ← hgl] at s1
    have hlen : (H.stuffB (m ++ [b])).length = (H.stuffB m).length + 1 := by rw [s1, List.length_append]; rfl
    have hmm : (H.stuffB m).length ≤ 2 * m.length := hsl
    have e2 : wrap64 (((H.stuffB m).length : Int) + 1) = (((H.stuffB m).length + 1 : Nat) : Int) := by unfold wrap64; omega
    have hbq : (((H.stuffB (m ++ [b])).length : Int) == (((H.stuffB m).length + 1 : Nat) : Int)) = true := by rw [beq_iff_eq, hlen]
    rw [e2, hbq]
    exact up k
theorem StuffBack : phaetonlaw03_StuffBack.Pure := by
  intro l0 _ hl hw
  obtain ⟨K0, hh⟩ := head03_k
  obtain ⟨K1, k1⟩ := bits03_k l0
  have hb := bits03_bit l0
  have hlen := bits03_len l0
  generalize bits03 l0 = l at k1 hb hlen
  have hsl : (H.stuffB l).length ≤ 2 * l.length := H.stuffS_len l
  have hge : l.length ≤ (H.stuffB l).length := by rw [H.stuffB_go hb]; exact H.stuffGo_len l _
  obtain ⟨K2, k2⟩ := ints_k l (by omega)
  obtain ⟨K3, k3⟩ := back_j0 l hb hlen
  refine ⟨K0 + K1 + K2 + K3, ?_⟩
  unfold phaetonlaw03_StuffBack.f
  rw [hh _ (by omega), Option.bind_some, k1 _ (by omega), Option.bind_some, stuffStuff_eq l (by omega), Option.bind_some, stuffStrip_eq _ (by omega), Option.bind_some, H.strip_back hb, k2 _ (by omega), Option.bind_some, if_pos rfl, if_pos rfl, decide_eq_false (by omega)]
  exact k3 _ (by omega)
end Go.Proofs.Ytlggjgabefjjoaa.Pure
