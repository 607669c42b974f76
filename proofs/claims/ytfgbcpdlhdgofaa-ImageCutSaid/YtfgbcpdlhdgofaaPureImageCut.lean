/- Bytes that are packed, without the last ones, any many, or with some behind, are no image. -/
import Derived.Test.YtfgbcpdlhdgofaaPx9
import Derived.Test.YtfgbcpdlhdgofaaPureHead24
set_option linter.unusedVariables false
namespace Go.Proofs.Ytfgbcpdlhdgofaa.Pure
open Go.RowKit Go.Proofs.Ytfgbcpdlhdgofaa.PB Go.Proofs.Ytfgbcpdlhdgofaa.Px Go.Proofs.YtfgbcpdlhdgofaaW.PrintWords Go.Proofs.YtfgbcpdlhdgofaaW.PrintLast Go.Proofs.YtfgbcpdlhdgofaaW.PrintMore
theorem num_take {l : List Int} {m a : Nat} (h : a + 4 ≤ m) : num (l.take m) a = num l a := by
  have e : ∀ i, i < m → (l.take m).getD i 0 = l.getD i 0 := fun i hi => by
    rw [List.getD_eq_getElem?_getD, List.getD_eq_getElem?_getD, List.getElem?_take, if_pos hi]
  unfold num
  rw [e a (by omega), e (a + 1) (by omega), e (a + 2) (by omega), e (a + 3) (by omega)]
theorem num_app {l r : List Int} {a : Nat} (h : a + 4 ≤ l.length) : num (l ++ r) a = num l a := by
  have e : ∀ i, i < l.length → (l ++ r).getD i 0 = l.getD i 0 := fun i hi => by
    rw [List.getD_eq_getElem?_getD, List.getD_eq_getElem?_getD, List.getElem?_append_left hi]
  unfold num
  rw [e a (by omega), e (a + 1) (by omega), e (a + 2) (by omega), e (a + 3) (by omega)]
theorem read_short (v : Int) (b : List Int) (key : Int) (hb : b.length ≤ 5000) (m : Nat) (hm : m < (packL v b key).length) : readT ((packL v b key).take m) key = (0, [], 240) := by
  have hl := packL_length v b key
  unfold readT
  rw [if_pos]
  by_cases c : m < 18
  · exact .inl (by rw [List.length_take]; omega)
  · refine .inr (.inr (.inr ?_))
    rw [num_take (by omega), pack_num6 v b key (by omega), List.length_drop, List.length_take]
    omega
theorem read_long (v : Int) (b : List Int) (key : Int) (hb : b.length ≤ 5000) (r : List Int) (hr : 0 < r.length) : readT (packL v b key ++ r) key = (0, [], 240) := by
  have hl := packL_length v b key
  unfold readT
  rw [if_pos]
  refine .inr (.inr (.inr ?_))
  rw [num_app (by omega), pack_num6 v b key (by omega), List.length_drop, List.length_append]
  omega
theorem cut_none (m : Nat) (key : Int) (l2 l3 : List Int) : phaetonlaw24_ImageCut.j0 (m + 1) key true [] false true l2 l3 = some true := by
  rw [phaetonlaw24_ImageCut.j0.eq_2, if_pos rfl, if_neg (by decide), if_pos rfl]
theorem ImageCut : phaetonlaw24_ImageCut.Pure := by
  intro a0 b key l2 l3 h0 hbm hbw hk h2m h2w h3m h3w
  have hmx : maxLen = 9223372036854775807 := rfl
  have hb' : ∀ x ∈ b, H.U8 x := fun x hx => H.of_wf8 (hbw x hx)
  have h3' : ∀ x ∈ l3, H.U8 x := fun x hx => H.of_wf8 (h3w x hx)
  have hB := cutB_U8 hb'
  have hBl := cutB_length b
  obtain ⟨K0, hh⟩ := head24_k
  obtain ⟨K1, k1⟩ := pack_k a0 (cutB b) key (by omega)
  by_cases hc : rightB' a0 (cutB b) = true ∧ mayB key = true
  · obtain ⟨v0, v1, b0, b1⟩ := right_parts hc.1
    have ep : packT a0 (cutB b) key = (packL a0 (cutB b) key, true) := if_pos hc
    have hP := packL_U8 a0 (cutB b) key hB
    have hl := packL_length a0 (cutB b) key
    have hrd := read_pack a0 (cutB b) key hc.1 hc.2
    obtain ⟨P, hPe⟩ : ∃ P, P = packL a0 (cutB b) key := ⟨_, rfl⟩
    obtain ⟨q, hq⟩ : ∃ q : Nat, q = l2.length % P.length := ⟨_, rfl⟩
    rw [← hPe] at ep hP hl hrd
    have hPl : 0 < P.length := by omega
    have hq1 : q < P.length := by rw [hq]; exact Nat.mod_lt _ hPl
    have e1 : wrap64 (wrap64 ((P.length : Int) - 1) - (l2.length : Int) % (P.length : Int)) = ((P.length - 1 - q : Nat) : Int) := by
      have : (l2.length : Int) % (P.length : Int) = (q : Int) := by rw [hq]; omega
      rw [this]; unfold wrap64; omega
    have e2 : mn (l3.length : Int) 20 = ((min l3.length 20 : Nat) : Int) := by unfold mn; split <;> omega
    obtain ⟨r, hr⟩ : ∃ r, r = l3.take (min l3.length 20) := ⟨_, rfl⟩
    have hrl : r.length = min l3.length 20 := by rw [hr, List.length_take]; omega
    have hrU : ∀ x ∈ r, H.U8 x := by rw [hr]; exact take_U8 h3' _
    obtain ⟨K2, k2⟩ := read_k (P.take (P.length - 1 - q)) key (take_U8 hP _) (by rw [List.length_take]; omega)
    obtain ⟨K3, k3⟩ := read_k (P ++ r) key (U8_app hP hrU) (by rw [List.length_append]; omega)
    have s1 : readT (P.take (P.length - 1 - q)) key = (0, [], 240) := by
      have := read_short a0 (cutB b) key (by omega) (P.length - 1 - q) (by rw [← hPe]; omega)
      rwa [← hPe] at this
    have s2 : ((readT (P ++ r) key).2.2 == 240) = decide ((l3.length : Int) > 0) := by
      by_cases h3 : 0 < l3.length
      · have := read_long a0 (cutB b) key (by omega) r (by omega)
        rw [← hPe] at this
        rw [this, decide_eq_true (by omega)]; rfl
      · have er : r = [] := List.eq_nil_of_length_eq_zero (by omega)
        rw [er, List.append_nil, hrd, decide_eq_false (by omega)]; rfl
    refine ⟨K0 + K1 + K2 + K3 + 1, ?_⟩
    unfold phaetonlaw24_ImageCut.f
    rw [hh _ (by omega), Option.bind_some, cut_eq a0 b hbm, Option.bind_some]
    dsimp only
    rw [k1 _ (by omega), ep, Option.bind_some, if_pos rfl]
    dsimp only
    rw [show decide ((P.length : Int) < 19) = false from decide_eq_false (by omega), phaetonlaw24_ImageCut.j0.eq_2, if_neg (by decide), Option.bind_some, if_neg (by omega), e1, if_pos (by omega), if_pos (by omega), Int.toNat_natCast, Option.bind_some, if_pos (by rw [List.length_take]; simp only [List.length_nil]; omega), Option.bind_some, if_pos (by simp only [List.length_nil]; omega), Option.bind_some, e2, if_pos (by omega), if_pos (by omega), Int.toNat_natCast, ← hr, List.nil_append, List.nil_append, if_pos (by omega), k2 _ (by omega), Option.bind_some, k3 _ (by omega), Option.bind_some, s1, if_pos rfl, if_pos (by rw [s2, beq_self_eq_true]), if_pos rfl]
  · have ep : packT a0 (cutB b) key = ([], false) := if_neg hc
    refine ⟨K0 + K1 + 1, ?_⟩
    unfold phaetonlaw24_ImageCut.f
    rw [hh _ (by omega), Option.bind_some, cut_eq a0 b hbm, Option.bind_some]
    dsimp only
    rw [k1 _ (by omega), ep, Option.bind_some, if_neg (by decide)]
    exact cut_none _ key l2 l3
end Go.Proofs.Ytfgbcpdlhdgofaa.Pure
