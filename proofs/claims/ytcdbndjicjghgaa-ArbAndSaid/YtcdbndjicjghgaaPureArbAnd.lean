/- A line has 0, if any drives 0, in whatever order they stand; with one more it has the less of the two: at most 50 bits. -/
import Derived.Test.YtcdbndjicjghgaaPx14
import Derived.Test.YtcdbndjicjghgaaPureHead06
set_option linter.unusedVariables false
set_option linter.unusedSimpArgs false
namespace Go.Proofs.Ytcdbndjicjghgaa.Pure
open Go.RowKit Go.Proofs.Ytcdbndjicjghgaa.PB Go.Proofs.Ytcdbndjicjghgaa.Px Go.Proofs.YtcdbndjicjghgaaW.PrintWords Go.Proofs.YtcdbndjicjghgaaW.PrintLast Go.Proofs.YtcdbndjicjghgaaW.PrintMore
open Go.Proofs.Ytcdbndjicjghgaa.H (RankL lessB whereB leastB Parts IdOk rankF)
theorem and_end (b : List Int) (hb : ∀ x ∈ b, x = 0 ∨ x = 1) (hl : b.length ≤ 1000) (x : Int) (hx : x = 0 ∨ x = 1) : ∀ d i : Nat, i + d = b.length → Ev (fun k => phaetonlaw06_ArbAnd.l1 k b x true (b ++ [x]) b.reverse (arb_and b) (i : Int)) true := by
  intro d
  induction d with
  | zero =>
    intro i hi
    obtain ⟨K1, k1⟩ := and_k b.reverse (by rw [List.length_reverse]; omega)
    have hbx : (b ++ [x]).length ≤ 1000000 := by rw [List.length_append, List.length_singleton]; omega
    obtain ⟨K2, k2⟩ := and_k (b ++ [x]) hbx
    have hr : arb_and b.reverse = arb_and b := by
      rw [and_bit hb, and_bit (fun y hy => hb y (List.mem_reverse.mp hy))]
      simp only [List.mem_reverse]
    have hm : arb_and (b ++ [x]) = mn (arb_and b) x := by
      unfold arb_and; rw [List.foldl_append]; rfl
    rw [hr] at k1
    rw [hm] at k2
    refine ⟨K1 + K2 + 1, fun k hk => ?_⟩
    obtain ⟨k, rfl⟩ : ∃ m, k = m + 1 := ⟨k - 1, by omega⟩
    dsimp only
    have h01 : arb_and b = 0 ∨ arb_and b = 1 := by rw [and_bit hb]; split <;> simp
    rw [phaetonlaw06_ArbAnd.l1.eq_2, if_neg (by omega)]
    by_cases h0 : arb_and b = 0
    · rw [if_pos h0, k1 _ (by omega), Option.bind_some, if_pos rfl, k2 _ (by omega), Option.bind_some, if_pos rfl, if_pos rfl]
    · rw [if_neg h0, if_pos (h01.resolve_left h0), k1 _ (by omega), Option.bind_some, if_pos rfl, k2 _ (by omega), Option.bind_some, if_pos rfl, if_pos rfl]
  | succ d ih =>
    intro i hi
    have hlt : i < b.length := by omega
    have hle : ¬ arb_and b > b.getD i 0 := by
      have := (arb_and_le b 1).2 _ (rd_mem hlt)
      unfold arb_and; omega
    refine Ev.step (f := fun k => phaetonlaw06_ArbAnd.l1 k b x true (b ++ [x]) b.reverse (arb_and b) ((i + 1 : Nat) : Int)) (fun k => ?_) (ih (i + 1) (by omega))
    rw [phaetonlaw06_ArbAnd.l1.eq_2, if_pos (by omega), if_pos (by omega), rd_nat, if_neg hle, H.wrap_succ hlt (by omega)]
theorem and_turn (b : List Int) (hb : ∀ x ∈ b, x = 0 ∨ x = 1) (hl : b.length ≤ 1000) (x : Int) (hx : x = 0 ∨ x = 1) : ∀ j : Nat, j ≤ b.length → Ev (fun k => phaetonlaw06_ArbAnd.l0 k b x true (b ++ [x]) (b.drop j).reverse ((j : Int) - 1)) true := by
  intro j
  induction j with
  | zero =>
    intro _
    obtain ⟨K1, k1⟩ := and_k b (by omega)
    obtain ⟨K2, k2⟩ := and_end b hb hl x hx b.length 0 (by omega)
    refine ⟨K1 + K2 + 1, fun k hk => ?_⟩
    obtain ⟨k, rfl⟩ : ∃ m, k = m + 1 := ⟨k - 1, by omega⟩
    dsimp only
    rw [phaetonlaw06_ArbAnd.l0.eq_2, if_neg (by omega), k1 _ (by omega), Option.bind_some, List.drop_zero]
    exact k2 k (by omega)
  | succ j ih =>
    intro hj
    have hlt : j < b.length := by omega
    refine Ev.step (f := fun k => phaetonlaw06_ArbAnd.l0 k b x true (b ++ [x]) (b.drop j).reverse ((j : Int) - 1)) (fun k => ?_) (ih (by omega))
    have e : (((j + 1 : Nat) : Int) - 1) = (j : Int) := by omega
    rw [phaetonlaw06_ArbAnd.l0.eq_2, e, if_pos (by omega), if_pos (by omega), if_pos (by omega), if_pos (by rw [List.length_reverse, List.length_drop]; omega), rd_nat, show wrap64 ((j : Int) - 1) = (j : Int) - 1 by unfold wrap64; omega, rd_drop hlt, List.reverse_cons]
theorem ArbAnd : phaetonlaw06_ArbAnd.Pure := by
  intro l0 a1 _ _ _ _
  obtain ⟨K0, hh⟩ := head06_k
  obtain ⟨K1, k1⟩ : ∃ K, ∀ k, K ≤ k → phaetonref03_Bits.f k l0 50 = some (bitsN l0 50) := bitsN_k l0 50 (by decide)
  have hb := bitsN_bit l0 50
  have hbl : (bitsN l0 50).length ≤ 50 := by rw [bitsN_len]; omega
  generalize bitsN l0 50 = b at k1 hb hbl
  have hx : Go.bits .and .i64 a1 1 = 0 ∨ Go.bits .and .i64 a1 1 = 1 := by rw [H.and_one]; omega
  obtain ⟨x, hxe⟩ : ∃ x, x = Go.bits .and .i64 a1 1 := ⟨_, rfl⟩
  rw [← hxe] at hx
  obtain ⟨K2, k2⟩ := and_turn b hb (by omega) x hx b.length (Nat.le_refl _)
  refine ⟨K0 + K1 + K2, ?_⟩
  unfold phaetonlaw06_ArbAnd.f
  rw [← hxe]
  rw [hh _ (by omega), Option.bind_some, k1 _ (by omega), Option.bind_some, Option.bind_some, if_pos (by simp only [List.length_nil]; omega), Option.bind_some, List.nil_append, if_pos (by omega)]
  have := k2 (K0 + K1 + K2) (by omega)
  dsimp only at this
  rw [List.drop_length, List.reverse_nil] at this
  rw [show wrap64 ((b.length : Int) - 1) = (b.length : Int) - 1 by unfold wrap64; omega]
  exact this
end Go.Proofs.Ytcdbndjicjghgaa.Pure
