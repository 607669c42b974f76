/- Ranks: what the printed functions, and the document's answer to layer 4, come to. -/
import Derived.Test.YtechlakahpkdpaaHandOrder
import Derived.Test.YtechlakahpkdpaaPureBase
import Derived.Test.YtechlakahpkdpaaPx1
import Derived.Test.YtechlakahpkdpaaPureRef01
import Derived.Test.YtechlakahpkdpaaPx5
set_option linter.unusedVariables false
set_option linter.unusedSimpArgs false
namespace Go.Proofs.Ytechlakahpkdpaa.PB
open Go.RowKit Go.Proofs.Ytechlakahpkdpaa.Px Go.Proofs.YtechlakahpkdpaaW.PrintWords Go.Proofs.YtechlakahpkdpaaW.PrintLast Go.Proofs.YtechlakahpkdpaaW.PrintMore
theorem put_small {n : Int} {m : Nat} (hm : m ≤ 32) (h0 : 0 ≤ n) (h1 : n < 2 ^ m) : (H.putB n (m : Int)).1 = H.bitsOf n m := by rw [H.putB_yes hm h0 h1]
theorem put_bit (b : Bool) : (H.putB (frame_bit b) 1).1 = [H.bitI b] := by cases b <;> decide
theorem rankB_eq {e : Bool} {id : Int} (rm : Bool) (h : H.IdOk e id) : frame_rankB e id rm = H.rankF e id rm := by
  obtain ⟨h0, h1⟩ := h
  unfold frame_rankB H.rankF
  rw [put_bit]
  cases e with
  | false =>
    rw [if_neg (by simp)] at h1
    rw [if_neg (by simp), if_neg (by simp), show (H.putB id 11).1 = H.bitsOf id 11 from put_small (m := 11) (by decide) h0 h1, show (H.putB 0 1).1 = [0] by decide, List.append_assoc]
  | true =>
    rw [if_pos rfl] at h1
    rw [if_pos rfl, if_pos rfl, show (H.putB (id / 262144) 11).1 = H.bitsOf (id / 262144) 11 from put_small (m := 11) (by decide) (by omega) (by omega), show (H.putB 3 2).1 = [1, 1] by decide, H.and_262143,
      show (H.putB (id % 262144) 18).1 = H.bitsOf (id % 262144) 18 from put_small (m := 18) (by decide) (by omega) (by omega), List.append_assoc, List.append_assoc]
theorem r4put_k (l : List Int) (n : Int) (m : Int) (hl : l.length ≤ 1073741824) (hn : H.W64 n) : ∃ K, ∀ k, K ≤ k → phaetonref04_put.f k l n m = some (l ++ (H.putB n m).1) := by
  obtain ⟨K, hK⟩ := rput_k n m hn
  refine ⟨K, fun k hk => ?_⟩
  have hp := frame_putB_len n m
  unfold phaetonref04_put.f
  rw [hK k hk, Option.bind_some, Option.bind_some, List.nil_append, if_pos (by simp only [List.length_nil]; omega), Option.bind_some, if_pos (by omega)]
theorem rank_k {e : Bool} {id : Int} (rm : Bool) (ln : Int) (d : List Int) (h : H.IdOk e id) : ∃ K, ∀ k, K ≤ k → phaetonref04_Rank.f k e id rm ln d = some (H.rankF e id rm) := by
  rw [← rankB_eq rm h]
  obtain ⟨h0, h1⟩ := h
  have hrm : ∀ a b c d', phaetonref04_remote.f a b rm c d' = some (frame_bit rm) := fun a b c d' => by unfold phaetonref04_remote.f frame_bit; split <;> rfl
  have hb : H.W64 (frame_bit rm) := by unfold H.W64 frame_bit; split <;> omega
  have hl : ∀ (n m : Int), (H.putB n m).1.length ≤ 32 := frame_putB_len
  unfold phaetonref04_Rank.f frame_rankB
  cases e with
  | false =>
    rw [if_neg (by simp)] at h1
    obtain ⟨K1, k1⟩ := r4put_k [] id 11 (by simp) (by unfold H.W64; omega)
    obtain ⟨K2, k2⟩ := r4put_k ([] ++ (H.putB id 11).1) (frame_bit rm) 1 (by have := hl id 11; rw [List.nil_append]; omega) hb
    obtain ⟨K3, k3⟩ := r4put_k ([] ++ (H.putB id 11).1 ++ (H.putB (frame_bit rm) 1).1) 0 1 (by have := hl id 11; have := hl (frame_bit rm) 1; rw [List.nil_append, List.length_append]; omega) (by unfold H.W64; omega)
    refine ⟨K1 + K2 + K3, fun k hk => ?_⟩
    rw [if_neg (by simp), if_neg (by simp), k1 k (by omega), Option.bind_some, hrm, Option.bind_some, k2 k (by omega), Option.bind_some, k3 k (by omega), Option.bind_some, List.nil_append]
  | true =>
    rw [if_pos rfl] at h1
    obtain ⟨K1, k1⟩ := r4put_k [] (id / 262144) 11 (by simp) (by unfold H.W64; omega)
    obtain ⟨K2, k2⟩ := r4put_k ([] ++ (H.putB (id / 262144) 11).1) 3 2 (by have := hl (id / 262144) 11; rw [List.nil_append]; omega) (by unfold H.W64; omega)
    obtain ⟨K3, k3⟩ := r4put_k ([] ++ (H.putB (id / 262144) 11).1 ++ (H.putB 3 2).1) (id % 262144) 18 (by have := hl (id / 262144) 11; have := hl 3 2; rw [List.nil_append, List.length_append]; omega) (by unfold H.W64; omega)
    obtain ⟨K4, k4⟩ := r4put_k ([] ++ (H.putB (id / 262144) 11).1 ++ (H.putB 3 2).1 ++ (H.putB (id % 262144) 18).1) (frame_bit rm) 1 (by have := hl (id / 262144) 11; have := hl 3 2; have := hl (id % 262144) 18; rw [List.nil_append, List.length_append, List.length_append]; omega) hb
    refine ⟨K1 + K2 + K3 + K4, fun k hk => ?_⟩
    rw [if_pos rfl, if_pos rfl, k1 k (by omega), Option.bind_some, k2 k (by omega), Option.bind_some, Int.tmod_eq_emod_of_nonneg h0, k3 k (by omega), Option.bind_some, hrm, Option.bind_some, k4 k (by omega), Option.bind_some, List.nil_append, H.and_262143]
end Go.Proofs.Ytechlakahpkdpaa.PB
