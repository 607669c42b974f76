/- The document's rank and head of a frame. -/
import Derived.Test.YtiphbgcmbbfpmaaPureFrame
import Derived.Test.YtiphbgcmbbfpmaaPx8
import Derived.Test.YtiphbgcmbbfpmaaPx9
set_option linter.unusedVariables false
set_option linter.unusedSimpArgs false
namespace Go.Proofs.Ytiphbgcmbbfpmaa.PB
open Go.RowKit Go.Proofs.Ytiphbgcmbbfpmaa.Px Go.Proofs.YtiphbgcmbbfpmaaW.PrintWords Go.Proofs.YtiphbgcmbbfpmaaW.PrintLast Go.Proofs.YtiphbgcmbbfpmaaW.PrintMore
open Go.Proofs.Ytiphbgcmbbfpmaa.H (RankL lessB whereB leastB Parts IdOk rankF bitI bitsOf spreadB)
theorem r4put_k (l : List Int) (n : Int) (m : Int) (hl : l.length ≤ 1073741824) (hn : H.W64 n) : ∃ K, ∀ k, K ≤ k → phaetonref04_put.f k l n m = some (l ++ (H.putB n m).1) := by
  obtain ⟨K, hK⟩ := rput_k n m hn
  refine ⟨K, fun k hk => ?_⟩
  have hp := frame_putB_len n m
  unfold phaetonref04_put.f
  rw [hK k hk, Option.bind_some, Option.bind_some, List.nil_append, if_pos (by simp only [List.length_nil]; omega), Option.bind_some, if_pos (by omega)]
theorem rank_k {e : Bool} {id : Int} (rm : Bool) (ln : Int) (d : List Int) (h : H.IdOk e id) : ∃ K, ∀ k, K ≤ k → phaetonref04_Rank.f k e id rm ln d = some (H.rankF e id rm) := by
  rw [← rankB_eq rm h]
  obtain ⟨h0, h1⟩ := h
  have hrm : ∀ a b c d', phaetonref04_remote.f a b rm c d' = some (frame_bit rm) := fun a b c d' => by unfold phaetonref04_remote.f frame_bit; split <;> rfl
  have hb : H.W64 (frame_bit rm) := by unfold H.W64 frame_bit; split <;> omega
  have hl : ∀ (n m : Int), (H.putB n m).1.length ≤ 32 := frame_putB_len
  unfold phaetonref04_Rank.f frame_rankB
  cases e with
  | false =>
    rw [if_neg (by simp)] at h1
    obtain ⟨K1, k1⟩ := r4put_k [] id 11 (by simp) (by unfold H.W64; omega)
    obtain ⟨K2, k2⟩ := r4put_k ([] ++ (H.putB id 11).1) (frame_bit rm) 1 (by have := hl id 11; rw [List.nil_append]; omega) hb
    obtain ⟨K3, k3⟩ := r4put_k ([] ++ (H.putB id 11).1 ++ (H.putB (frame_bit rm) 1).1) 0 1 (by have := hl id 11; have := hl (frame_bit rm) 1; rw [List.nil_append, List.length_append]; omega) (by unfold H.W64; omega)
    refine ⟨K1 + K2 + K3, fun k hk => ?_⟩
    rw [if_neg (by simp), if_neg (by simp), k1 k (by omega), Option.bind_some, hrm, Option.bind_some, k2 k (by omega), Option.bind_some, k3 k (by omega), Option.bind_some, List.nil_append]
  | true =>
    rw [if_pos rfl] at h1
    obtain ⟨K1, k1⟩ := r4put_k [] (id / 262144) 11 (by simp) (by unfold H.W64; omega)
    obtain ⟨K2, k2⟩ := r4put_k ([] ++ (H.putB (id / 262144) 11).1) 3 2 (by have := hl (id / 262144) 11; rw [List.nil_append]; omega) (by unfold H.W64; omega)
    obtain ⟨K3, k3⟩ := r4put_k ([] ++ (H.putB (id / 262144) 11).1 ++ (H.putB 3 2).1) (id % 262144) 18 (by have := hl (id / 262144) 11; have := hl 3 2; rw [List.nil_append, List.length_append]; omega) (by unfold H.W64; omega)
    obtain ⟨K4, k4⟩ := r4put_k ([] ++ (H.putB (id / 262144) 11).1 ++ (H.putB 3 2).1 ++ (H.putB (id % 262144) 18).1) (frame_bit rm) 1 (by have := hl (id / 262144) 11; have := hl 3 2; have := hl (id % 262144) 18; rw [List.nil_append, List.length_append, List.length_append]; omega) hb
    refine ⟨K1 + K2 + K3 + K4, fun k hk => ?_⟩
    rw [if_pos rfl, if_pos rfl, k1 k (by omega), Option.bind_some, k2 k (by omega), Option.bind_some, Int.tmod_eq_emod_of_nonneg h0, k3 k (by omega), Option.bind_some, hrm, Option.bind_some, k4 k (by omega), Option.bind_some, List.nil_append, H.and_262143]
theorem r4head_k {e : Bool} {id : Int} {rm : Bool} {ln : Int} {d : List Int} (h : FRight e id rm ln d) (hw : ∀ x ∈ d, H.U8 x) : ∃ K, ∀ k, K ≤ k → phaetonref04_Head.f k e id rm ln d = some (headF e id rm ln d) := by
  have hd := h.dlen
  obtain ⟨h1, h2, h3, h4⟩ := h
  have hrl := H.rankF_len e id rm
  have hrl2 : (rankF e id rm).length ≤ 32 := by rw [hrl]; split <;> omega
  have hsl := H.spread_len d
  have p0 : (H.putB 0 1).1 = [0] := by decide
  have p4 : (H.putB ln 4).1 = bitsOf ln 4 := put_small (m := 4) (by decide) h2 (by omega)
  have hb4 := H.bitsOf_length ln 4
  obtain ⟨K1, k1⟩ := rank_k (e := e) (id := id) rm ln d h1
  obtain ⟨K2, k2⟩ := rspread_k d hw (by omega)
  have w0 : H.W64 0 := by unfold H.W64; omega
  have wl : H.W64 ln := by unfold H.W64; omega
  cases e with
  | true =>
    obtain ⟨K3, k3⟩ := r4put_k ([0] ++ rankF true id rm) 0 1 (by rw [List.length_append, List.length_singleton]; omega) w0
    obtain ⟨K4, k4⟩ := r4put_k ([0] ++ rankF true id rm ++ [0]) 0 1 (by rw [List.length_append, List.length_append, List.length_singleton]; omega) w0
    obtain ⟨K5, k5⟩ := r4put_k ([0] ++ rankF true id rm ++ [0] ++ [0]) ln 4 (by rw [List.length_append, List.length_append, List.length_append, List.length_singleton]; omega) wl
    rw [p0] at k3 k4
    rw [p4] at k5
    have hl5 : ([0] ++ rankF true id rm ++ [0] ++ [0] ++ bitsOf ln 4).length ≤ 100 := by simp only [List.length_append, List.length_singleton]; omega
    refine ⟨K1 + K2 + K3 + K4 + K5, fun k hk => ?_⟩
    unfold phaetonref04_Head.f
    rw [Option.bind_some, k1 k (by omega), Option.bind_some, if_pos (by rw [List.length_singleton]; omega), Option.bind_some, if_pos rfl, k3 k (by omega), Option.bind_some, k4 k (by omega), Option.bind_some, k5 k (by omega), Option.bind_some, Option.bind_some, List.nil_append, if_pos (by rw [List.length_nil]; omega), Option.bind_some, k2 k (by omega), Option.bind_some, if_pos (by omega)]
    unfold headF preF
    simp [List.append_assoc]
  | false =>
    obtain ⟨K3, k3⟩ := r4put_k ([0] ++ rankF false id rm) 0 1 (by rw [List.length_append, List.length_singleton]; omega) w0
    obtain ⟨K5, k5⟩ := r4put_k ([0] ++ rankF false id rm ++ [0]) ln 4 (by rw [List.length_append, List.length_append, List.length_singleton]; omega) wl
    rw [p0] at k3
    rw [p4] at k5
    have hl5 : ([0] ++ rankF false id rm ++ [0] ++ bitsOf ln 4).length ≤ 100 := by simp only [List.length_append, List.length_singleton]; omega
    refine ⟨K1 + K2 + K3 + K5, fun k hk => ?_⟩
    unfold phaetonref04_Head.f
    rw [Option.bind_some, k1 k (by omega), Option.bind_some, if_pos (by rw [List.length_singleton]; omega), Option.bind_some, if_neg (by simp), k3 k (by omega), Option.bind_some, k5 k (by omega), Option.bind_some, Option.bind_some, List.nil_append, if_pos (by rw [List.length_nil]; omega), Option.bind_some, k2 k (by omega), Option.bind_some, if_pos (by omega)]
    unfold headF preF
    simp [List.append_assoc]
end Go.Proofs.Ytiphbgcmbbfpmaa.PB
