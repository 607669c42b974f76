/- What the document's answer to layer 16 comes to: the same as package trust. -/
import Derived.Test.YtfjffajmagefkaaPx5
import Derived.Test.YtfjffajmagefkaaPx6
import Derived.Test.YtfjffajmagefkaaPx7
import Derived.Test.YtfjffajmagefkaaPureTrustCheck
import Derived.Test.YtfjffajmagefkaaPureRefByte
set_option linter.unusedVariables false
set_option linter.unusedSimpArgs false
namespace Go.Proofs.Ytfjffajmagefkaa.PB
open Go.RowKit Go.Proofs.Ytfjffajmagefkaa.Px Go.Proofs.YtfjffajmagefkaaW.PrintWords Go.Proofs.YtfjffajmagefkaaW.PrintLast Go.Proofs.YtfjffajmagefkaaW.PrintMore
theorem rwrap_k (a c : Int) (l : List Int) (hl : ∀ x ∈ l, H.U8 x) : ∃ K, ∀ k, K ≤ k → phaetonref16_Wrap.f k a c l = some (wrapT a c l) := by
  by_cases h : a / 65536 = 0 ∧ 0 ≤ c ∧ c < 15 ∧ l.length ≤ 6
  · obtain ⟨h1, h2, h3, h4⟩ := h
    have hU : ∀ x ∈ [(a / 256) % 256, a % 256, c % 256] ++ l, H.U8 x := fun x hx => by
      rcases List.mem_append.mp hx with h | h
      · exact head3_U8 a c x h
      · exact hl x h
    obtain ⟨K, hK⟩ := refByte_k ([(a / 256) % 256, a % 256, c % 256] ++ l) (by simp only [List.length_append, List.length_cons, List.length_nil]; omega) hU
    refine ⟨K, fun k hk => ?_⟩
    have hr := tsum_range a c l
    unfold phaetonref16_Wrap.f wrapT
    rw [if_neg (by omega), if_neg (by omega), if_neg (by omega), if_neg (by omega), if_neg (by omega), Option.bind_some, if_pos (by simp only [List.length_cons, List.length_nil]; omega), Option.bind_some, hK k hk, Option.bind_some, Option.bind_some,
      if_pos (by simp only [List.length_append, List.length_cons, List.length_nil]; omega), Option.bind_some, if_pos (by simp only [List.length_drop, List.length_append, List.length_cons, List.length_nil]; omega), if_pos ⟨h1, h2, h3, h4⟩]
    show some ([tsum a c l % 256] ++ _, true) = _
    rw [show tsum a c l % 256 = tsum a c l by omega]; rfl
  · refine ⟨0, fun k _ => ?_⟩
    unfold phaetonref16_Wrap.f wrapT
    rw [if_neg h]
    by_cases g1 : a < 0
    · rw [if_pos g1]
    rw [if_neg g1]
    by_cases g2 : a > 65535
    · rw [if_pos g2]
    rw [if_neg g2]
    by_cases g3 : c < 0
    · rw [if_pos g3]
    rw [if_neg g3]
    by_cases g4 : c > 14
    · rw [if_pos g4]
    rw [if_neg g4, if_pos (by omega)]
theorem ropen_k (a : Int) (l : List Int) (hl : ∀ x ∈ l, H.U8 x) (hn : l.length ≤ 1000) : ∃ K, ∀ k, K ≤ k → phaetonref16_Open.f k a l = some (openT a l) := by
  match l, hl, hn with
  | [], _, _ => exact ⟨0, fun k _ => by unfold phaetonref16_Open.f; rfl⟩
  | [_], _, _ => exact ⟨0, fun k _ => by unfold phaetonref16_Open.f; rfl⟩
  | x :: y :: r, hl, hn =>
    have hy := hl y (by simp)
    have hx' := hl x (by simp)
    have hy' := hy
    unfold H.U8 at hx' hy'
    simp only [List.length_cons] at hn
    obtain ⟨K, hK⟩ := rwrap_k a y r (fun z hz => hl z (by simp [hz]))
    refine ⟨K, fun k hk => ?_⟩
    have e1 : rd (x :: y :: r) 1 = y := rfl
    unfold phaetonref16_Open.f
    rw [if_neg (by simp only [List.length_cons]; omega), if_pos (by simp only [List.length_cons]; omega), if_pos (by simp only [List.length_cons]; omega), e1, H.wrap_u8 hy, show (x :: y :: r).drop 2 = r from rfl, hK k hk, Option.bind_some, openT_cons]
    by_cases h : a / 65536 = 0 ∧ 0 ≤ y ∧ y < 15 ∧ r.length ≤ 6
    · rw [show wrapT a y r = (tsum a y r :: y :: r, true) from (open_wrap a y r h.1 h.2.1 h.2.2.1 h.2.2.2).1, if_pos rfl]
      have hU : ∀ z ∈ tsum a y r :: y :: r, H.U8 z := fun z hz => by
        rcases List.mem_cons.mp hz with rfl | hz
        · exact tsum_U8 _ _ _
        · exact hl z (by simp [List.mem_cons.mp hz])
      rw [sameBytes_eq _ _ hU hl]
      by_cases hs : tsum a y r = x
      · rw [hs, decide_eq_true rfl, Option.bind_some, if_pos rfl, Option.bind_some, if_pos (by simp only [List.length_nil]; omega), if_pos ⟨h.1, h.2.2.2, h.2.2.1, rfl⟩]; rfl
      · rw [decide_eq_false (fun e => hs (List.cons.inj e).1), Option.bind_some, if_neg (by decide), if_neg (fun g => hs g.2.2.2)]
    · rw [show wrapT a y r = ([], false) from if_neg h, if_neg (by decide), if_neg (fun g => h ⟨g.1, hy'.1, g.2.2.1, g.2.1⟩)]
theorem rcheck_k (b0 : Bool) (n1 n2 n3 a : Int) (l : List Int) (most : Int) (hl : ∀ x ∈ l, H.U8 x) (hlen : l.length ≤ 1000) (hn : b0 = true → 0 ≤ n1 ∧ n1 ≤ 14) (hf : b0 = false → n1 = 0) : ∃ K, ∀ k, K ≤ k → phaetonref16_Check.f k b0 n1 n2 n3 a l most = some (checkT b0 n1 n2 n3 a l most) := by
  obtain ⟨K, hK⟩ := ropen_k a l hl hlen
  refine ⟨K + 1, fun k hk => ?_⟩
  obtain ⟨k, rfl⟩ : ∃ j, k = j + 1 := ⟨k - 1, by omega⟩
  have hc := openT_count a l hl
  unfold phaetonref16_Check.f checkT
  rw [hK _ (by omega), Option.bind_some]
  by_cases ho : (openT a l).2.2 = true
  case neg => rw [if_neg ho, if_neg ho]
  rw [if_pos ho, if_pos ho]
  generalize (openT a l).2.1 = c at hc
  have hb : 0 ≤ n1 ∧ n1 ≤ 14 := by
    cases b0 with
    | true => exact hn rfl
    | false => rw [hf rfl]; exact ⟨by decide, by decide⟩
  have e1 : wrap64 (c - n1) = c - n1 := by unfold wrap64; omega
  have key : ∀ d : Int, d = (c - n1 + 15) % 15 → phaetonref16_Check.j0 (k + 1) most (openT a l).1 c d b0 n1 n2 n3 = some (if kindT b0 n1 c most = 3 ∨ kindT b0 n1 c most = 6 then (true, c, kindT b0 n1 c most, wrap64 (n3 + 1), [], kindT b0 n1 c most) else (true, c, kindT b0 n1 c most, 0, (openT a l).1, kindT b0 n1 c most)) := fun d hd => by
    rw [phaetonref16_Check.j0.eq_2]
    unfold kindT
    cases b0 with
    | false => rfl
    | true =>
      rw [if_pos rfl, if_pos rfl, ← hd]
      by_cases h1 : d = 0
      · rw [if_pos h1, if_pos h1]; rfl
      rw [if_neg h1, if_neg h1]
      by_cases h2 : d = 1
      · rw [if_pos h2, if_pos h2]; rfl
      rw [if_neg h2, if_neg h2]
      by_cases h3 : d ≤ most
      · rw [if_pos h3, if_pos h3]; rfl
      rw [if_neg h3, if_neg h3]; rfl
  rw [e1]
  by_cases g : c - n1 < 0
  · rw [if_pos g, show wrap64 (c - n1 + 15) = c - n1 + 15 by unfold wrap64; omega]
    exact (key _ (by omega)).trans (by split <;> rfl)
  · rw [if_neg g]
    exact (key _ (by omega)).trans (by split <;> rfl)
end Go.Proofs.Ytfjffajmagefkaa.PB
