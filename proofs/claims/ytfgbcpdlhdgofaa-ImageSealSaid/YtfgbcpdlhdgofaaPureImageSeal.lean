/- The seal is of all ahead of it, and of the key at both ends: with up to four bytes, one behind the other, turned it is another one. -/
import Derived.Test.YtfgbcpdlhdgofaaPx7
import Derived.Test.YtfgbcpdlhdgofaaPureHead24
import Derived.Test.YtfgbcpdlhdgofaaPureBurst
set_option linter.unusedVariables false
set_option linter.unusedSimpArgs false
namespace Go.Proofs.Ytfgbcpdlhdgofaa.Pure
open Go.RowKit Go.Proofs.Ytfgbcpdlhdgofaa.PB Go.Proofs.Ytfgbcpdlhdgofaa.Px Go.Proofs.YtfgbcpdlhdgofaaW.PrintWords Go.Proofs.YtfgbcpdlhdgofaaW.PrintLast Go.Proofs.YtfgbcpdlhdgofaaW.PrintMore
theorem pick4_U8 {a b c d : Int} (ha : H.U8 a) (hb : H.U8 b) (hc : H.U8 c) (hd : H.U8 d) (i : Int) : H.U8 (HW.pick4 a b c d i) := by
  unfold HW.pick4
  split
  · exact ha
  split
  · exact hb
  split
  · exact hc
  · exact hd
theorem seal_same {b C : List Int} {at_ : Nat} (hw : Win at_ C b) (hC : ∀ x ∈ C, H.U8 x) (hb : ∀ x ∈ b, H.U8 x) {key : Int} (hm : mayB key = true) : ((sealR C key == sealV b key) == ((strOfNums C).toList == (strOfNums b).toList)) = true := by
  have hs : sealR C key = sealV C key := if_pos hm
  rw [hs]
  by_cases he : C = b
  · rw [he]; simp
  · rw [beq_eq_false_iff_ne.mpr (fun h => he (seal_win hw hC hb h)), beq_eq_false_iff_ne.mpr (fun h => he (strNums_inj _ _ hC hb h))]; rfl
theorem seal_l0 {b : List Int} (hb : ∀ x ∈ b, H.U8 x) (hl : b.length ≤ 1000) {key : Int} (hm : mayB key = true) {at_ : Nat} (ha : at_ < b.length) {x1 x2 x3 x4 : Int} (h1 : H.U8 x1) (h2 : H.U8 x2) (h3 : H.U8 x3) (h4 : H.U8 x4) (x0 : Int) :
    ∀ d i : Nat, i + d = 4 → Ev (fun k => phaetonlaw24_ImageSeal.l0 k b key true (sealV b key) (turnL b at_ (HW.pick4 x1 x2 x3 x4) i) (at_ : Int) (i : Int) x0 x1 x2 x3 x4) true := by
  have hr := sealV_range b key
  have stop : ∀ i, i ≤ 4 → turnL b at_ (HW.pick4 x1 x2 x3 x4) i = turnL b at_ (HW.pick4 x1 x2 x3 x4) 4 → (¬ ((i : Int) < 4) ∨ ¬ (wrap64 ((at_ : Int) + (i : Int)) < (b.length : Int))) → Ev (fun k => phaetonlaw24_ImageSeal.l0 k b key true (sealV b key) (turnL b at_ (HW.pick4 x1 x2 x3 x4) i) (at_ : Int) (i : Int) x0 x1 x2 x3 x4) true := fun i hi4 ht hn => by
    have hU := turnL_U8 hb at_ (pick4_U8 h1 h2 h3 h4) 4
    have hS := seal_same (turn_win b at_ (HW.pick4 x1 x2 x3 x4)) hU hb hm
    have hL := turnL_length b at_ (HW.pick4 x1 x2 x3 x4) 4
    rw [ht]
    obtain ⟨K, hK⟩ := Seal_k (turnL b at_ (HW.pick4 x1 x2 x3 x4) 4) key
    refine ⟨K + 1, fun k hk => ?_⟩
    obtain ⟨k, rfl⟩ : ∃ m, k = m + 1 := ⟨k - 1, by omega⟩
    have hg := hK k (by omega)
    show phaetonlaw24_ImageSeal.l0 (k + 1) _ _ _ _ _ _ _ _ _ _ _ _ = _
    rw [phaetonlaw24_ImageSeal.l0.eq_2]
    by_cases hi : (i : Int) < 4
    · rw [if_pos hi, if_neg (by rw [hL]; exact hn.resolve_left (fun h => h hi)), if_pos hr.1, if_pos (by omega), hg, Option.bind_some, if_pos hS, if_pos rfl]
    · rw [if_neg hi, if_pos hr.1, if_pos (by omega), hg, Option.bind_some, if_pos hS, if_pos rfl]
  intro d
  induction d with
  | zero =>
    intro i hi
    obtain rfl : i = 4 := by omega
    exact stop 4 (Nat.le_refl _) rfl (Or.inl (by omega))
  | succ d ih =>
    intro i hi
    have e1 : wrap64 ((at_ : Int) + (i : Int)) = ((at_ + i : Nat) : Int) := by unfold wrap64; omega
    have e2 : wrap64 ((i : Int) + 1) = ((i + 1 : Nat) : Int) := by unfold wrap64; omega
    have hL := turnL_length b at_ (HW.pick4 x1 x2 x3 x4) i
    by_cases hlt : at_ + i < b.length
    · refine Ev.step (fun k => ?_) (ih (i + 1) (by omega))
      rw [phaetonlaw24_ImageSeal.l0.eq_2, if_pos (by omega), e1, if_pos (by omega), if_pos (by omega), rd_nat, Int.toNat_natCast, e2]
      conv => rhs; unfold turnL
      rw [if_pos hlt]
    · exact stop i (by omega) (turnL_stop (by omega) (by omega)).symm (Or.inr (by omega))
theorem ImageSeal : phaetonlaw24_ImageSeal.Pure := by
  intro l key a0 x1 x2 x3 x4 hl hb hw hk h0 h1 h2 h3 h4
  have hmx : maxLen = 9223372036854775807 := rfl
  have hU : ∀ x ∈ l, H.U8 x := fun x hx => H.of_wf8 (hw x hx)
  obtain ⟨u0, u1⟩ := H.of_wfu16 h0
  obtain ⟨n, rfl⟩ := Int.eq_ofNat_of_zero_le u0
  have e2 : mn (l.length : Int) 300 = ((min l.length 300 : Nat) : Int) := by unfold mn; split <;> omega
  obtain ⟨b, hB⟩ : ∃ b, b = l.take (min l.length 300) := ⟨_, rfl⟩
  have hbl : b.length = min l.length 300 := by rw [hB, List.length_take]; omega
  have hbU : ∀ x ∈ b, H.U8 x := by rw [hB]; exact take_U8 hU _
  obtain ⟨K0, hh⟩ := head24_k
  obtain ⟨K1, k1⟩ := Seal_k b key
  obtain ⟨K2, k2⟩ := rseal_k b key (by omega) hbU
  have hf : ∀ k, K0 ≤ k → K1 ≤ k → phaetonlaw24_ImageSeal.f k l key (n : Int) x1 x2 x3 x4 = (if mayB key = true then (if (b.length : Int) = 0 then ((phaetonref24_Seal.f k b key).bind fun t235 => (if sealR b key = t235 then (if true = true then (some true) else (none)) else (none))) else (if (b.length : Int) = 0 then none else phaetonlaw24_ImageSeal.l0 k b key true (sealR b key) b (Int.tmod (wrap64 (n : Int)) (b.length : Int)) 0 (n : Int) x1 x2 x3 x4)) else (if sealR b key = 0 then (if true = true then (some true) else (none)) else (none))) := fun k hk0 hk1 => by
    unfold phaetonlaw24_ImageSeal.f
    rw [hh k hk0, Option.bind_some, Option.bind_some, e2, if_pos (by omega), if_pos (by omega), Int.toNat_natCast, ← hB, if_pos (by simp only [List.length_nil]; omega), Option.bind_some, List.nil_append, k1 k hk1, Option.bind_some, rmay_eq, Option.bind_some]
    by_cases hm : mayB key = true
    · rw [if_pos hm, if_pos hm]
      by_cases hz : (b.length : Int) = 0
      · rw [if_pos hz, if_pos hz]
      · rw [if_neg hz, if_neg hz, Option.bind_some, if_pos (by simp only [List.length_nil]; omega), Option.bind_some, List.nil_append]
    · rw [if_neg hm, if_neg hm]
  by_cases hm : mayB key = true
  · have hs : sealR b key = sealV b key := if_pos hm
    by_cases hz : (b.length : Int) = 0
    · refine ⟨K0 + K1 + K2, ?_⟩
      rw [hf _ (by omega) (by omega), if_pos hm, if_pos hz, k2 _ (by omega), Option.bind_some, if_pos rfl, if_pos rfl]
    · have e3 : Int.tmod (wrap64 (n : Int)) (b.length : Int) = ((n % b.length : Nat) : Int) := by
        rw [show wrap64 (n : Int) = (n : Int) by unfold wrap64; omega, Int.tmod_eq_emod_of_nonneg (by omega)]; rfl
      obtain ⟨K3, k3⟩ := seal_l0 hbU (by omega) hm (Nat.mod_lt n (show b.length > 0 by omega)) (H.of_wf8 h1) (H.of_wf8 h2) (H.of_wf8 h3) (H.of_wf8 h4) (n : Int) 4 0 (by omega)
      refine ⟨K0 + K1 + K3, ?_⟩
      rw [hf _ (by omega) (by omega), if_pos hm, if_neg hz, if_neg hz, e3, hs]
      exact k3 _ (by omega)
  · have hs : sealR b key = 0 := if_neg hm
    refine ⟨K0 + K1, ?_⟩
    rw [hf _ (by omega) (by omega), if_neg hm, hs, if_pos rfl, if_pos rfl]
end Go.Proofs.Ytfgbcpdlhdgofaa.Pure
