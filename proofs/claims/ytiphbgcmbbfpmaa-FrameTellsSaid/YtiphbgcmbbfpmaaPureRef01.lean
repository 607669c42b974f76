/- What the document's answer to layer 1 comes to: the same plain words as package bits. -/
import Derived.Test.YtiphbgcmbbfpmaaPureBase
import Derived.Test.YtiphbgcmbbfpmaaPx10
import Derived.Test.YtiphbgcmbbfpmaaPx7
import Derived.Test.YtiphbgcmbbfpmaaPx8
import Derived.Test.YtiphbgcmbbfpmaaPx1
set_option linter.unusedVariables false
set_option linter.unusedSimpArgs false
namespace Go.Proofs.Ytiphbgcmbbfpmaa.PB
open Go.RowKit Go.Proofs.Ytiphbgcmbbfpmaa.Px Go.Proofs.YtiphbgcmbbfpmaaW.PrintWords Go.Proofs.YtiphbgcmbbfpmaaW.PrintLast Go.Proofs.YtiphbgcmbbfpmaaW.PrintMore
theorem rright_l0 (l : List Int) (hl : l.length ≤ 4611686018427387904) : ∀ d i : Nat, i + d = l.length → Ev (fun k => phaetonref01_Right.l0 k l (i : Int)) (H.rightB (l.drop i)) := by
  intro d
  induction d with
  | zero =>
    intro i hi
    refine Ev.step (f := fun _ => some (H.rightB (l.drop i))) (fun k => ?_) (Ev.now _)
    simp only [phaetonref01_Right.l0]
    rw [if_neg (by omega), List.drop_eq_nil_of_le (by omega)]; rfl
  | succ d ih =>
    intro i hi
    have hlt : i < l.length := by omega
    have hsp : H.rightB (l.drop i) = (H.isBit (l.getD i 0) && H.rightB (l.drop (i + 1))) := by rw [rd_drop hlt]; rfl
    rw [hsp]
    by_cases h0 : l.getD i 0 = 0
    · refine Ev.step (f := fun k => phaetonref01_Right.l0 k l ((i + 1 : Nat) : Int)) (fun k => ?_) (by rw [show H.isBit (l.getD i 0) = true by rw [h0]; rfl, Bool.true_and]; exact ih (i + 1) (by omega))
      simp only [phaetonref01_Right.l0]
      rw [if_pos (by omega), if_pos (by omega), rd_nat, if_pos h0, H.wrap_succ hlt hl]
    by_cases h1 : l.getD i 0 = 1
    · refine Ev.step (f := fun k => phaetonref01_Right.l0 k l ((i + 1 : Nat) : Int)) (fun k => ?_) (by rw [show H.isBit (l.getD i 0) = true by rw [h1]; rfl, Bool.true_and]; exact ih (i + 1) (by omega))
      simp only [phaetonref01_Right.l0]
      rw [if_pos (by omega), if_pos (by omega), rd_nat, if_neg h0, if_pos h1, H.wrap_succ hlt hl]
    · refine Ev.step (f := fun _ => some (H.isBit (l.getD i 0) && H.rightB (l.drop (i + 1)))) (fun k => ?_) (Ev.now _)
      simp only [phaetonref01_Right.l0]
      rw [if_pos (by omega), if_pos (by omega), rd_nat, if_neg h0, if_neg h1]
      have : H.isBit (l.getD i 0) = false := Bool.eq_false_iff.mpr fun h => by rcases H.isBit_cases h with h | h <;> contradiction
      rw [this]; rfl
theorem rright_k (l : List Int) (hl : l.length ≤ 4611686018427387904) : ∃ K, ∀ k, K ≤ k → phaetonref01_Right.f k l = some (H.rightB l) := by
  have := rright_l0 l hl l.length 0 (by omega)
  simpa [phaetonref01_Right.f, Ev] using this

/-! ### Put, Spread -/
theorem rput_l0 (n : Int) (m : Nat) (hm : m ≤ 62) : ∀ d j : Nat, j + d = m → Ev (fun k => phaetonref01_Put.l0 k n ((H.bitsOf n m).take j) ((m : Int) - 1 - (j : Int))) (H.bitsOf n m, true) := by
  intro d
  induction d with
  | zero =>
    intro j hj
    refine Ev.step (f := fun _ => some (H.bitsOf n m, true)) (fun k => ?_) (Ev.now _)
    simp only [phaetonref01_Put.l0]
    rw [if_neg (by omega), List.take_of_length_le (by rw [H.bitsOf_length]; omega)]
  | succ d ih =>
    intro j hj
    refine Ev.step (f := fun k => phaetonref01_Put.l0 k n ((H.bitsOf n m).take (j + 1)) ((m : Int) - 1 - ((j + 1 : Nat) : Int))) (fun k => ?_) (ih (j + 1) (by omega))
    rw [phaetonref01_Put.l0.eq_2, if_pos (by omega), if_pos (by omega), if_pos (by rw [List.length_take, H.bitsOf_length]; omega)]
    have e1 : wrap64 ((m : Int) - 1 - (j : Int) - 1) = (m : Int) - 1 - ((j + 1 : Nat) : Int) := by unfold wrap64; omega
    have e2 : shr .i64 n ((m : Int) - 1 - (j : Int)) = n / 2 ^ (m - 1 - j) := by
      unfold shr
      rw [show min (((m : Int) - 1 - (j : Int)).toNat) IntKind.i64.bits = m - 1 - j by simp [IntKind.bits]; omega]
    have e3 : (H.bitsOf n m).take (j + 1) = (H.bitsOf n m).take j ++ [n / 2 ^ (m - 1 - j) % 2] := by
      rw [H.take_snoc 0 _ j (by rw [H.bitsOf_length]; omega), List.getD_eq_getElem?_getD, H.bitsOf_get n m j (by omega)]; rfl
    rw [e1, e2, H.and_one, e3]
theorem rput_k (n a1 : Int) (hn : H.W64 n) : ∃ K, ∀ k, K ≤ k → phaetonref01_Put.f k n a1 = some (H.putB n a1) := by
  have no : ∀ k, phaetonref01_Put.j0 (k + 1) n a1 true = some (([] : List Int), false) := fun k => by rw [phaetonref01_Put.j0.eq_2, if_pos rfl]
  unfold H.putB
  by_cases c1 : a1 < 0
  · refine ⟨1, fun k hk => ?_⟩
    obtain ⟨k, rfl⟩ : ∃ m, k = m + 1 := ⟨k - 1, by omega⟩
    unfold phaetonref01_Put.f
    rw [if_pos c1, if_pos c1, no]
  rw [if_neg c1]
  by_cases c2 : 32 < a1
  · refine ⟨1, fun k hk => ?_⟩
    obtain ⟨k, rfl⟩ : ∃ m, k = m + 1 := ⟨k - 1, by omega⟩
    unfold phaetonref01_Put.f
    rw [if_neg c1, if_pos c2, if_pos c2, no]
  rw [if_neg c2]
  obtain ⟨m, rfl⟩ := Int.eq_ofNat_of_zero_le (show 0 ≤ a1 by omega)
  rw [Int.toNat_natCast]
  have hsh : shl .i64 1 (m : Int) = 2 ^ m := by rw [shl_bit (.inr rfl) m (by omega)]; omega
  by_cases c3 : n / 2 ^ m = 0
  · obtain ⟨h0, h1⟩ := (H.small_iff n m).mp c3
    rw [if_pos c3]
    obtain ⟨K, hK⟩ := rput_l0 n m (by omega) m 0 (by omega)
    refine ⟨K + 1, fun k hk => ?_⟩
    obtain ⟨k, rfl⟩ : ∃ m, k = m + 1 := ⟨k - 1, by omega⟩
    unfold phaetonref01_Put.f
    rw [if_neg c1, if_neg c2, if_neg (by omega), if_pos (by omega), hsh, decide_eq_false (by omega), phaetonref01_Put.j0.eq_2, if_neg (by decide)]
    have h := hK k (by omega)
    rw [show wrap64 ((m : Int) - 1) = (m : Int) - 1 - ((0 : Nat) : Int) by unfold wrap64; omega]
    exact h
  · rw [if_neg c3]
    refine ⟨1, fun k hk => ?_⟩
    obtain ⟨k, rfl⟩ : ∃ m, k = m + 1 := ⟨k - 1, by omega⟩
    unfold phaetonref01_Put.f
    rw [if_neg c1, if_neg c2]
    by_cases c4 : n < 0
    · rw [if_pos c4, no]
    · have : ¬ n < 2 ^ m := fun h => c3 ((H.small_iff n m).mpr ⟨by omega, h⟩)
      rw [if_neg c4, if_pos (by omega), hsh, decide_eq_true (by omega), no]
theorem spread_take (l : List Int) (i : Nat) (h : i < l.length) : H.spreadB (l.take (i + 1)) = H.spreadB (l.take i) ++ H.bitsOf (wrap64 (l.getD i 0)) 8 := by
  rw [H.take_snoc 0 l i h]; simp [H.spreadB, List.flatMap_append]
theorem spread_length (l : List Int) : (H.spreadB l).length = 8 * l.length := by
  induction l with
  | nil => rfl
  | cons x l ih => rw [show H.spreadB (x :: l) = H.bitsOf (wrap64 x) 8 ++ H.spreadB l from rfl, List.length_append, H.bitsOf_length, ih, List.length_cons]; omega
theorem rspread_l0 (l : List Int) (hw : ∀ x ∈ l, H.U8 x) (hl : l.length ≤ 1099511627776) : ∀ d i : Nat, i + d = l.length → Ev (fun k => phaetonref01_Spread.l0 k l (H.spreadB (l.take i)) (i : Int)) (H.spreadB l) := by
  intro d
  induction d with
  | zero =>
    intro i hi
    refine Ev.step (f := fun _ => some (H.spreadB l)) (fun k => ?_) (Ev.now _)
    rw [phaetonref01_Spread.l0.eq_2, if_neg (by omega), List.take_of_length_le (by omega)]
  | succ d ih =>
    intro i hi
    have hlt : i < l.length := by omega
    have hu := hw _ (rd_mem hlt)
    obtain ⟨K, hK⟩ := rput_k (wrap64 (l.getD i 0)) 8 (by rw [H.wrap_u8 hu]; unfold H.U8 at hu; unfold H.W64; omega)
    obtain ⟨K2, hK2⟩ := ih (i + 1) (by omega)
    refine ⟨K + K2 + 1, fun k hk => ?_⟩
    obtain ⟨k, rfl⟩ : ∃ m, k = m + 1 := ⟨k - 1, by omega⟩
    have hp : H.putB (wrap64 (l.getD i 0)) 8 = (H.bitsOf (wrap64 (l.getD i 0)) 8, true) := by
      rw [H.wrap_u8 hu]; unfold H.U8 at hu; exact H.putB_yes (m := 8) (by omega) (by omega) (by omega)
    have hlen := spread_length (l.take i)
    rw [List.length_take] at hlen
    show phaetonref01_Spread.l0 (k + 1) l (H.spreadB (l.take i)) (i : Int) = _
    rw [phaetonref01_Spread.l0.eq_2, if_pos (by omega), if_pos (by omega), rd_nat, hK _ (by omega), Option.bind_some, hp, if_pos (by rw [H.bitsOf_length]; omega), H.wrap_succ hlt (by omega), ← spread_take l i hlt]
    exact hK2 k (by omega)
theorem rspread_k (l : List Int) (hw : ∀ x ∈ l, H.U8 x) (hl : l.length ≤ 1099511627776) : ∃ K, ∀ k, K ≤ k → phaetonref01_Spread.f k l = some (H.spreadB l) := rspread_l0 l hw hl l.length 0 (by omega)

/-! ### Same -/
theorem same_l0 (l : List Int) (hl : l.length ≤ 4611686018427387904) : ∀ d i : Nat, i + d = l.length → Ev (fun k => phaetonref01_Same.l0 k l l (i : Int)) true := by
  intro d
  induction d with
  | zero =>
    intro i hi
    refine Ev.step (f := fun _ => some true) (fun k => ?_) (Ev.now _)
    rw [phaetonref01_Same.l0.eq_2, if_neg (by omega)]
  | succ d ih =>
    intro i hi
    have hlt : i < l.length := by omega
    refine Ev.step (f := fun k => phaetonref01_Same.l0 k l l ((i + 1 : Nat) : Int)) (fun k => ?_) (ih (i + 1) (by omega))
    rw [phaetonref01_Same.l0.eq_2, if_pos (by omega), if_pos (by omega), if_pos (by omega), if_pos rfl, H.wrap_succ hlt hl]
theorem same_k (l : List Int) (hl : l.length ≤ 4611686018427387904) : ∃ K, ∀ k, K ≤ k → phaetonref01_Same.f k l l = some true := by
  obtain ⟨K, hK⟩ := same_l0 l hl l.length 0 (by omega)
  refine ⟨K, fun k hk => ?_⟩
  unfold phaetonref01_Same.f
  rw [if_pos rfl]
  exact hK k hk
theorem strNums_inj : ∀ a b : List Int, (∀ x ∈ a, H.U8 x) → (∀ x ∈ b, H.U8 x) → (strOfNums a).toList = (strOfNums b).toList → a = b := by
  have key : ∀ l : List Int, (strOfNums l).toList = l.map fun n => UInt8.ofNat n.toNat := fun l => by
    unfold strOfNums
    exact Go.ByteArray.toList_mk _
  intro a b ha hb h
  rw [key, key] at h
  have inj : ∀ (a b : List Int), (∀ x ∈ a, H.U8 x) → (∀ x ∈ b, H.U8 x) → (a.map fun n => UInt8.ofNat n.toNat) = (b.map fun n => UInt8.ofNat n.toNat) → a = b := by
    intro a
    induction a with
    | nil => intro b _ _ h; cases b with
      | nil => rfl
      | cons y b => simp at h
    | cons x a ih =>
      intro b ha hb h
      cases b with
      | nil => simp at h
      | cons y b =>
        simp only [List.map_cons, List.cons.injEq] at h
        have hx := ha x (by simp)
        have hy := hb y (by simp)
        unfold H.U8 at hx hy
        have h1 := congrArg UInt8.toNat h.1
        simp at h1
        rw [ih b (fun z hz => ha z (by simp [hz])) (fun z hz => hb z (by simp [hz])) h.2, show x = y by omega]
  exact inj a b ha hb h
theorem sameBytes_eq (a b : List Int) (ha : ∀ x ∈ a, H.U8 x) (hb : ∀ x ∈ b, H.U8 x) : phaetonref01_SameBytes.f a b = some (decide (a = b)) := by
  unfold phaetonref01_SameBytes.f
  congr 1
  by_cases h : a = b
  · subst h; rw [beq_self_eq_true, decide_eq_true rfl]
  · rw [decide_eq_false h, beq_eq_false_iff_ne]; exact fun e => h (strNums_inj a b ha hb e)
theorem sameBytes (l : List Int) : phaetonref01_SameBytes.f l l = some true := by
  unfold phaetonref01_SameBytes.f; rw [beq_self_eq_true]

end Go.Proofs.Ytiphbgcmbbfpmaa.PB
