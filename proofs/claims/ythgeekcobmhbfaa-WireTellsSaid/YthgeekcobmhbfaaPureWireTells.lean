/- A right frame as it is sent, its length, and the frame of any right bits, are the document's. -/
import Derived.Test.YthgeekcobmhbfaaHandBits
import Derived.Test.YthgeekcobmhbfaaWMore
import Derived.Test.YthgeekcobmhbfaaWLast
import Derived.Test.YthgeekcobmhbfaaPx10
import Derived.Test.YthgeekcobmhbfaaPx2
import Derived.Test.YthgeekcobmhbfaaPx3
import Derived.Test.YthgeekcobmhbfaaPx1
import Derived.Test.YthgeekcobmhbfaaPx9
import Derived.Test.YthgeekcobmhbfaaHandOrder
import Derived.Test.YthgeekcobmhbfaaPx7
import Derived.Test.YthgeekcobmhbfaaPx5
import Derived.Test.YthgeekcobmhbfaaHandCrc
import Derived.Test.YthgeekcobmhbfaaHandStuffLaw
import Derived.Test.YthgeekcobmhbfaaHandStuffMore
import Derived.Test.YthgeekcobmhbfaaPx11
import Derived.Test.YthgeekcobmhbfaaPx13
import Derived.Test.YthgeekcobmhbfaaHandStuffTell
import Derived.Test.YthgeekcobmhbfaaPx4
import Derived.Test.YthgeekcobmhbfaaPx14
/- Plain words on what is read at a place, and on shifts of a bit. -/
set_option linter.unusedVariables false
set_option linter.unusedSimpArgs false
namespace Go.Proofs.Ythgeekcobmhbfaa.PB
open Go.RowKit Go.Proofs.YthgeekcobmhbfaaW.PrintWords Go.Proofs.YthgeekcobmhbfaaW.PrintLast Go.Proofs.YthgeekcobmhbfaaW.PrintMore
theorem rd_nat (l : List Int) (i : Nat) : rd l (i : Int) = l.getD i 0 := by simp [rd]
theorem rd_drop {l : List Int} {i : Nat} (h : i < l.length) : l.drop i = l.getD i 0 :: l.drop (i + 1) := by
  rw [List.drop_eq_getElem_cons h, List.getD_eq_getElem?_getD, List.getElem?_eq_getElem h]; rfl
theorem rd_mem {l : List Int} {i : Nat} (h : i < l.length) : l.getD i 0 ∈ l := by
  rw [List.getD_eq_getElem?_getD, List.getElem?_eq_getElem h]; exact List.getElem_mem h
theorem shl_bit {b : Int} (hb : b = 0 ∨ b = 1) (n : Nat) (hn : n ≤ 61) : shl .i64 b (n : Int) = b * 2 ^ n := by
  unfold shl
  rw [show min ((n : Int).toNat) IntKind.i64.bits = n by simp [IntKind.bits]; omega]
  rw [IntKind.wrap_i64]
  have hp : (2 : Nat) ^ n ≤ 2 ^ 61 := Nat.pow_le_pow_right (by decide) hn
  have hp' : ((2 : Int) ^ n) ≤ 2305843009213693952 := by
    have : ((2 ^ n : Nat) : Int) ≤ ((2 ^ 61 : Nat) : Int) := by exact_mod_cast hp
    simpa using this
  have := H.pow_pos2 n
  rcases hb with rfl | rfl <;> omega
end Go.Proofs.Ythgeekcobmhbfaa.PB
/- What the document's answer to layer 1 comes to: the same plain words as package bits. -/
set_option linter.unusedVariables false
set_option linter.unusedSimpArgs false
namespace Go.Proofs.Ythgeekcobmhbfaa.PB
open Go.RowKit Go.Proofs.Ythgeekcobmhbfaa.Px Go.Proofs.YthgeekcobmhbfaaW.PrintWords Go.Proofs.YthgeekcobmhbfaaW.PrintLast Go.Proofs.YthgeekcobmhbfaaW.PrintMore
theorem rright_l0 (l : List Int) (hl : l.length ≤ 4611686018427387904) : ∀ d i : Nat, i + d = l.length → Ev (fun k => phaetonref01_Right.l0 k l (i : Int)) (H.rightB (l.drop i)) := by
  intro d
  induction d with
  | zero =>
    intro i hi
    refine Ev.step (f := fun _ => some (H.rightB (l.drop i))) (fun k => ?_) (Ev.now _)
    simp only [phaetonref01_Right.l0]
    rw [if_neg (by omega), List.drop_eq_nil_of_le (by omega)]; rfl
  | succ d ih =>
    intro i hi
    have hlt : i < l.length := by omega
    have hsp : H.rightB (l.drop i) = (H.isBit (l.getD i 0) && H.rightB (l.drop (i + 1))) := by rw [rd_drop hlt]; rfl
    rw [hsp]
    by_cases h0 : l.getD i 0 = 0
    · refine Ev.step (f := fun k => phaetonref01_Right.l0 k l ((i + 1 : Nat) : Int)) (fun k => ?_) (by rw [show H.isBit (l.getD i 0) = true by rw [h0]; rfl, Bool.true_and]; exact ih (i + 1) (by omega))
      simp only [phaetonref01_Right.l0]
      rw [if_pos (by omega), if_pos (by omega), rd_nat, if_pos h0, H.wrap_succ hlt hl]
    by_cases h1 : l.getD i 0 = 1
    · refine Ev.step (f := fun k => phaetonref01_Right.l0 k l ((i + 1 : Nat) : Int)) (fun k => ?_) (by rw [show H.isBit (l.getD i 0) = true by rw [h1]; rfl, Bool.true_and]; exact ih (i + 1) (by omega))
      simp only [phaetonref01_Right.l0]
      rw [if_pos (by omega), if_pos (by omega), rd_nat, if_neg h0, if_pos h1, H.wrap_succ hlt hl]
    · refine Ev.step (f := fun _ => some (H.isBit (l.getD i 0) && H.rightB (l.drop (i + 1)))) (fun k => ?_) (Ev.now _)
      simp only [phaetonref01_Right.l0]
      rw [if_pos (by omega), if_pos (by omega), rd_nat, if_neg h0, if_neg h1]
      have : H.isBit (l.getD i 0) = false := Bool.eq_false_iff.mpr fun h => by rcases H.isBit_cases h with h | h <;> contradiction
      rw [this]; rfl
theorem rright_k (l : List Int) (hl : l.length ≤ 4611686018427387904) : ∃ K, ∀ k, K ≤ k → phaetonref01_Right.f k l = some (H.rightB l) := by
  have := rright_l0 l hl l.length 0 (by omega)
  simpa [phaetonref01_Right.f, Ev] using this
/-! ### Put, Spread -/
theorem rput_l0 (n : Int) (m : Nat) (hm : m ≤ 62) : ∀ d j : Nat, j + d = m → Ev (fun k => phaetonref01_Put.l0 k n ((H.bitsOf n m).take j) ((m : Int) - 1 - (j : Int))) (H.bitsOf n m, true) := by
  intro d
  induction d with
  | zero =>
    intro j hj
    refine Ev.step (f := fun _ => some (H.bitsOf n m, true)) (fun k => ?_) (Ev.now _)
    simp only [phaetonref01_Put.l0]
    rw [if_neg (by omega), List.take_of_length_le (by rw [H.bitsOf_length]; omega)]
  | succ d ih =>
    intro j hj
    refine Ev.step (f := fun k => phaetonref01_Put.l0 k n ((H.bitsOf n m).take (j + 1)) ((m : Int) - 1 - ((j + 1 : Nat) : Int))) (fun k => ?_) (ih (j + 1) (by omega))
    rw [phaetonref01_Put.l0.eq_2, if_pos (by omega), if_pos (by omega), if_pos (by rw [List.length_take, H.bitsOf_length]; omega)]
    have e1 : wrap64 ((m : Int) - 1 - (j : Int) - 1) = (m : Int) - 1 - ((j + 1 : Nat) : Int) := by unfold wrap64; omega
    have e2 : shr .i64 n ((m : Int) - 1 - (j : Int)) = n / 2 ^ (m - 1 - j) := by
      unfold shr
      rw [show min (((m : Int) - 1 - (j : Int)).toNat) IntKind.i64.bits = m - 1 - j by simp [IntKind.bits]; omega]
    have e3 : (H.bitsOf n m).take (j + 1) = (H.bitsOf n m).take j ++ [n / 2 ^ (m - 1 - j) % 2] := by
      rw [H.take_snoc 0 _ j (by rw [H.bitsOf_length]; omega), List.getD_eq_getElem?_getD, H.bitsOf_get n m j (by omega)]; rfl
    rw [e1, e2, H.and_one, e3]
theorem rput_k (n a1 : Int) (hn : H.W64 n) : ∃ K, ∀ k, K ≤ k → phaetonref01_Put.f k n a1 = some (H.putB n a1) := by
  have no : ∀ k, phaetonref01_Put.j0 (k + 1) n a1 true = some (([] : List Int), false) := fun k => by rw [phaetonref01_Put.j0.eq_2, if_pos rfl]
  unfold H.putB
  by_cases c1 : a1 < 0
  · refine ⟨1, fun k hk => ?_⟩
    obtain ⟨k, rfl⟩ : ∃ m, k = m + 1 := ⟨k - 1, by omega⟩
    unfold phaetonref01_Put.f
    rw [if_pos c1, if_pos c1, no]
  rw [if_neg c1]
  by_cases c2 : 32 < a1
  · refine ⟨1, fun k hk => ?_⟩
    obtain ⟨k, rfl⟩ : ∃ m, k = m + 1 := ⟨k - 1, by omega⟩
    unfold phaetonref01_Put.f
    rw [if_neg c1, if_pos c2, if_pos c2, no]
  rw [if_neg c2]
  obtain ⟨m, rfl⟩ := Int.eq_ofNat_of_zero_le (show 0 ≤ a1 by omega)
  rw [Int.toNat_natCast]
  have hsh : shl .i64 1 (m : Int) = 2 ^ m := by rw [shl_bit (.inr rfl) m (by omega)]; omega
  by_cases c3 : n / 2 ^ m = 0
  · obtain ⟨h0, h1⟩ := (H.small_iff n m).mp c3
    rw [if_pos c3]
    obtain ⟨K, hK⟩ := rput_l0 n m (by omega) m 0 (by omega)
    refine ⟨K + 1, fun k hk => ?_⟩
    obtain ⟨k, rfl⟩ : ∃ m, k = m + 1 := ⟨k - 1, by omega⟩
    unfold phaetonref01_Put.f
    rw [if_neg c1, if_neg c2, if_neg (by omega), if_pos (by omega), hsh, decide_eq_false (by omega), phaetonref01_Put.j0.eq_2, if_neg (by decide)]
    have h := hK k (by omega)
    rw [show wrap64 ((m : Int) - 1) = (m : Int) - 1 - ((0 : Nat) : Int) by unfold wrap64; omega]
    exact h
  · rw [if_neg c3]
    refine ⟨1, fun k hk => ?_⟩
    obtain ⟨k, rfl⟩ : ∃ m, k = m + 1 := ⟨k - 1, by omega⟩
    unfold phaetonref01_Put.f
    rw [if_neg c1, if_neg c2]
    by_cases c4 : n < 0
    · rw [if_pos c4, no]
    · have : ¬ n < 2 ^ m := fun h => c3 ((H.small_iff n m).mpr ⟨by omega, h⟩)
      rw [if_neg c4, if_pos (by omega), hsh, decide_eq_true (by omega), no]
theorem spread_take (l : List Int) (i : Nat) (h : i < l.length) : H.spreadB (l.take (i + 1)) = H.spreadB (l.take i) ++ H.bitsOf (wrap64 (l.getD i 0)) 8 := by
  rw [H.take_snoc 0 l i h]; simp [H.spreadB, List.flatMap_append]
theorem spread_length (l : List Int) : (H.spreadB l).length = 8 * l.length := by
  induction l with
  | nil => rfl
  | cons x l ih => rw [show H.spreadB (x :: l) = H.bitsOf (wrap64 x) 8 ++ H.spreadB l from rfl, List.length_append, H.bitsOf_length, ih, List.length_cons]; omega
theorem rspread_l0 (l : List Int) (hw : ∀ x ∈ l, H.U8 x) (hl : l.length ≤ 1099511627776) : ∀ d i : Nat, i + d = l.length → Ev (fun k => phaetonref01_Spread.l0 k l (H.spreadB (l.take i)) (i : Int)) (H.spreadB l) := by
  intro d
  induction d with
  | zero =>
    intro i hi
    refine Ev.step (f := fun _ => some (H.spreadB l)) (fun k => ?_) (Ev.now _)
    rw [phaetonref01_Spread.l0.eq_2, if_neg (by omega), List.take_of_length_le (by omega)]
  | succ d ih =>
    intro i hi
    have hlt : i < l.length := by omega
    have hu := hw _ (rd_mem hlt)
    obtain ⟨K, hK⟩ := rput_k (wrap64 (l.getD i 0)) 8 (by rw [H.wrap_u8 hu]; unfold H.U8 at hu; unfold H.W64; omega)
    obtain ⟨K2, hK2⟩ := ih (i + 1) (by omega)
    refine ⟨K + K2 + 1, fun k hk => ?_⟩
    obtain ⟨k, rfl⟩ : ∃ m, k = m + 1 := ⟨k - 1, by omega⟩
    have hp : H.putB (wrap64 (l.getD i 0)) 8 = (H.bitsOf (wrap64 (l.getD i 0)) 8, true) := by
      rw [H.wrap_u8 hu]; unfold H.U8 at hu; exact H.putB_yes (m := 8) (by omega) (by omega) (by omega)
    have hlen := spread_length (l.take i)
    rw [List.length_take] at hlen
    show phaetonref01_Spread.l0 (k + 1) l (H.spreadB (l.take i)) (i : Int) = _
    rw [phaetonref01_Spread.l0.eq_2, if_pos (by omega), if_pos (by omega), rd_nat, hK _ (by omega), Option.bind_some, hp, if_pos (by rw [H.bitsOf_length]; omega), H.wrap_succ hlt (by omega), ← spread_take l i hlt]
    exact hK2 k (by omega)
theorem rspread_k (l : List Int) (hw : ∀ x ∈ l, H.U8 x) (hl : l.length ≤ 1099511627776) : ∃ K, ∀ k, K ≤ k → phaetonref01_Spread.f k l = some (H.spreadB l) := rspread_l0 l hw hl l.length 0 (by omega)
/-! ### Same -/
theorem sameBytes (l : List Int) : phaetonref01_SameBytes.f l l = some true := by
  unfold phaetonref01_SameBytes.f; rw [beq_self_eq_true]
end Go.Proofs.Ythgeekcobmhbfaa.PB
/- Ranks: what the printed functions, and the document's answer to layer 4, come to. -/
set_option linter.unusedVariables false
set_option linter.unusedSimpArgs false
namespace Go.Proofs.Ythgeekcobmhbfaa.PB
open Go.RowKit Go.Proofs.Ythgeekcobmhbfaa.Px Go.Proofs.YthgeekcobmhbfaaW.PrintWords Go.Proofs.YthgeekcobmhbfaaW.PrintLast Go.Proofs.YthgeekcobmhbfaaW.PrintMore
theorem put_small {n : Int} {m : Nat} (hm : m ≤ 32) (h0 : 0 ≤ n) (h1 : n < 2 ^ m) : (H.putB n (m : Int)).1 = H.bitsOf n m := by rw [H.putB_yes hm h0 h1]
theorem put_bit (b : Bool) : (H.putB (frame_bit b) 1).1 = [H.bitI b] := by cases b <;> decide
theorem rankB_eq {e : Bool} {id : Int} (rm : Bool) (h : H.IdOk e id) : frame_rankB e id rm = H.rankF e id rm := by
  obtain ⟨h0, h1⟩ := h
  unfold frame_rankB H.rankF
  rw [put_bit]
  cases e with
  | false =>
    rw [if_neg (by simp)] at h1
    rw [if_neg (by simp), if_neg (by simp), show (H.putB id 11).1 = H.bitsOf id 11 from put_small (m := 11) (by decide) h0 h1, show (H.putB 0 1).1 = [0] by decide, List.append_assoc]
  | true =>
    rw [if_pos rfl] at h1
    rw [if_pos rfl, if_pos rfl, show (H.putB (id / 262144) 11).1 = H.bitsOf (id / 262144) 11 from put_small (m := 11) (by decide) (by omega) (by omega), show (H.putB 3 2).1 = [1, 1] by decide, H.and_262143,
      show (H.putB (id % 262144) 18).1 = H.bitsOf (id % 262144) 18 from put_small (m := 18) (by decide) (by omega) (by omega), List.append_assoc, List.append_assoc]
end Go.Proofs.Ythgeekcobmhbfaa.PB
/- Frames and their bits: what the printed functions, and the document's answer to layer 4, come to. -/
set_option linter.unusedVariables false
set_option linter.unusedSimpArgs false
namespace Go.Proofs.Ythgeekcobmhbfaa.PB
open Go.RowKit Go.Proofs.Ythgeekcobmhbfaa.Px Go.Proofs.YthgeekcobmhbfaaW.PrintWords Go.Proofs.YthgeekcobmhbfaaW.PrintLast Go.Proofs.YthgeekcobmhbfaaW.PrintMore
open Go.Proofs.Ythgeekcobmhbfaa.H (RankL lessB whereB leastB Parts IdOk rankF bitI bitsOf spreadB)
/-! ### rows that are alike -/
theorem same_l0' (l m : List Int) (hlm : l.length = m.length) (hl : l.length ≤ 4611686018427387904) : ∀ d i : Nat, i + d = l.length → Ev (fun k => phaetonref01_Same.l0 k l m (i : Int)) (decide (l.drop i = m.drop i)) := by
  intro d
  induction d with
  | zero =>
    intro i hi
    refine Ev.step (f := fun _ => some (decide (l.drop i = m.drop i))) (fun k => ?_) (Ev.now _)
    rw [phaetonref01_Same.l0.eq_2, if_neg (by omega), List.drop_eq_nil_of_le (by omega), List.drop_eq_nil_of_le (by omega)]; rfl
  | succ d ih =>
    intro i hi
    have hlt : i < l.length := by omega
    have e1 := rd_drop hlt
    have e2 := rd_drop (l := m) (i := i) (by omega)
    by_cases c : l.getD i 0 = m.getD i 0
    · refine Ev.step (f := fun k => phaetonref01_Same.l0 k l m ((i + 1 : Nat) : Int)) (fun k => ?_) ?_
      · rw [phaetonref01_Same.l0.eq_2, if_pos (by omega), if_pos (by omega), if_pos (by omega), rd_nat, rd_nat, if_pos c, H.wrap_succ hlt hl]
      · have := ih (i + 1) (by omega)
        rw [e1, e2, c]
        simpa using this
    · refine Ev.step (f := fun _ => some (decide (l.drop i = m.drop i))) (fun k => ?_) (Ev.now _)
      rw [phaetonref01_Same.l0.eq_2, if_pos (by omega), if_pos (by omega), if_pos (by omega), rd_nat, rd_nat, if_neg c, decide_eq_false]
      intro e; rw [e1, e2] at e; injection e with e; exact c e
theorem same2_k (l m : List Int) (hl : l.length ≤ 4611686018427387904) : ∃ K, ∀ k, K ≤ k → phaetonref01_Same.f k l m = some (decide (l = m)) := by
  by_cases c : l.length = m.length
  · obtain ⟨K, hK⟩ := same_l0' l m c hl l.length 0 (by omega)
    refine ⟨K, fun k hk => ?_⟩
    unfold phaetonref01_Same.f
    rw [if_pos (by omega)]
    exact hK k hk
  · refine ⟨0, fun k _ => ?_⟩
    unfold phaetonref01_Same.f
    rw [if_neg (by omega), decide_eq_false (fun e => c (by rw [e]))]
/-! ### right frames -/
def FRight (e : Bool) (id : Int) (rm : Bool) (ln : Int) (d : List Int) : Prop := IdOk e id ∧ 0 ≤ ln ∧ ln ≤ 8 ∧ (d.length : Int) = if rm = true then 0 else ln
instance (e : Bool) (id : Int) (rm : Bool) (ln : Int) (d : List Int) : Decidable (FRight e id rm ln d) := by unfold FRight IdOk; infer_instance
theorem r4right_k (e : Bool) (id : Int) (rm : Bool) (ln : Int) (d : List Int) : ∀ k, 2 ≤ k → phaetonref04_Right.f k e id rm ln d = some (decide (FRight e id rm ln d)) := by
  intro k hk
  obtain ⟨k, rfl⟩ : ∃ m, k = m + 2 := ⟨k - 2, by omega⟩
  have hb : ∀ x y : Int, (x == y) = decide (x = y) := fun x y => rfl
  unfold phaetonref04_Right.f FRight IdOk
  cases e <;> cases rm <;> simp only [if_true, Bool.false_eq_true, if_false, phaetonref04_Right.j0, phaetonref04_Right.j1, hb, decide_eq_true_eq] <;> (repeat' split) <;> (congr 1; first | (apply decide_eq_decide.mpr; omega) | (symm; apply decide_eq_false; omega))
/-! ### heads -/
/-- A head's bits ahead of its length. -/
def preF (e : Bool) (id : Int) (rm : Bool) : List Int := 0 :: (rankF e id rm ++ if e = true then [0, 0] else [0])
def headF (e : Bool) (id : Int) (rm : Bool) (ln : Int) (d : List Int) : List Int := preF e id rm ++ (bitsOf ln 4 ++ spreadB d)
theorem preF_len (e : Bool) (id : Int) (rm : Bool) : (preF e id rm).length = if e = true then 35 else 15 := by
  unfold preF; rw [List.length_cons, List.length_append, H.rankF_len]; cases e <;> rfl
theorem headF_len (e : Bool) (id : Int) (rm : Bool) (ln : Int) (d : List Int) : (headF e id rm ln d).length = (if e = true then 39 else 19) + 8 * d.length := by
  unfold headF; rw [List.length_append, List.length_append, preF_len, H.bitsOf_length, H.spread_len]; cases e <;> simp <;> omega
theorem headF_right (e : Bool) (id : Int) (rm : Bool) (ln : Int) (d : List Int) : H.rightB (headF e id rm ln d) = true := by
  unfold headF preF
  have h0 : H.rightB ([0] : List Int) = true := rfl
  have hr : H.rightB (rankF e id rm) = true := H.rightB_of (H.rankF_RankL e id rm).1
  have h1 : H.rightB (if e = true then [0, 0] else [0] : List Int) = true := by cases e <;> rfl
  rw [← List.singleton_append, H.rightB_append, H.rightB_append, H.rightB_append, H.rightB_append, h0, hr, h1, H.bitsOf_right, H.spread_right]; rfl
theorem head_eq {e : Bool} {id : Int} {rm : Bool} {ln : Int} {d : List Int} (h : FRight e id rm ln d) : frame_headB e id rm ln d = headF e id rm ln d := by
  obtain ⟨h1, h2, h3, h4⟩ := h
  unfold frame_headB headF preF
  rw [rankB_eq rm h1, show (H.putB 0 1).1 = [0] by decide, show (H.putB ln 4).1 = bitsOf ln 4 from put_small (m := 4) (by decide) h2 (by omega)]
  cases e <;> simp [List.append_assoc]
theorem fhead_eq {e : Bool} {id : Int} {rm : Bool} {ln : Int} {d : List Int} (h : FRight e id rm ln d) : frame_Head.f e id rm ln d = some (headF e id rm ln d) := by
  have hl : d.length ≤ 1073741824 := by
    obtain ⟨h1, h2, h3, h4⟩ := h
    cases rm with
    | true => rw [if_pos rfl] at h4; omega
    | false => rw [if_neg (by simp)] at h4; omega
  unfold frame_Head.f
  rw [if_pos hl, head_eq h]
theorem FRight.dlen {e : Bool} {id : Int} {rm : Bool} {ln : Int} {d : List Int} (h : FRight e id rm ln d) : d.length ≤ 8 := by
  obtain ⟨h1, h2, h3, h4⟩ := h
  cases rm with
  | true => rw [if_pos rfl] at h4; omega
  | false => rw [if_neg (by simp)] at h4; omega
end Go.Proofs.Ythgeekcobmhbfaa.PB
/- What is read of bits: of a head, of less than a head, of any bits. -/
set_option linter.unusedVariables false
set_option linter.unusedSimpArgs false
namespace Go.Proofs.Ythgeekcobmhbfaa.PB
open Go.RowKit Go.Proofs.Ythgeekcobmhbfaa.Px Go.Proofs.YthgeekcobmhbfaaW.PrintWords Go.Proofs.YthgeekcobmhbfaaW.PrintLast Go.Proofs.YthgeekcobmhbfaaW.PrintMore
open Go.Proofs.Ythgeekcobmhbfaa.H (RankL lessB whereB leastB Parts IdOk rankF bitI bitsOf spreadB)
theorem bitsAt_mid (a b c : List Int) : frame_bitsAt (a ++ (b ++ c)) a.length b.length = b := by
  unfold frame_bitsAt
  rw [← List.append_assoc, ← List.length_append, List.take_left', List.drop_left'] <;> rfl
theorem bitsAt_of {l a b c : List Int} {i m : Nat} (h : l = a ++ (b ++ c)) (ha : a.length = i) (hb : b.length = m) : frame_bitsAt l i m = b := by
  subst ha; subst hb; rw [h]; exact bitsAt_mid a b c
theorem getB_bitsOf {n : Int} {m : Nat} (hm : m ≤ 32) (h0 : 0 ≤ n) (h1 : n < 2 ^ m) : H.getB (bitsOf n m) = (n, true) := by
  rw [H.getB_right (H.bitsOf_right n m) (by rw [H.bitsOf_length]; exact hm), H.valB_bitsOf m n h0 h1]
theorem numAt_of {l a c : List Int} {i m : Nat} {n : Int} (h : l = a ++ (bitsOf n m ++ c)) (ha : a.length = i) (hm : m ≤ 32) (h0 : 0 ≤ n) (h1 : n < 2 ^ m) : frame_numAt l i m = n := by
  unfold frame_numAt
  rw [bitsAt_of h ha (H.bitsOf_length n m), getB_bitsOf hm h0 h1]
theorem bit_one (x : Int) (h : x = 0 ∨ x = 1) : bitsOf x 1 = [x] := by rcases h with rfl | rfl <;> decide
/-- What stands where in a head. -/
structure Heads (l : List Int) (e : Bool) (id : Int) (rm : Bool) (ln : Int) (d : List Int) : Prop where
  n0 : frame_numAt l 0 1 = 0
  n1 : e = false → frame_numAt l 1 11 = id ∧ frame_numAt l 12 1 = bitI rm ∧ frame_numAt l 13 1 = 0 ∧ frame_numAt l 14 1 = 0 ∧ frame_numAt l 15 4 = ln ∧ frame_bitsAt l 19 (8 * d.length) = spreadB d
  n2 : e = true → frame_numAt l 1 11 = id / 262144 ∧ frame_numAt l 12 1 = 1 ∧ frame_numAt l 13 1 = 1 ∧ frame_numAt l 14 18 = id % 262144 ∧ frame_numAt l 32 1 = bitI rm ∧ frame_numAt l 33 1 = 0 ∧ frame_numAt l 34 1 = 0 ∧ frame_numAt l 35 4 = ln ∧ frame_bitsAt l 39 (8 * d.length) = spreadB d
theorem heads_of {e : Bool} {id : Int} {rm : Bool} {ln : Int} {d : List Int} (h : FRight e id rm ln d) (more : List Int) : Heads (headF e id rm ln d ++ more) e id rm ln d := by
  obtain ⟨⟨h0, h1⟩, h2, h3, h4⟩ := h
  have hrb : bitI rm = 0 ∨ bitI rm = 1 := by unfold bitI; cases rm <;> simp
  have b0 : bitsOf 0 1 = [0] := by decide
  have b1 : bitsOf 1 1 = [1] := by decide
  have br := bit_one (bitI rm) hrb
  have hr0 : 0 ≤ bitI rm := by omega
  have hr1 : bitI rm < 2 ^ 1 := by omega
  have hsl := H.spread_len d
  cases e with
  | false =>
    rw [if_neg (by simp)] at h1
    have hl : headF false id rm ln d ++ more = [0] ++ (bitsOf id 11 ++ ([bitI rm] ++ ([0] ++ ([0] ++ (bitsOf ln 4 ++ (spreadB d ++ more)))))) := by
      unfold headF preF rankF; simp [List.append_assoc]
    have l11 := H.bitsOf_length id 11
    have l4 := H.bitsOf_length ln 4
    refine ⟨?_, fun _ => ⟨?_, ?_, ?_, ?_, ?_, ?_⟩, fun h => (by cases h)⟩
    · exact numAt_of (a := []) (n := 0) (c := bitsOf id 11 ++ ([bitI rm] ++ ([0] ++ ([0] ++ (bitsOf ln 4 ++ (spreadB d ++ more)))))) (by rw [hl, b0]; rfl) rfl (by decide) (by decide) (by decide)
    · exact numAt_of (a := [0]) hl rfl (by decide) h0 h1
    · exact numAt_of (a := [0] ++ bitsOf id 11) (by rw [hl, br, List.append_assoc]) (by rw [List.length_append, l11]; rfl) (by decide) hr0 hr1
    · exact numAt_of (a := [0] ++ bitsOf id 11 ++ [bitI rm]) (n := 0) (c := [0] ++ (bitsOf ln 4 ++ (spreadB d ++ more))) (by rw [hl, b0]; simp [List.append_assoc]) (by simp only [List.length_append, l11, List.length_singleton]) (by decide) (by decide) (by decide)
    · exact numAt_of (a := [0] ++ bitsOf id 11 ++ [bitI rm] ++ [0]) (n := 0) (c := bitsOf ln 4 ++ (spreadB d ++ more)) (by rw [hl, b0]; simp [List.append_assoc]) (by simp only [List.length_append, l11, List.length_singleton]) (by decide) (by decide) (by decide)
    · exact numAt_of (a := [0] ++ bitsOf id 11 ++ [bitI rm] ++ [0] ++ [0]) (c := spreadB d ++ more) (by rw [hl]; simp [List.append_assoc]) (by simp only [List.length_append, l11, List.length_singleton]) (by decide) h2 (by omega)
    · exact bitsAt_of (a := [0] ++ bitsOf id 11 ++ [bitI rm] ++ [0] ++ [0] ++ bitsOf ln 4) (c := more) (by rw [hl]; simp [List.append_assoc]) (by simp only [List.length_append, l11, l4, List.length_singleton]) hsl
  | true =>
    rw [if_pos rfl] at h1
    have hl : headF true id rm ln d ++ more = [0] ++ (bitsOf (id / 262144) 11 ++ ([1] ++ ([1] ++ (bitsOf (id % 262144) 18 ++ ([bitI rm] ++ ([0] ++ ([0] ++ (bitsOf ln 4 ++ (spreadB d ++ more))))))))) := by
      unfold headF preF rankF; simp [List.append_assoc]
    have l11 := H.bitsOf_length (id / 262144) 11
    have l18 := H.bitsOf_length (id % 262144) 18
    have l4 := H.bitsOf_length ln 4
    refine ⟨?_, fun h => (by cases h), fun _ => ⟨?_, ?_, ?_, ?_, ?_, ?_, ?_, ?_, ?_⟩⟩
    · exact numAt_of (a := []) (n := 0) (c := bitsOf (id / 262144) 11 ++ ([1] ++ ([1] ++ (bitsOf (id % 262144) 18 ++ ([bitI rm] ++ ([0] ++ ([0] ++ (bitsOf ln 4 ++ (spreadB d ++ more))))))))) (by rw [hl, b0]; rfl) rfl (by decide) (by decide) (by decide)
    · exact numAt_of (a := [0]) hl rfl (by decide) (by omega) (by omega)
    · exact numAt_of (a := [0] ++ bitsOf (id / 262144) 11) (n := 1) (c := [1] ++ (bitsOf (id % 262144) 18 ++ ([bitI rm] ++ ([0] ++ ([0] ++ (bitsOf ln 4 ++ (spreadB d ++ more))))))) (by rw [hl, b1]; simp [List.append_assoc]) (by simp only [List.length_append, l11, List.length_singleton]) (by decide) (by decide) (by decide)
    · exact numAt_of (a := [0] ++ bitsOf (id / 262144) 11 ++ [1]) (n := 1) (c := bitsOf (id % 262144) 18 ++ ([bitI rm] ++ ([0] ++ ([0] ++ (bitsOf ln 4 ++ (spreadB d ++ more)))))) (by rw [hl, b1]; simp [List.append_assoc]) (by simp only [List.length_append, l11, List.length_singleton]) (by decide) (by decide) (by decide)
    · exact numAt_of (a := [0] ++ bitsOf (id / 262144) 11 ++ [1] ++ [1]) (c := [bitI rm] ++ ([0] ++ ([0] ++ (bitsOf ln 4 ++ (spreadB d ++ more))))) (by rw [hl]; simp [List.append_assoc]) (by simp only [List.length_append, l11, List.length_singleton]) (by decide) (by omega) (by omega)
    · exact numAt_of (a := [0] ++ bitsOf (id / 262144) 11 ++ [1] ++ [1] ++ bitsOf (id % 262144) 18) (c := [0] ++ ([0] ++ (bitsOf ln 4 ++ (spreadB d ++ more)))) (by rw [hl, br]; simp [List.append_assoc]) (by simp only [List.length_append, l11, l18, List.length_singleton]) (by decide) hr0 hr1
    · exact numAt_of (a := [0] ++ bitsOf (id / 262144) 11 ++ [1] ++ [1] ++ bitsOf (id % 262144) 18 ++ [bitI rm]) (n := 0) (c := [0] ++ (bitsOf ln 4 ++ (spreadB d ++ more))) (by rw [hl, b0]; simp [List.append_assoc]) (by simp only [List.length_append, l11, l18, List.length_singleton]) (by decide) (by decide) (by decide)
    · exact numAt_of (a := [0] ++ bitsOf (id / 262144) 11 ++ [1] ++ [1] ++ bitsOf (id % 262144) 18 ++ [bitI rm] ++ [0]) (n := 0) (c := bitsOf ln 4 ++ (spreadB d ++ more)) (by rw [hl, b0]; simp [List.append_assoc]) (by simp only [List.length_append, l11, l18, List.length_singleton]) (by decide) (by decide) (by decide)
    · exact numAt_of (a := [0] ++ bitsOf (id / 262144) 11 ++ [1] ++ [1] ++ bitsOf (id % 262144) 18 ++ [bitI rm] ++ [0] ++ [0]) (c := spreadB d ++ more) (by rw [hl]; simp [List.append_assoc]) (by simp only [List.length_append, l11, l18, List.length_singleton]) (by decide) h2 (by omega)
    · exact bitsAt_of (a := [0] ++ bitsOf (id / 262144) 11 ++ [1] ++ [1] ++ bitsOf (id % 262144) 18 ++ [bitI rm] ++ [0] ++ [0] ++ bitsOf ln 4) (c := more) (by rw [hl]; simp [List.append_assoc]) (by simp only [List.length_append, l11, l18, l4, List.length_singleton]) hsl
theorem wrap_i64_small (x : Int) (h0 : 0 ≤ x) (h1 : x < 9223372036854775808) : IntKind.i64.wrap x = x := by rw [IntKind.wrap_i64]; omega
theorem or_parts {hi lo : Int} (h0 : 0 ≤ hi) (h1 : hi < 2048) (k0 : 0 ≤ lo) (k1 : lo < 262144) : Go.bits .or .i64 (IntKind.i64.wrap (hi * 262144)) lo = hi * 262144 + lo := by
  rw [wrap_i64_small _ (by omega) (by omega)]
  obtain ⟨a, rfl⟩ := Int.eq_ofNat_of_zero_le h0
  obtain ⟨b, rfl⟩ := Int.eq_ofNat_of_zero_le k0
  have e : ((a : Int) * 262144) = ((a * 262144 : Nat) : Int) := by omega
  rw [e, H.or_i64 _ _ (by omega) (by omega)]
  have h2 : a * 262144 ||| b = a * 262144 + b := by
    have := Nat.shiftLeft_add_eq_or_of_lt (show b < 2 ^ 18 by omega) a
    rw [Nat.shiftLeft_eq] at this
    exact this.symm
  rw [h2]; omega
theorem bitI_one (rm : Bool) : decide (bitI rm = 1) = rm := by cases rm <;> rfl
theorem tail_of {l : List Int} {e : Bool} {id : Int} {rm : Bool} {ln : Int} {d : List Int} {at_ : Nat} (hw : ∀ x ∈ d, H.U8 x) (h2 : 0 ≤ ln) (h3 : ln ≤ 8) (h4 : (d.length : Int) = if rm = true then 0 else ln) (e0 : frame_numAt l at_ 1 = 0) (e1 : frame_numAt l (at_ + 1) 4 = ln) (e2 : frame_bitsAt l (at_ + 5) (8 * d.length) = spreadB d) (hl : at_ + 5 + 8 * d.length ≤ l.length) :
    frame_tailB l e id rm at_ = (0, e, id, rm, ln, d, at_ + 5 + 8 * d.length) := by
  unfold frame_tailB
  rw [if_neg (by omega), if_neg (fun h => h e0), if_neg (by omega), e1, if_neg (by omega)]
  cases rm with
  | true =>
    rw [if_pos rfl] at h4
    obtain rfl : d = [] := List.eq_nil_of_length_eq_zero (by omega)
    rw [if_pos rfl]; rfl
  | false =>
    rw [if_neg (by simp)] at h4
    have ht : ln.toNat = d.length := by omega
    rw [if_neg (by simp), ht, if_neg (by omega), e2, H.join_spread d hw]
/-- A right frame is read of its head, whatever stands behind. -/
theorem read_head {e : Bool} {id : Int} {rm : Bool} {ln : Int} {d : List Int} (h : FRight e id rm ln d) (hw : ∀ x ∈ d, H.U8 x) (more : List Int) : frame_readB (headF e id rm ln d ++ more) = (0, e, id, rm, ln, d, (headF e id rm ln d).length) := by
  have hh := heads_of h more
  have hlen := headF_len e id rm ln d
  have hL : (headF e id rm ln d ++ more).length = (headF e id rm ln d).length + more.length := List.length_append
  generalize headF e id rm ln d ++ more = l at hh hL
  obtain ⟨⟨h0, h1⟩, h2, h3, h4⟩ := h
  unfold frame_readB
  cases e with
  | false =>
    rw [if_neg (by simp)] at hlen
    obtain ⟨a1, a2, a3, a4, a5, a6⟩ := hh.n1 rfl
    rw [if_neg (by omega), if_neg (fun g => g hh.n0), if_neg (by omega), if_neg (by omega), if_neg (by omega), if_neg (by rw [a3]; decide), a1, a2, bitI_one, tail_of hw h2 h3 h4 a4 a5 a6 (by omega), hlen]
  | true =>
    rw [if_pos rfl] at hlen h1
    obtain ⟨a1, a2, a3, a4, a5, a6, a7, a8, a9⟩ := hh.n2 rfl
    rw [if_neg (by omega), if_neg (fun g => g hh.n0), if_neg (by omega), if_neg (by omega), if_neg (by omega), if_pos a3, if_neg (fun g => g a2), if_neg (by omega), if_neg (by omega), if_neg (by omega), if_neg (fun g => g a6), a1, a4, a5, bitI_one, or_parts (by omega) (by omega) (by omega) (by omega), show id / 262144 * 262144 + id % 262144 = id by omega, tail_of hw h2 h3 h4 a7 a8 a9 (by omega), hlen]
theorem right_W64 {l : List Int} (h : H.rightB l = true) : ∀ x ∈ l, H.W64 x := fun x hx => by
  have := H.rightB_mem h x hx
  unfold H.W64; omega
/-! ### what was read, backwards -/
theorem bitsAt_right {l : List Int} (h : H.rightB l = true) (i m : Nat) : H.rightB (frame_bitsAt l i m) = true := H.rightB_of fun x hx => H.rightB_mem h x (List.mem_of_mem_take (List.mem_of_mem_drop hx))
theorem numAt_bits {l : List Int} (h : H.rightB l = true) (i m : Nat) (hm : m ≤ 32) (hl : i + m ≤ l.length) : frame_bitsAt l i m = bitsOf (frame_numAt l i m) m ∧ 0 ≤ frame_numAt l i m ∧ frame_numAt l i m < 2 ^ m := by
  have hlen := frame_bitsAt_len l i m hl
  have hr := bitsAt_right h i m
  have hg := H.getB_right hr (by omega)
  have hv : frame_numAt l i m = H.valB (frame_bitsAt l i m) := by unfold frame_numAt; rw [hg]
  have hb := H.bitsOf_valB hr
  have hrg := H.valB_range hr
  rw [hlen] at hb hrg
  rw [hv]
  exact ⟨hb.symm, hrg⟩
theorem take_bitsAt (l : List Int) (i m : Nat) : l.take (i + m) = l.take i ++ frame_bitsAt l i m := by
  have := List.take_append_drop i (l.take (i + m))
  rw [List.take_take, Nat.min_eq_left (by omega)] at this
  exact this.symm
end Go.Proofs.Ythgeekcobmhbfaa.PB
/- Layer 5: what a right frame has on the wire. -/
set_option linter.unusedVariables false
set_option linter.unusedSimpArgs false
namespace Go.Proofs.Ythgeekcobmhbfaa.PB
open Go.RowKit Go.Proofs.Ythgeekcobmhbfaa.Px Go.Proofs.YthgeekcobmhbfaaW.PrintWords Go.Proofs.YthgeekcobmhbfaaW.PrintLast Go.Proofs.YthgeekcobmhbfaaW.PrintMore
open Go.Proofs.Ythgeekcobmhbfaa.H (IdOk rankF bitI bitsOf spreadB Bit)
theorem head05_k : ∃ K, ∀ k, K ≤ k → phaetonlaw05_head.f k = some true := ⟨0, fun _ _ => rfl⟩
/-- A head, and its sum's bits. -/
def bodyF (h : List Int) : List Int := h ++ bitsOf ((H.crcB h).toNat : Int) 15
theorem body_right {h : List Int} (hr : H.rightB h = true) : H.rightB (bodyF h) = true := by unfold bodyF; rw [H.rightB_append, hr, H.bitsOf_right]; rfl
/-- What goes out on the wire: stuffed bits, and ten ones. -/
def stuffF (h : List Int) : List Int := H.stuffB (bodyF h)
def sentF (h : List Int) : List Int := stuffF h ++ bitsOf 1023 10
theorem wire_eq {e : Bool} {id : Int} {rm : Bool} {ln : Int} {d : List Int} (h : FRight e id rm ln d) : wire_Bits.f e id rm ln d = some (sentF (headF e id rm ln d)) := by
  have hs := (H.crcB (headF e id rm ln d)).isLt
  have hl : (headF e id rm ln d).length ≤ 200 := by have := h.dlen; rw [headF_len]; split <;> omega
  have p15 : H.putB ((H.crcB (headF e id rm ln d)).toNat : Int) 15 = (bitsOf ((H.crcB (headF e id rm ln d)).toNat : Int) 15, true) := H.putB_yes (m := 15) (by omega) (by omega) (by omega)
  have p10 : H.putB 1023 10 = (bitsOf 1023 10, true) := H.putB_yes (m := 10) (by omega) (by omega) (by omega)
  have l15 := H.bitsOf_length ((H.crcB (headF e id rm ln d)).toNat : Int) 15
  have l10 := H.bitsOf_length 1023 10
  have hbl : (bodyF (headF e id rm ln d)).length ≤ 300 := by unfold bodyF; rw [List.length_append, l15]; omega
  have hsl := H.stuffS_len (bodyF (headF e id rm ln d))
  have e1 : crc_Bits.f (headF e id rm ln d) = some ((H.crcB (headF e id rm ln d)).toNat : Int) := rfl
  have e2 : bits_Put.f ((H.crcB (headF e id rm ln d)).toNat : Int) 15 = some (H.putB ((H.crcB (headF e id rm ln d)).toNat : Int) 15) := rfl
  have e3 : bits_Put.f 1023 10 = some (H.putB 1023 10) := rfl
  have e4 : stuff_Stuff.f (bodyF (headF e id rm ln d)) = some (stuffF (headF e id rm ln d)) := if_pos (by omega)
  have hb : (headF e id rm ln d) ++ bitsOf ((H.crcB (headF e id rm ln d)).toNat : Int) 15 = bodyF (headF e id rm ln d) := rfl
  unfold wire_Bits.f
  rw [fhead_eq h, Option.bind_some, e1, Option.bind_some, e2, p15, Option.bind_some, e3, p10, Option.bind_some]
  dsimp only
  rw [if_pos (by omega), hb, e4, Option.bind_some, if_pos (by unfold stuffF H.stuffB; omega)]
  rfl
theorem body_Bit (e : Bool) (id : Int) (rm : Bool) (ln : Int) (d : List Int) : ∀ b ∈ bodyF (headF e id rm ln d), Bit b := H.rightB_mem (body_right (headF_right e id rm ln d))
theorem body_len (h : List Int) : (bodyF h).length = h.length + 15 := by unfold bodyF; rw [List.length_append, H.bitsOf_length]
theorem stuffF_len {h : List Int} (hr : H.rightB h = true) : h.length + 15 ≤ (stuffF h).length ∧ (stuffF h).length ≤ 2 * (h.length + 15) := by
  have hb := H.rightB_mem (body_right hr)
  have h1 : (bodyF h).length ≤ (stuffF h).length := by unfold stuffF; rw [H.stuffB_go hb]; exact H.stuffGo_len _ _
  have h2 : (stuffF h).length ≤ 2 * (bodyF h).length := H.stuffS_len (bodyF h)
  have h3 := body_len h
  omega
theorem ones_eq : bitsOf 1023 10 = [1, 1, 1, 1, 1, 1, 1, 1, 1, 1] := by decide
theorem sentF_len (h : List Int) : (sentF h).length = (stuffF h).length + 10 := by unfold sentF; rw [List.length_append, ones_eq]; rfl
theorem headF_len2 {e : Bool} {id : Int} {rm : Bool} {ln : Int} {d : List Int} (h : FRight e id rm ln d) : 19 ≤ (headF e id rm ln d).length ∧ (headF e id rm ln d).length ≤ 103 := by
  have := h.dlen; rw [headF_len]; split <;> omega
theorem great_eq (e : Bool) (id : Int) (rm : Bool) (ln : Int) (d : List Int) : phaetonlaw04_Great.f e id rm ln d = some (decide ((d.length : Int) > 100)) := rfl
section
variable {e : Bool} {id : Int} {rm : Bool} {ln : Int} {d : List Int}
theorem bytes_of (hwd : ∀ x ∈ d, (fun (x : Int) => (Lit.int .u8 x).wf = true) x) : ∀ x ∈ d, H.U8 x := fun x hx => H.of_wf8 (hwd x hx)
end
end Go.Proofs.Ythgeekcobmhbfaa.PB
/- What an ear hears of bits that were stuffed: plain laws of the words that wire.Read is told by. No program in sight. -/
set_option linter.unusedVariables false
set_option linter.unusedSimpArgs false
namespace Go.Proofs.Ythgeekcobmhbfaa.PB
open Go.RowKit Go.Proofs.Ythgeekcobmhbfaa.Px Go.Proofs.YthgeekcobmhbfaaW.PrintWords Go.Proofs.YthgeekcobmhbfaaW.PrintLast Go.Proofs.YthgeekcobmhbfaaW.PrintMore
open Go.Proofs.Ythgeekcobmhbfaa.H (IdOk rankF bitI bitsOf spreadB Bit runS stuffGo stuffD stuffE St)
/-- How an ear stands: so far, the last bit and its run, what is left. -/
def At (R : List Int) (tt : Nat) (s : Int × Int) (T : List Int) : Prop := tt ≤ R.length ∧ R.drop tt = T ∧ s.2 ≤ 5 ∧ ((tt = 0 ∧ s = (-1, 0)) ∨ (0 < tt ∧ R.getD (tt - 1) 0 = s.1 ∧ Bit s.1 ∧ 1 ≤ s.2))
theorem At.start (R : List Int) : At R 0 (-1, 0) R := ⟨Nat.zero_le _, rfl, by decide, .inl ⟨rfl, rfl⟩⟩
theorem At.st {R : List Int} {tt : Nat} {s : Int × Int} {T : List Int} (h : At R tt s T) : St s := by
  rcases h.2.2.2 with ⟨_, rfl⟩ | ⟨_, _, h1, h2⟩
  · exact .inl rfl
  · exact .inr ⟨h1, h2⟩
theorem At.len {R : List Int} {tt : Nat} {s : Int × Int} {T : List Int} (h : At R tt s T) : tt + T.length = R.length := by
  have := h.1; rw [← h.2.1, List.length_drop]; omega
theorem At.bit {R : List Int} {tt : Nat} {s : Int × Int} {b : Int} {T : List Int} (h : At R tt s (b :: T)) : tt < R.length ∧ R.getD tt 0 = b ∧ R.drop (tt + 1) = T := by
  have hl := h.len
  rw [List.length_cons] at hl
  have hlt : tt < R.length := by omega
  have hd := fb_rd_drop hlt
  rw [h.2.1] at hd
  injection hd with h1 h2
  exact ⟨hlt, h1.symm, h2.symm⟩
theorem At.run {R : List Int} {tt : Nat} {s : Int × Int} {T : List Int} (h : At R tt s T) (b : Int) : runS s b = (b, if b = s.1 then s.2 + 1 else 1) := H.run_eq h.st (by have := h.2.2.1; omega) b
theorem At.alike {R : List Int} {tt : Nat} {s : Int × Int} {b : Int} {T : List Int} (h : At R tt s (b :: T)) (hb : Bit b) : (0 < tt ∧ R.getD (tt - 1) 0 = R.getD tt 0) ↔ b = s.1 := by
  rw [h.bit.2.1]
  rcases h.2.2.2 with ⟨h0, rfl⟩ | ⟨h0, h1, h2, h3⟩
  · constructor
    · intro k; omega
    · intro k; rcases hb with rfl | rfl <;> exact absurd k (by decide)
  · rw [h1]; exact ⟨fun k => k.2.symm, fun k => ⟨h0, k.symm⟩⟩
theorem At.next {R : List Int} {tt : Nat} {s : Int × Int} {b : Int} {T : List Int} (h : At R tt s (b :: T)) (hb : Bit b) (h5 : s.2 ≠ 5) : At R (tt + 1) (runS s b) T := by
  have hr := h.run b
  have hs := h.2.2.1
  have hn : 0 ≤ s.2 := by rcases h.2.2.2 with ⟨_, rfl⟩ | ⟨_, _, _, h3⟩; · exact Int.le_refl _
                          · omega
  refine ⟨h.bit.1, h.bit.2.2, ?_, .inr ⟨Nat.succ_pos _, ?_, ?_, ?_⟩⟩
  · rw [hr]; dsimp only; split <;> omega
  · rw [hr]; exact h.bit.2.1
  · rw [hr]; exact hb
  · rw [hr]; dsimp only; split <;> omega
theorem At.skip {R : List Int} {tt : Nat} {s : Int × Int} {b : Int} {T : List Int} (h : At R tt s (b :: T)) (hb : Bit b) : At R (tt + 1) (b, 1) T :=
  ⟨h.bit.1, h.bit.2.2, by show (1 : Int) ≤ 5; omega, .inr ⟨Nat.succ_pos _, h.bit.2.1, hb, Int.le_refl 1⟩⟩
theorem ear_end_ {R : List Int} {tt : Nat} {s : Int × Int} (h : At R tt s []) (x : Bool) (had : List Int) (a f : Int) : ear_next R (x, tt, s.2, had, a, f) = (false, tt, s.2, had, (R.length : Int), 1) := by
  have hl := h.len
  rw [List.length_nil] at hl
  unfold ear_next
  dsimp only
  rw [show R.length + 1 - tt = 0 + 1 by omega, hearT, if_neg (by omega)]
theorem ear_bit {R : List Int} {tt : Nat} {s : Int × Int} {b : Int} {T : List Int} (h : At R tt s (b :: T)) (hb : Bit b) (h5 : s.2 ≠ 5) (x : Bool) (had : List Int) (a f : Int) : ear_next R (x, tt, s.2, had, a, f) = (true, tt + 1, (runS s b).2, had ++ [b], (tt : Int), f) := by
  obtain ⟨h1, h2, _⟩ := h.bit
  have ha := h.alike hb
  unfold ear_next
  dsimp only
  obtain ⟨k, hk⟩ : ∃ k, R.length + 1 - tt = k + 1 := ⟨R.length - tt, by omega⟩
  rw [hk, hearT, if_pos h1, if_neg h5, h.run b, h2]
  dsimp only
  rw [← h2]
  by_cases hc : b = s.1
  · rw [if_pos (ha.mpr hc), if_pos (h2.trans hc)]
  · rw [if_neg (fun k => hc (ha.mp k)), if_neg (fun k => hc (h2.symm.trans k))]
theorem ear_skip {R : List Int} {tt : Nat} {s : Int × Int} {b : Int} {T : List Int} (h : At R tt s (b :: T)) (hb : Bit b) (h5 : s.2 = 5) (hn : b ≠ s.1) (x : Bool) (had : List Int) (a f : Int) : ear_next R (x, tt, s.2, had, a, f) = ear_next R (x, tt + 1, 1, had, a, f) := by
  obtain ⟨h1, h2, _⟩ := h.bit
  have ha := h.alike hb
  unfold ear_next
  dsimp only
  obtain ⟨k, hk⟩ : ∃ k, R.length + 1 - tt = k + 1 := ⟨R.length - tt, by omega⟩
  conv => lhs; rw [hk, hearT, if_pos h1, if_pos h5, if_neg (fun k => hn (ha.mp k))]
  rw [show R.length + 1 - (tt + 1) = k by omega]
theorem ear_bad {R : List Int} {tt : Nat} {s : Int × Int} {b : Int} {T : List Int} (h : At R tt s (b :: T)) (hb : Bit b) (h5 : s.2 = 5) (hn : b = s.1) (x : Bool) (had : List Int) (a f : Int) : ear_next R (x, tt, s.2, had, a, f) = (false, tt + 1, s.2, had, (tt : Int), 2) := by
  obtain ⟨h1, h2, _⟩ := h.bit
  have ha := h.alike hb
  unfold ear_next
  dsimp only
  obtain ⟨k, hk⟩ : ∃ k, R.length + 1 - tt = k + 1 := ⟨R.length - tt, by omega⟩
  rw [hk, hearT, if_pos h1, if_pos h5, if_pos (ha.mpr hn)]
/-! ### what is left of bits that are stuffed -/
theorem stuffGo_D {s : Int × Int} (b : Int) (l : List Int) : stuffGo s (b :: l) = b :: stuffD (runS s b) l := by
  rw [stuffGo]; unfold stuffD
  by_cases c : (runS s b).2 = 5
  · rw [if_pos c, if_pos c, H.run_fst]
  · rw [if_neg c, if_neg c]
theorem stuffD_go {s : Int × Int} (h : s.2 ≠ 5) (l : List Int) : stuffD s l = stuffGo s l := by unfold stuffD; rw [if_neg h]
theorem stuffD_5 {s : Int × Int} (h : s.2 = 5) (l : List Int) : stuffD s l = (1 - s.1) :: stuffGo (1 - s.1, 1) l := by unfold stuffD; rw [if_pos h]
theorem At.five {R : List Int} {tt : Nat} {s : Int × Int} {T : List Int} (h : At R tt s T) (h5 : s.2 = 5) : Bit s.1 := by
  rcases h.2.2.2 with ⟨_, rfl⟩ | ⟨_, _, h2, _⟩
  · exact absurd h5 (by decide)
  · exact h2
theorem many_false (R : List Int) : ∀ (k : Nat) (s : EarS), s.1 = false → manyT R k s = s
  | 0, _, _ => rfl
  | k + 1, s, h => by rw [manyT, if_neg (by rw [h]; exact Bool.false_ne_true), many_false R k s h]
/-! ### the ten behind -/
/-! ### what is told of bits that were sent -/
theorem wread_eq (R : List Int) (hl : R.length ≤ 1000000) (hr : H.rightB R = true) : wire_Read.f R = some ((wire_readF R).1, (wire_readF R).2.1, (wire_readF R).2.2.1, (wire_readF R).2.2.2.1, (wire_readF R).2.2.2.2, (wire_readB R).2.1, (wire_readB R).2.2) := by
  unfold wire_Read.f
  rw [if_pos hl, if_pos]
  exact List.all_eq_true.mpr fun x hx => decide_eq_true (right_W64 hr x hx)
section
variable {e : Bool} {id : Int} {rm : Bool} {ln : Int} {d more : List Int}
theorem readF_no {R : List Int} (h1 : (wire_readB R).1 = false) : wire_readF R = (false, 0, false, 0, []) := by
  unfold wire_readF
  rw [if_neg (by rw [h1]; exact Bool.false_ne_true)]
end
end Go.Proofs.Ythgeekcobmhbfaa.PB
/- The document's way of hearing bits (all anew for each count) comes to the ear's. -/
set_option linter.unusedVariables false
set_option linter.unusedSimpArgs false
namespace Go.Proofs.Ythgeekcobmhbfaa.PB
open Go.RowKit Go.Proofs.Ythgeekcobmhbfaa.Px Go.Proofs.YthgeekcobmhbfaaW.PrintWords Go.Proofs.YthgeekcobmhbfaaW.PrintLast Go.Proofs.YthgeekcobmhbfaaW.PrintMore
open Go.Proofs.Ythgeekcobmhbfaa.H (IdOk rankF bitI bitsOf spreadB Bit runS stuffGo stuffD)
/-- What the document tells of a state. -/
def bareR (R : List Int) (e : Bool) (s : EarS) : List Int × Int × Int :=
  if s.1 = true then (if e = true then (if (endT R s).2.1 = true then (s.2.2.2.1, ((endT R s).1 : Int), 0) else (s.2.2.2.1, (endT R s).2.2.2.2.2.1, (endT R s).2.2.2.2.2.2)) else (s.2.2.2.1, (s.2.1 : Int), 0))
  else (s.2.2.2.1, s.2.2.2.2.1, s.2.2.2.2.2)
theorem At.mem {R : List Int} {tt : Nat} {s : Int × Int} {b : Int} {T : List Int} (h : At R tt s (b :: T)) (hr : ∀ x ∈ R, Bit x) : Bit b := by
  rw [← h.bit.2.1]; exact hr _ (fb_rd_mem h.bit.1)
theorem At.last5 {R : List Int} {tt : Nat} {s : Int × Int} {T : List Int} (h : At R tt s T) (h5 : s.2 = 5) : 0 < tt ∧ R.getD (tt - 1) 0 = s.1 := by
  rcases h.2.2.2 with ⟨_, rfl⟩ | ⟨h1, h2, _, _⟩
  · exact absurd h5 (by decide)
  · exact ⟨h1, h2⟩
theorem end_e1 {R : List Int} {tt : Nat} {r : Int} {had : List Int} {a f : Int} {x : Bool} (h5 : r = 5) (ht : tt = R.length) : endT R (x, tt, r, had, a, f) = (0, false, tt, r, had, (tt : Int), 1) := by
  unfold endT; dsimp only; rw [if_pos h5, if_pos ht]
theorem end_e2 {R : List Int} {tt : Nat} {r : Int} {had : List Int} {a f : Int} {x : Bool} (h5 : r = 5) (ht : tt ≠ R.length) (hc : R.getD tt 0 = R.getD a.toNat 0) : endT R (x, tt, r, had, a, f) = (0, false, tt, r, had, (tt : Int), 2) := by
  unfold endT; dsimp only; rw [if_pos h5, if_neg ht, if_pos hc]
theorem end_e3 {R : List Int} {tt : Nat} {r : Int} {had : List Int} {a f : Int} {x : Bool} (h5 : r = 5) (ht : tt ≠ R.length) (hc : R.getD tt 0 ≠ R.getD a.toNat 0) : endT R (x, tt, r, had, a, f) = (tt + 1, true, tt, r, had, a, f) := by
  unfold endT; dsimp only; rw [if_pos h5, if_neg ht, if_neg hc]
theorem end_e4 {R : List Int} {tt : Nat} {r : Int} {had : List Int} {a f : Int} {x : Bool} (h5 : r ≠ 5) : endT R (x, tt, r, had, a, f) = (tt, true, tt, r, had, a, f) := by
  unfold endT; dsimp only; rw [if_neg h5]
theorem bare_fin {R : List Int} {st : EarS} {X : Nat × EarS} (h1 : st.1 = true) (h : endT R st = X) : bareR R true st = if X.2.1 = true then (st.2.2.2.1, (X.1 : Int), 0) else (st.2.2.2.1, X.2.2.2.2.2.1, X.2.2.2.2.2.2) := by
  unfold bareR; rw [if_pos h1, if_pos rfl, h]
theorem bare_k {R : List Int} (hr : ∀ x ∈ R, Bit x) (hl : R.length ≤ 1000000) (e : Bool) (M : Nat) : ∀ (q : Nat) (m tt : Nat) (s : Int × Int) (T had : List Int) (a : Int), T.length = q → At R tt s T → had.length + m = M → had.length ≤ tt → (m = 0 → a = (tt : Int) - 1) → 
    Ev (fun k => phaetonref05_bare.l0 k R (M : Int) e had s.2 (tt : Int)) (bareR R e (manyT R m (true, tt, s.2, had, a, 0))) := by
  intro q
  induction q with
  | zero =>
    intro m tt s T had a hq hA hM hht ha
    obtain rfl : T = [] := List.length_eq_zero_iff.mp hq
    have hlen := hA.len
    rw [List.length_nil] at hlen
    cases m with
    | zero =>
      have ha' := ha rfl
      subst ha'
      by_cases he : e = true
      · subst he
        by_cases h5 : s.2 = 5
        · refine Ev.step (f := fun k => phaetonref05_bare.j1 k R (M : Int) true had s.2 (tt : Int) true) (fun k => ?_) (Ev.step (f := fun _ => some (bareR R true (manyT R 0 (true, tt, s.2, had, (tt : Int) - 1, 0)))) (fun k => ?_) (Ev.now _))
          · simp only [phaetonref05_bare.l0]
            rw [if_neg (by omega), if_pos trivial, beq_iff_eq.mpr h5]
          · simp only [phaetonref05_bare.j1]
            rw [if_pos trivial, if_pos (by omega)]
            show _ = some (bareR R true (true, tt, s.2, had, (tt : Int) - 1, 0))
            rw [bare_fin rfl (end_e1 h5 (by omega))]; rfl
        · refine Ev.step (f := fun k => phaetonref05_bare.j1 k R (M : Int) true had s.2 (tt : Int) false) (fun k => ?_) (Ev.step (f := fun _ => some (bareR R true (manyT R 0 (true, tt, s.2, had, (tt : Int) - 1, 0)))) (fun k => ?_) (Ev.now _))
          · simp only [phaetonref05_bare.l0]
            rw [if_neg (by omega), if_pos trivial, beq_eq_false_iff_ne.mpr h5]
          · simp only [phaetonref05_bare.j1]
            rw [if_neg (by simp)]
            show _ = some (bareR R true (true, tt, s.2, had, (tt : Int) - 1, 0))
            rw [bare_fin rfl (end_e4 h5)]; rfl
      · obtain rfl : e = false := Bool.eq_false_iff.mpr he
        refine Ev.step (f := fun k => phaetonref05_bare.j1 k R (M : Int) false had s.2 (tt : Int) false) (fun k => ?_) (Ev.step (f := fun _ => some (bareR R false (manyT R 0 (true, tt, s.2, had, (tt : Int) - 1, 0)))) (fun k => ?_) (Ev.now _))
        · simp only [phaetonref05_bare.l0]
          rw [if_neg (by omega), if_neg (by simp)]
        · simp only [phaetonref05_bare.j1]
          rw [if_neg (by simp)]
          unfold bareR manyT
          dsimp only
          rw [if_pos rfl, if_neg (by simp)]
    | succ m =>
      have em : manyT R (m + 1) (true, tt, s.2, had, a, 0) = (false, tt, s.2, had, (R.length : Int), 1) := by
        rw [manyT, if_pos rfl, ear_end_ hA, many_false _ _ _ rfl]
      rw [em]
      refine Ev.step (f := fun k => phaetonref05_bare.j1 k R (M : Int) e had s.2 (tt : Int) true) (fun k => ?_) (Ev.step (f := fun _ => some (bareR R e (false, tt, s.2, had, (R.length : Int), 1))) (fun k => ?_) (Ev.now _))
      · simp only [phaetonref05_bare.l0]
        rw [if_pos (by omega)]
      · simp only [phaetonref05_bare.j1]
        rw [if_pos trivial, if_pos (by omega)]
        unfold bareR
        rw [if_neg (by simp), show (tt : Int) = (R.length : Int) by omega]
  | succ q ih =>
    intro m tt s T had a hq hA hM hht ha
    cases T with
    | nil => simp at hq
    | cons c T =>
      have hc := hA.mem hr
      obtain ⟨b1, b2, b3⟩ := hA.bit
      have hq' : T.length = q := by simpa using hq
      have hw1 : wrap64 ((tt : Int) + 1) = ((tt + 1 : Nat) : Int) := by unfold wrap64; omega
      cases m with
      | zero =>
        have ha' := ha rfl
        subst ha'
        by_cases he : e = true
        · subst he
          by_cases h5 : s.2 = 5
          · obtain ⟨h0, hlast⟩ := hA.last5 h5
            have hw0 : wrap64 ((tt : Int) - 1) = ((tt - 1 : Nat) : Int) := by unfold wrap64; omega
            have hst : ∀ k, phaetonref05_bare.l0 (k + 1) R (M : Int) true had s.2 (tt : Int) = phaetonref05_bare.j1 k R (M : Int) true had s.2 (tt : Int) true := fun k => by
              simp only [phaetonref05_bare.l0]
              rw [if_neg (by omega), if_pos trivial, beq_iff_eq.mpr h5]
            by_cases hcs : c = s.1
            · refine Ev.step (f := fun k => phaetonref05_bare.j1 k R (M : Int) true had s.2 (tt : Int) true) hst (Ev.step (f := fun _ => some (bareR R true (manyT R 0 (true, tt, s.2, had, (tt : Int) - 1, 0)))) (fun k => ?_) (Ev.now _))
              simp only [phaetonref05_bare.j1]
              rw [if_pos trivial, if_neg (by omega), if_pos (by omega), if_pos (by omega), if_pos h5, hw0, if_pos (by omega), if_pos (by omega), fb_rd_nat, fb_rd_nat, b2, hlast, if_pos hcs]
              show _ = some (bareR R true (true, tt, s.2, had, (tt : Int) - 1, 0))
              rw [bare_fin rfl (end_e2 h5 (by omega) (by rw [b2, show ((tt : Int) - 1).toNat = tt - 1 by omega, hlast]; exact hcs))]; rfl
            · refine Ev.step (f := fun k => phaetonref05_bare.j1 k R (M : Int) true had s.2 (tt : Int) true) hst (Ev.step (f := fun k => phaetonref05_bare.l0 k R (M : Int) true had 1 ((tt + 1 : Nat) : Int)) (fun k => ?_) (Ev.step (f := fun k => phaetonref05_bare.j1 k R (M : Int) true had 1 ((tt + 1 : Nat) : Int) false) (fun k => ?_) (Ev.step (f := fun _ => some (bareR R true (manyT R 0 (true, tt, s.2, had, (tt : Int) - 1, 0)))) (fun k => ?_) (Ev.now _))))
              · simp only [phaetonref05_bare.j1]
                rw [if_pos trivial, if_neg (by omega), if_pos (by omega), if_pos (by omega), if_pos h5, hw0, if_pos (by omega), if_pos (by omega), fb_rd_nat, fb_rd_nat, b2, hlast, if_neg hcs, hw1]
              · simp only [phaetonref05_bare.l0]
                rw [if_neg (by omega), if_pos trivial]; rfl
              · simp only [phaetonref05_bare.j1]
                rw [if_neg (by simp)]
                show _ = some (bareR R true (true, tt, s.2, had, (tt : Int) - 1, 0))
                rw [bare_fin rfl (end_e3 h5 (by omega) (by rw [b2, show ((tt : Int) - 1).toNat = tt - 1 by omega, hlast]; exact hcs))]; rfl
          · refine Ev.step (f := fun k => phaetonref05_bare.j1 k R (M : Int) true had s.2 (tt : Int) false) (fun k => ?_) (Ev.step (f := fun _ => some (bareR R true (manyT R 0 (true, tt, s.2, had, (tt : Int) - 1, 0)))) (fun k => ?_) (Ev.now _))
            · simp only [phaetonref05_bare.l0]
              rw [if_neg (by omega), if_pos trivial, beq_eq_false_iff_ne.mpr h5]
            · simp only [phaetonref05_bare.j1]
              rw [if_neg (by simp)]
              show _ = some (bareR R true (true, tt, s.2, had, (tt : Int) - 1, 0))
              rw [bare_fin rfl (end_e4 h5)]; rfl
        · obtain rfl : e = false := Bool.eq_false_iff.mpr he
          refine Ev.step (f := fun k => phaetonref05_bare.j1 k R (M : Int) false had s.2 (tt : Int) false) (fun k => ?_) (Ev.step (f := fun _ => some (bareR R false (manyT R 0 (true, tt, s.2, had, (tt : Int) - 1, 0)))) (fun k => ?_) (Ev.now _))
          · simp only [phaetonref05_bare.l0]
            rw [if_neg (by omega), if_neg (by simp)]
          · simp only [phaetonref05_bare.j1]
            rw [if_neg (by simp)]
            unfold bareR manyT
            dsimp only
            rw [if_pos rfl, if_neg (by simp)]
      | succ m =>
        have hst : ∀ k, phaetonref05_bare.l0 (k + 1) R (M : Int) e had s.2 (tt : Int) = phaetonref05_bare.j1 k R (M : Int) e had s.2 (tt : Int) true := fun k => by
          simp only [phaetonref05_bare.l0]
          rw [if_pos (by omega)]
        by_cases h5 : s.2 = 5
        · obtain ⟨h0, hlast⟩ := hA.last5 h5
          have hw0 : wrap64 ((tt : Int) - 1) = ((tt - 1 : Nat) : Int) := by unfold wrap64; omega
          by_cases hcs : c = s.1
          · have em : manyT R (m + 1) (true, tt, s.2, had, a, 0) = (false, tt + 1, s.2, had, (tt : Int), 2) := by
              rw [manyT, if_pos rfl, ear_bad hA hc h5 hcs, many_false _ _ _ rfl]
            rw [em]
            refine Ev.step (f := fun k => phaetonref05_bare.j1 k R (M : Int) e had s.2 (tt : Int) true) hst (Ev.step (f := fun _ => some (bareR R e (false, tt + 1, s.2, had, (tt : Int), 2))) (fun k => ?_) (Ev.now _))
            simp only [phaetonref05_bare.j1]
            rw [if_pos trivial, if_neg (by omega), if_pos (by omega), if_pos (by omega), if_pos h5, hw0, if_pos (by omega), if_pos (by omega), fb_rd_nat, fb_rd_nat, b2, hlast, if_pos hcs]
            unfold bareR
            rw [if_neg (by simp)]
          · have em : manyT R (m + 1) (true, tt, s.2, had, a, 0) = manyT R (m + 1) (true, tt + 1, ((c, 1) : Int × Int).2, had, a, 0) := by
              rw [manyT, if_pos rfl, ear_skip hA hc h5 hcs, manyT, if_pos rfl]
            rw [em]
            refine Ev.step (f := fun k => phaetonref05_bare.j1 k R (M : Int) e had s.2 (tt : Int) true) hst (Ev.step (f := fun k => phaetonref05_bare.l0 k R (M : Int) e had ((c, 1) : Int × Int).2 ((tt + 1 : Nat) : Int)) (fun k => ?_) (ih (m + 1) (tt + 1) (c, 1) T had a hq' (hA.skip hc) hM (by omega) (fun h => by omega)))
            simp only [phaetonref05_bare.j1]
            rw [if_pos trivial, if_neg (by omega), if_pos (by omega), if_pos (by omega), if_pos h5, hw0, if_pos (by omega), if_pos (by omega), fb_rd_nat, fb_rd_nat, b2, hlast, if_neg hcs, hw1]
        · have em : manyT R (m + 1) (true, tt, s.2, had, a, 0) = manyT R m (true, tt + 1, (runS s c).2, had ++ [c], (tt : Int), 0) := by
            rw [manyT, if_pos rfl, ear_bit hA hc h5]
          rw [em]
          have hrun := hA.run c
          have hsle := hA.2.2.1
          have hs0 : 0 ≤ s.2 := by rcases hA.2.2.2 with ⟨_, rfl⟩ | ⟨_, _, _, h3⟩; · exact Int.le_refl _
                                   · omega
          have hwr : wrap64 (s.2 + 1) = s.2 + 1 := by unfold wrap64; omega
          refine Ev.step (f := fun k => phaetonref05_bare.j1 k R (M : Int) e had s.2 (tt : Int) true) hst (Ev.step (f := fun k => phaetonref05_bare.l0 k R (M : Int) e (had ++ [c]) (runS s c).2 ((tt + 1 : Nat) : Int)) (fun k => ?_) (ih m (tt + 1) (runS s c) T (had ++ [c]) (tt : Int) hq' (hA.next hc h5) (by rw [List.length_append, List.length_singleton]; omega) (by rw [List.length_append, List.length_singleton]; omega) (fun _ => by push_cast; omega)))
          simp only [phaetonref05_bare.j1]
          rw [if_pos trivial, if_neg (by omega), if_pos (by omega), if_pos (by omega), if_neg h5, hrun]
          dsimp only
          by_cases h0 : tt = 0
          · rcases hA.2.2.2 with ⟨_, hs⟩ | ⟨h9, _⟩
            · rw [if_neg (by omega), if_pos (by omega), fb_rd_nat, b2, hw1, if_neg (by rw [hs]; rcases hc with h | h <;> rw [h] <;> decide)]
            · omega
          · rcases hA.2.2.2 with ⟨h9, _⟩ | ⟨_, hlast, _, _⟩
            · omega
            · have hw0 : wrap64 ((tt : Int) - 1) = ((tt - 1 : Nat) : Int) := by unfold wrap64; omega
              rw [if_pos (by omega), hw0, if_pos (by omega), if_pos (by omega), fb_rd_nat, fb_rd_nat, b2, hlast]
              by_cases hcs : c = s.1
              · rw [if_pos hcs.symm, if_pos (by omega), hwr, hw1, if_pos hcs]
              · rw [if_neg (fun h => hcs h.symm), if_pos (by omega), hw1, if_neg hcs]
theorem many_skip {R : List Int} {tt : Nat} {s : Int × Int} {c : Int} {T : List Int} (hA : At R tt s (c :: T)) (hc : Bit c) (h5 : s.2 = 5) (hcs : c ≠ s.1) (m : Nat) (had : List Int) (a : Int) : manyT R (m + 1) (true, tt, s.2, had, a, 0) = manyT R (m + 1) (true, tt + 1, 1, had, a, 0) := by
  rw [manyT, if_pos rfl, ear_skip hA hc h5 hcs, manyT, if_pos rfl]
theorem many_bad {R : List Int} {tt : Nat} {s : Int × Int} {c : Int} {T : List Int} (hA : At R tt s (c :: T)) (hc : Bit c) (h5 : s.2 = 5) (hcs : c = s.1) (m : Nat) (had : List Int) (a : Int) : (manyT R (m + 1) (true, tt, s.2, had, a, 0)).1 = false := by
  rw [manyT, if_pos rfl, ear_bad hA hc h5 hcs, many_false _ _ _ rfl]
theorem many_bit {R : List Int} {tt : Nat} {s : Int × Int} {c : Int} {T : List Int} (hA : At R tt s (c :: T)) (hc : Bit c) (h5 : s.2 ≠ 5) (m : Nat) (had : List Int) (a : Int) : manyT R (m + 1) (true, tt, s.2, had, a, 0) = manyT R m (true, tt + 1, (runS s c).2, had ++ [c], (tt : Int), 0) := by
  rw [manyT, if_pos rfl, ear_bit hA hc h5]
theorem many_none {R : List Int} {tt : Nat} {s : Int × Int} (hA : At R tt s []) (m : Nat) (had : List Int) (a : Int) : (manyT R (m + 1) (true, tt, s.2, had, a, 0)).1 = false := by
  rw [manyT, if_pos rfl, ear_end_ hA, many_false _ _ _ rfl]
theorem last_bit {R : List Int} (hr : ∀ x ∈ R, Bit x) (hl : R.length ≤ 1000000) {M n tt : Nat} {s : Int × Int} {c : Int} {T : List Int} (hA : At R tt s (c :: T)) (h5 : s.2 ≠ 5) (hn : n ≤ tt) (k : Nat) :
    phaetonref05_last.l0 (k + 2) R (M : Int) s.2 (n : Int) (tt : Int) = if ((n + 1 : Nat) : Int) = (M : Int) then some (tt : Int) else phaetonref05_last.l0 k R (M : Int) (runS s c).2 ((n + 1 : Nat) : Int) ((tt + 1 : Nat) : Int) := by
  have hc := hA.mem hr
  obtain ⟨b1, b2, b3⟩ := hA.bit
  have hw1 : wrap64 ((tt : Int) + 1) = ((tt + 1 : Nat) : Int) := by unfold wrap64; omega
  have hrun := hA.run c
  have hsle := hA.2.2.1
  have hs0 : 0 ≤ s.2 := by rcases hA.2.2.2 with ⟨_, rfl⟩ | ⟨_, _, _, h3⟩; · exact Int.le_refl _
                           · omega
  have hwr : wrap64 (s.2 + 1) = s.2 + 1 := by unfold wrap64; omega
  have hwn : wrap64 ((n : Int) + 1) = ((n + 1 : Nat) : Int) := by unfold wrap64; omega
  have hal : (0 < tt ∧ R.getD (tt - 1) 0 = c) ↔ c = s.1 := by have := hA.alike hc; rw [b2] at this; exact this
  have hA1 : ∀ k, phaetonref05_last.l0 (k + 1) R (M : Int) s.2 (n : Int) (tt : Int) = phaetonref05_last.j1 k R (M : Int) s.2 (n : Int) (tt : Int) (decide (c = s.1)) := fun k => by
    rw [phaetonref05_last.l0.eq_2, if_pos (by omega), if_neg h5]
    by_cases h0 : tt = 0
    · rw [if_neg (by omega), decide_eq_false (fun h => by have := (hal.mpr h).1; omega)]
    · have hw0 : wrap64 ((tt : Int) - 1) = ((tt - 1 : Nat) : Int) := by unfold wrap64; omega
      rw [if_pos (by omega), hw0, if_pos (by omega), if_pos (by omega), if_pos (by omega), fb_rd_nat, fb_rd_nat, b2]
      by_cases hcs : c = s.1
      · rw [decide_eq_true hcs, beq_iff_eq.mpr (hal.mpr hcs).2]
      · rw [decide_eq_false hcs, beq_eq_false_iff_ne.mpr (fun h => hcs (hal.mp ⟨by omega, h⟩))]
  rw [show k + 2 = (k + 1) + 1 from rfl, hA1, phaetonref05_last.j1.eq_2, hrun]
  by_cases hcs : c = s.1
  · rw [decide_eq_true hcs, if_pos rfl, hwn, hw1, hwr]; dsimp only; rw [if_pos hcs]
  · rw [decide_eq_false hcs, if_neg (by simp), hwn, hw1]; dsimp only; rw [if_neg hcs]
theorem last_skip {R : List Int} (hl : R.length ≤ 1000000) {M n tt : Nat} {s : Int × Int} {c : Int} {T : List Int} (hA : At R tt s (c :: T)) (h5 : s.2 = 5) (k : Nat) : phaetonref05_last.l0 (k + 1) R (M : Int) s.2 (n : Int) (tt : Int) = phaetonref05_last.l0 k R (M : Int) 1 (n : Int) ((tt + 1 : Nat) : Int) := by
  obtain ⟨b1, b2, b3⟩ := hA.bit
  have hw1 : wrap64 ((tt : Int) + 1) = ((tt + 1 : Nat) : Int) := by unfold wrap64; omega
  rw [phaetonref05_last.l0.eq_2, if_pos (by omega), if_pos h5, hw1]
theorem last_k {R : List Int} (hr : ∀ x ∈ R, Bit x) (hl : R.length ≤ 1000000) (M : Nat) : ∀ (q : Nat) (m n tt : Nat) (s : Int × Int) (T had : List Int) (a : Int) (z : EarS), T.length = q → At R tt s T → n + (m + 1) = M → n ≤ tt → manyT R (m + 1) (true, tt, s.2, had, a, 0) = z → z.1 = true → 
    ∃ K, ∀ k, K ≤ k → phaetonref05_last.l0 k R (M : Int) s.2 (n : Int) (tt : Int) = some ((z.2.1 : Int) - 1) := by
  intro q
  induction q with
  | zero =>
    intro m n tt s T had a z hq hA hM hn hz hok
    obtain rfl : T = [] := List.length_eq_zero_iff.mp hq
    have := many_none hA m had a
    rw [hz, hok] at this
    cases this
  | succ q ih =>
    intro m n tt s T had a z hq hA hM hn hz hok
    cases T with
    | nil => cases hq
    | cons c T =>
      have hc := hA.mem hr
      have hq' : T.length = q := Nat.succ.inj hq
      by_cases h5 : s.2 = 5
      · by_cases hcs : c = s.1
        · have := many_bad hA hc h5 hcs m had a
          rw [hz, hok] at this
          cases this
        · obtain ⟨K, hK⟩ := ih m n (tt + 1) (c, 1) T had a z hq' (hA.skip hc) hM (Nat.le_succ_of_le hn) ((many_skip hA hc h5 hcs m had a).symm.trans hz) hok
          refine ⟨K + 1, fun k hk => ?_⟩
          obtain ⟨k, rfl⟩ : ∃ j, k = j + 1 := ⟨k - 1, (Nat.sub_add_cancel (Nat.le_trans (Nat.succ_le_succ (Nat.zero_le K)) hk)).symm⟩
          rw [last_skip hl hA h5]
          exact hK k (Nat.le_of_succ_le_succ hk)
      · have hz2 := (many_bit hA hc h5 m had a).symm.trans hz
        cases m with
        | zero =>
          have hz3 : (true, tt + 1, (runS s c).2, had ++ [c], (tt : Int), 0) = z := hz2
          refine ⟨2, fun k hk => ?_⟩
          obtain ⟨k, rfl⟩ : ∃ j, k = j + 2 := ⟨k - 2, (Nat.sub_add_cancel hk).symm⟩
          rw [last_bit hr hl hA h5 hn, if_pos (by rw [← hM]), ← hz3]
          show some (tt : Int) = some (((tt + 1 : Nat) : Int) - 1)
          congr 1; push_cast; omega
        | succ m =>
          obtain ⟨K, hK⟩ := ih m (n + 1) (tt + 1) (runS s c) T (had ++ [c]) (tt : Int) z hq' (hA.next hc h5) (by rw [← hM]; omega) (Nat.succ_le_succ hn) hz2 hok
          refine ⟨K + 2, fun k hk => ?_⟩
          obtain ⟨k, rfl⟩ : ∃ j, k = j + 2 := ⟨k - 2, (Nat.sub_add_cancel (Nat.le_trans (Nat.le_add_left 2 K) hk)).symm⟩
          rw [last_bit hr hl hA h5 hn, if_neg (by rw [← hM]; exact fun h => by have := Int.ofNat.inj h; omega)]
          exact hK k (Nat.le_of_add_le_add_right hk)
theorem many_step (R : List Int) : ∀ (j : Nat) (s : EarS), manyT R (j + 1) s = if (manyT R j s).1 = true then ear_next R (manyT R j s) else manyT R j s
  | 0, s => rfl
  | j + 1, s => by rw [manyT, many_step R j, manyT]
theorem many_add (R : List Int) : ∀ (j i : Nat) (s : EarS), manyT R (i + j) s = manyT R j (manyT R i s)
  | 0, i, s => rfl
  | j + 1, i, s => by rw [show i + (j + 1) = (i + j) + 1 by omega, many_step, many_add R j i s, ← many_step]
end Go.Proofs.Ythgeekcobmhbfaa.PB
/- What is read of bits, backwards. -/
set_option linter.unusedVariables false
set_option linter.unusedSimpArgs false
namespace Go.Proofs.Ythgeekcobmhbfaa.PB
open Go.RowKit Go.Proofs.Ythgeekcobmhbfaa.Px Go.Proofs.YthgeekcobmhbfaaW.PrintWords Go.Proofs.YthgeekcobmhbfaaW.PrintLast Go.Proofs.YthgeekcobmhbfaaW.PrintMore
open Go.Proofs.Ythgeekcobmhbfaa.H (RankL lessB whereB leastB Parts IdOk rankF bitI bitsOf spreadB)
theorem err_ne {v : Int} (hv : v ≠ 0) (h : (frame_err v).1 = 0) : False := hv h
theorem join_back {l : List Int} (h : H.rightB l = true) (n : Nat) (hn : l.length = 8 * n) : (H.joinB l).1.length = n ∧ spreadB (H.joinB l).1 = l ∧ ∀ x ∈ (H.joinB l).1, H.U8 x := by
  obtain ⟨h1, h2⟩ := H.spread_bytes n l hn h
  have h3 := H.bytesB_length l
  unfold H.joinB
  rw [if_pos (by omega), if_pos h]
  exact ⟨by show (H.bytesB l).length = n; omega, h1, h2⟩
theorem bit_of_num {l : List Int} (h : H.rightB l = true) (i : Nat) (hl : i + 1 ≤ l.length) : frame_bitsAt l i 1 = [frame_numAt l i 1] ∧ (frame_numAt l i 1 = 0 ∨ frame_numAt l i 1 = 1) := by
  obtain ⟨h1, h2, h3⟩ := numAt_bits h i 1 (by decide) hl
  have h4 : frame_numAt l i 1 = 0 ∨ frame_numAt l i 1 = 1 := by omega
  exact ⟨h1.trans (bit_one _ h4), h4⟩
theorem tail_back {l : List Int} {e : Bool} {id : Int} {rm : Bool} {at_ : Nat} (hr : H.rightB l = true) (hz : (frame_tailB l e id rm at_).1 = 0) : ∃ ln d, frame_tailB l e id rm at_ = (0, e, id, rm, ln, d, at_ + 5 + 8 * d.length) ∧ 0 ≤ ln ∧ ln ≤ 8 ∧ (d.length : Int) = (if rm = true then 0 else ln) ∧ (∀ x ∈ d, H.U8 x) ∧ at_ + 5 + 8 * d.length ≤ l.length ∧ l.take (at_ + 5 + 8 * d.length) = l.take at_ ++ ([0] ++ (bitsOf ln 4 ++ spreadB d)) := by
  unfold frame_tailB at hz ⊢
  by_cases c1 : l.length < at_ + 1
  · rw [if_pos c1] at hz; exact (err_ne (by decide) hz).elim
  rw [if_neg c1] at hz ⊢
  by_cases c2 : ¬ frame_numAt l at_ 1 = 0
  · rw [if_pos c2] at hz; exact (err_ne (by decide) hz).elim
  rw [if_neg c2] at hz ⊢
  by_cases c3 : l.length < at_ + 5
  · rw [if_pos c3] at hz; exact (err_ne (by decide) hz).elim
  rw [if_neg c3] at hz ⊢
  by_cases c4 : 8 < frame_numAt l (at_ + 1) 4
  · rw [if_pos c4] at hz; exact (err_ne (by decide) hz).elim
  rw [if_neg c4] at hz ⊢
  obtain ⟨b1, _⟩ := bit_of_num hr at_ (by omega)
  obtain ⟨n1, n2, n3⟩ := numAt_bits hr (at_ + 1) 4 (by decide) (by omega)
  have e5 : l.take (at_ + 5) = l.take at_ ++ ([0] ++ bitsOf (frame_numAt l (at_ + 1) 4) 4) := by
    rw [show at_ + 5 = (at_ + 1) + 4 by omega, take_bitsAt, take_bitsAt, b1, n1, Decidable.not_not.mp c2, List.append_assoc]
  cases rm with
  | true =>
    rw [if_pos rfl]
    refine ⟨_, [], rfl, n2, by omega, rfl, fun x hx => (by cases hx), (by rw [List.length_nil]; omega), ?_⟩
    rw [List.length_nil, Nat.mul_zero, Nat.add_zero, e5]
    show _ = l.take at_ ++ ([0] ++ (bitsOf (frame_numAt l (at_ + 1) 4) 4 ++ spreadB []))
    rw [show spreadB ([] : List Int) = [] from rfl, List.append_nil]
  | false =>
    rw [if_neg (by simp)] at hz ⊢
    by_cases c5 : l.length < at_ + 5 + 8 * (frame_numAt l (at_ + 1) 4).toNat
    · rw [if_pos c5] at hz; exact (err_ne (by decide) hz).elim
    rw [if_neg c5]
    have hbl := frame_bitsAt_len l (at_ + 5) (8 * (frame_numAt l (at_ + 1) 4).toNat) (by omega)
    obtain ⟨j1, j2, j3⟩ := join_back (bitsAt_right hr (at_ + 5) (8 * (frame_numAt l (at_ + 1) 4).toNat)) (frame_numAt l (at_ + 1) 4).toNat hbl
    refine ⟨_, _, ?_, n2, by omega, ?_, j3, ?_, ?_⟩
    · rw [j1]
    · rw [j1, if_neg (by simp)]; omega
    · rw [j1]; omega
    · rw [j1, take_bitsAt, e5, j2, List.append_assoc, List.append_assoc]
/-- Bits of which a frame is read begin with its head, and the frame is right. -/
theorem read_back {l : List Int} (hr : H.rightB l = true) (hz : (frame_readB l).1 = 0) : ∃ e id rm ln d, frame_readB l = (0, e, id, rm, ln, d, (headF e id rm ln d).length) ∧ FRight e id rm ln d ∧ (∀ x ∈ d, H.U8 x) ∧ (headF e id rm ln d).length ≤ l.length ∧ l.take (headF e id rm ln d).length = headF e id rm ln d := by
  unfold frame_readB at hz ⊢
  by_cases c1 : l.length < 1
  · rw [if_pos c1] at hz; exact (err_ne (by decide) hz).elim
  rw [if_neg c1] at hz ⊢
  by_cases c2 : ¬ frame_numAt l 0 1 = 0
  · rw [if_pos c2] at hz; exact (err_ne (by decide) hz).elim
  rw [if_neg c2] at hz ⊢
  by_cases c3 : l.length < 12
  · rw [if_pos c3] at hz; exact (err_ne (by decide) hz).elim
  rw [if_neg c3] at hz ⊢
  by_cases c4 : l.length < 13
  · rw [if_pos c4] at hz; exact (err_ne (by decide) hz).elim
  rw [if_neg c4] at hz ⊢
  by_cases c5 : l.length < 14
  · rw [if_pos c5] at hz; exact (err_ne (by decide) hz).elim
  rw [if_neg c5] at hz ⊢
  obtain ⟨b0, _⟩ := bit_of_num hr 0 (by omega)
  obtain ⟨b12, v12⟩ := bit_of_num hr 12 (by omega)
  obtain ⟨b13, v13⟩ := bit_of_num hr 13 (by omega)
  obtain ⟨n1, n2, n3⟩ := numAt_bits hr 1 11 (by decide) (by omega)
  have e14 : l.take 14 = [0] ++ (bitsOf (frame_numAt l 1 11) 11 ++ ([frame_numAt l 12 1] ++ [frame_numAt l 13 1])) := by
    have t1 := take_bitsAt l 13 1
    have t2 := take_bitsAt l 12 1
    have t3 := take_bitsAt l 1 11
    have t4 := take_bitsAt l 0 1
    rw [show l.take 14 = l.take (13 + 1) from rfl, t1, show l.take 13 = l.take (12 + 1) from rfl, t2, show l.take 12 = l.take (1 + 11) from rfl, t3, show l.take 1 = l.take (0 + 1) from rfl, t4, b0, b12, b13, n1, Decidable.not_not.mp c2]
    simp
  by_cases c6 : frame_numAt l 13 1 = 1
  · rw [if_pos c6] at hz ⊢
    by_cases c7 : ¬ frame_numAt l 12 1 = 1
    · rw [if_pos c7] at hz; exact (err_ne (by decide) hz).elim
    rw [if_neg c7] at hz ⊢
    by_cases c8 : l.length < 32
    · rw [if_pos c8] at hz; exact (err_ne (by decide) hz).elim
    rw [if_neg c8] at hz ⊢
    by_cases c9 : l.length < 33
    · rw [if_pos c9] at hz; exact (err_ne (by decide) hz).elim
    rw [if_neg c9] at hz ⊢
    by_cases c10 : l.length < 34
    · rw [if_pos c10] at hz; exact (err_ne (by decide) hz).elim
    rw [if_neg c10] at hz ⊢
    by_cases c11 : ¬ frame_numAt l 33 1 = 0
    · rw [if_pos c11] at hz; exact (err_ne (by decide) hz).elim
    rw [if_neg c11] at hz ⊢
    obtain ⟨ln, d, t1, t2, t3, t4, t5, t6, t7⟩ := tail_back hr hz
    obtain ⟨m1, m2, m3⟩ := numAt_bits hr 14 18 (by decide) (by omega)
    obtain ⟨b32, v32⟩ := bit_of_num hr 32 (by omega)
    obtain ⟨b33, _⟩ := bit_of_num hr 33 (by omega)
    have hid := or_parts n2 n3 m2 m3
    rw [hid] at t1 ⊢
    have hrm : bitI (decide (frame_numAt l 32 1 = 1)) = frame_numAt l 32 1 := by rcases v32 with h | h <;> rw [h] <;> rfl
    have hlen : (headF true (frame_numAt l 1 11 * 262144 + frame_numAt l 14 18) (decide (frame_numAt l 32 1 = 1)) ln d).length = 34 + 5 + 8 * d.length := by rw [headF_len, if_pos rfl]
    refine ⟨true, frame_numAt l 1 11 * 262144 + frame_numAt l 14 18, decide (frame_numAt l 32 1 = 1), ln, d, ?_, ⟨⟨by omega, by rw [if_pos rfl]; omega⟩, t2, t3, t4⟩, t5, by omega, ?_⟩
    · rw [t1, hlen]
    · rw [hlen, t7]
      have e34 : l.take 34 = l.take 14 ++ (bitsOf (frame_numAt l 14 18) 18 ++ ([frame_numAt l 32 1] ++ [0])) := by
        rw [show l.take 34 = l.take (33 + 1) from rfl, take_bitsAt, show l.take 33 = l.take (32 + 1) from rfl, take_bitsAt, show l.take 32 = l.take (14 + 18) from rfl, take_bitsAt, m1, b32, b33, Decidable.not_not.mp c11]
        simp [List.append_assoc]
      rw [e34, e14, c6, Decidable.not_not.mp c7]
      unfold headF preF rankF
      rw [if_pos rfl, if_pos rfl, hrm, show (frame_numAt l 1 11 * 262144 + frame_numAt l 14 18) / 262144 = frame_numAt l 1 11 by omega, show (frame_numAt l 1 11 * 262144 + frame_numAt l 14 18) % 262144 = frame_numAt l 14 18 by omega]
      simp [List.append_assoc]
  · rw [if_neg c6] at hz ⊢
    have c13 : frame_numAt l 13 1 = 0 := v13.resolve_right c6
    obtain ⟨ln, d, t1, t2, t3, t4, t5, t6, t7⟩ := tail_back hr hz
    have hrm : bitI (decide (frame_numAt l 12 1 = 1)) = frame_numAt l 12 1 := by rcases v12 with h | h <;> rw [h] <;> rfl
    have hlen : (headF false (frame_numAt l 1 11) (decide (frame_numAt l 12 1 = 1)) ln d).length = 14 + 5 + 8 * d.length := by rw [headF_len, if_neg (by simp)]
    refine ⟨false, frame_numAt l 1 11, decide (frame_numAt l 12 1 = 1), ln, d, ?_, ⟨⟨n2, by rw [if_neg (by simp)]; omega⟩, t2, t3, t4⟩, t5, by omega, ?_⟩
    · rw [t1, hlen]
    · rw [hlen, t7, e14, c13]
      unfold headF preF rankF
      rw [if_neg (by simp), if_neg (by simp), hrm]
      simp [List.append_assoc]
/-- What is wrong, where nothing is read. -/
theorem tail_errs (l : List Int) (e : Bool) (id : Int) (rm : Bool) (at_ : Nat) : (frame_tailB l e id rm at_).1 = 0 ∨ ∃ v, frame_tailB l e id rm at_ = frame_err v ∧ (v = 40 ∨ v = 41 ∨ v = 42) := by
  unfold frame_tailB
  repeat' split
  all_goals first | exact Or.inl rfl | exact Or.inr ⟨_, rfl, by decide⟩
theorem read_errs (l : List Int) : (frame_readB l).1 = 0 ∨ ∃ v, frame_readB l = frame_err v ∧ (v = 40 ∨ v = 41 ∨ v = 42) := by
  unfold frame_readB
  by_cases h2 : l.length < 1
  · rw [if_pos h2]; exact Or.inr ⟨40, rfl, by decide⟩
  rw [if_neg h2]
  by_cases h5 : ¬ frame_numAt l 0 1 = 0
  · rw [if_pos h5]; exact Or.inr ⟨42, rfl, by decide⟩
  rw [if_neg h5]
  by_cases h8 : l.length < 12
  · rw [if_pos h8]; exact Or.inr ⟨40, rfl, by decide⟩
  rw [if_neg h8]
  by_cases h11 : l.length < 13
  · rw [if_pos h11]; exact Or.inr ⟨40, rfl, by decide⟩
  rw [if_neg h11]
  by_cases h14 : l.length < 14
  · rw [if_pos h14]; exact Or.inr ⟨40, rfl, by decide⟩
  rw [if_neg h14]
  by_cases g : frame_numAt l 13 1 = 1
  · rw [if_pos g]
    by_cases h19 : ¬ frame_numAt l 12 1 = 1
    · rw [if_pos h19]; exact Or.inr ⟨42, rfl, by decide⟩
    rw [if_neg h19]
    by_cases h22 : l.length < 32
    · rw [if_pos h22]; exact Or.inr ⟨40, rfl, by decide⟩
    rw [if_neg h22]
    by_cases h25 : l.length < 33
    · rw [if_pos h25]; exact Or.inr ⟨40, rfl, by decide⟩
    rw [if_neg h25]
    by_cases h28 : l.length < 34
    · rw [if_pos h28]; exact Or.inr ⟨40, rfl, by decide⟩
    rw [if_neg h28]
    by_cases h31 : ¬ frame_numAt l 33 1 = 0
    · rw [if_pos h31]; exact Or.inr ⟨42, rfl, by decide⟩
    rw [if_neg h31]
    exact tail_errs _ _ _ _ _
  · rw [if_neg g]; exact tail_errs _ _ _ _ _
end Go.Proofs.Ythgeekcobmhbfaa.PB
/- What an ear has heard, where nothing was wrong, was sent so. No program in sight. -/
set_option linter.unusedVariables false
set_option linter.unusedSimpArgs false
namespace Go.Proofs.Ythgeekcobmhbfaa.PB
open Go.RowKit Go.Proofs.Ythgeekcobmhbfaa.Px Go.Proofs.YthgeekcobmhbfaaW.PrintWords Go.Proofs.YthgeekcobmhbfaaW.PrintLast Go.Proofs.YthgeekcobmhbfaaW.PrintMore
open Go.Proofs.Ythgeekcobmhbfaa.H (IdOk rankF bitI bitsOf spreadB Bit runS stuffGo stuffD)
/-- What was heard is what was sent. -/
def Sent (R : List Int) (tt : Nat) (s : Int × Int) (had : List Int) : Prop := (∀ b ∈ had, Bit b) ∧ ∀ l, stuffGo (-1, 0) (had ++ l) = R.take tt ++ stuffD s l
/-- A fault, and its place. -/
def Bad (R : List Int) (s : EarS) : Prop := s.1 = false ∧ (s.2.2.2.2.2 = 1 ∨ s.2.2.2.2.2 = 2 ∨ s.2.2.2.2.2 = 3 ∨ s.2.2.2.2.2 = 4) ∧ 0 ≤ s.2.2.2.2.1 ∧ s.2.2.2.2.1 ≤ (R.length : Int)
theorem Sent.start (R : List Int) : Sent R 0 (-1, 0) [] := ⟨fun b h => (by cases h), fun l => by rw [List.take_zero, List.nil_append, List.nil_append, stuffD_go (by decide)]⟩
theorem At.take {R : List Int} {tt : Nat} {s : Int × Int} {b : Int} {T : List Int} (h : At R tt s (b :: T)) : R.take (tt + 1) = R.take tt ++ [b] := by
  rw [H.take_snoc 0 R tt h.bit.1, h.bit.2.1]
theorem At.in {R : List Int} {tt : Nat} {s : Int × Int} {b : Int} {T : List Int} (h : At R tt s (b :: T)) (hr : ∀ x ∈ R, Bit x) : Bit b := by
  rw [← h.bit.2.1]; exact hr _ (fb_rd_mem h.bit.1)
theorem Sent.next {R : List Int} {tt : Nat} {s : Int × Int} {b : Int} {T had : List Int} (h : At R tt s (b :: T)) (hb : Bit b) (h5 : s.2 ≠ 5) (hS : Sent R tt s had) : Sent R (tt + 1) (runS s b) (had ++ [b]) := by
  refine ⟨fun x hx => ?_, fun l => ?_⟩
  · rcases List.mem_append.mp hx with hx | hx
    · exact hS.1 x hx
    · rw [List.mem_singleton.mp hx]; exact hb
  · rw [List.append_assoc, hS.2, List.singleton_append, stuffD_go h5, stuffGo_D, h.take, List.append_assoc]; rfl
theorem Sent.skip {R : List Int} {tt : Nat} {s : Int × Int} {b : Int} {T had : List Int} (h : At R tt s (b :: T)) (h5 : s.2 = 5) (hn : b = 1 - s.1) (hS : Sent R tt s had) : Sent R (tt + 1) (b, 1) had := by
  refine ⟨hS.1, fun l => ?_⟩
  rw [hS.2, stuffD_5 h5, h.take, stuffD_go (by show (1 : Int) ≠ 5; omega), List.append_assoc, ← hn]; rfl
theorem turn_of {b c : Int} (hb : Bit b) (hc : Bit c) (h : b ≠ c) : b = 1 - c := by rcases hb with rfl | rfl <;> rcases hc with rfl | rfl <;> first | rfl | exact absurd rfl h
theorem next_conv {R : List Int} (hr : ∀ x ∈ R, Bit x) {tt : Nat} {s : Int × Int} {T had : List Int} (h : At R tt s T) (hS : Sent R tt s had) (x : Bool) (a : Int) :
    Bad R (ear_next R (x, tt, s.2, had, a, 0)) ∨ ∃ (tt' : Nat) (s' : Int × Int) (T' : List Int) (b : Int), ear_next R (x, tt, s.2, had, a, 0) = (true, tt', s'.2, had ++ [b], (tt' : Int) - 1, 0) ∧ At R tt' s' T' ∧ Sent R tt' s' (had ++ [b]) ∧ tt < tt' := by
  have hl := h.len
  cases T with
  | nil => rw [ear_end_ h]; exact .inl ⟨rfl, .inl rfl, by show (0 : Int) ≤ (R.length : Int); omega, Int.le_refl _⟩
  | cons c T =>
    have hc := h.in hr
    rw [List.length_cons] at hl
    by_cases h5 : s.2 = 5
    · by_cases he : c = s.1
      · rw [ear_bad h hc h5 he]; exact .inl ⟨rfl, .inr (.inl rfl), by show (0 : Int) ≤ (tt : Int); omega, by show (tt : Int) ≤ (R.length : Int); omega⟩
      · rw [ear_skip h hc h5 he]
        have h' := h.skip hc
        have hS' := hS.skip h h5 (turn_of hc (h.five h5) he)
        have hl' := h'.len
        cases T with
        | nil =>
          rw [ear_end_ (s := (c, 1)) h']; exact .inl ⟨rfl, .inl rfl, by show (0 : Int) ≤ (R.length : Int); omega, Int.le_refl _⟩
        | cons b T =>
          have hb := h'.in hr
          have h51 : ((c, 1) : Int × Int).2 ≠ 5 := by show (1 : Int) ≠ 5; omega
          exact .inr ⟨tt + 1 + 1, _, T, b, by rw [ear_bit (s := (c, 1)) h' hb h51]; congr 5; push_cast; omega, h'.next hb h51, hS'.next h' hb h51, by omega⟩
    · exact .inr ⟨tt + 1, _, T, c, by rw [ear_bit h hc h5]; congr 5; push_cast; omega, h.next hc h5, hS.next h hc h5, by omega⟩
theorem many_conv {R : List Int} (hr : ∀ x ∈ R, Bit x) : ∀ (k tt : Nat) (s : Int × Int) (T had : List Int), At R tt s T → Sent R tt s had →
    Bad R (manyT R k (true, tt, s.2, had, (tt : Int) - 1, 0)) ∨ ∃ (tt' : Nat) (s' : Int × Int) (T' t : List Int), manyT R k (true, tt, s.2, had, (tt : Int) - 1, 0) = (true, tt', s'.2, had ++ t, (tt' : Int) - 1, 0) ∧ At R tt' s' T' ∧ Sent R tt' s' (had ++ t) ∧ tt ≤ tt' ∧ t.length = k := by
  intro k
  induction k with
  | zero => intro tt s T had hA hS; exact .inr ⟨tt, s, T, [], by rw [List.append_nil]; rfl, hA, by rw [List.append_nil]; exact hS, Nat.le_refl _, rfl⟩
  | succ k ih =>
    intro tt s T had hA hS
    rw [manyT, if_pos rfl]
    rcases next_conv hr hA hS true ((tt : Int) - 1) with hB | ⟨tt', s', T', b, he, hA', hS', hlt⟩
    · rw [many_false R k _ hB.1]; exact .inl hB
    · rw [he]
      rcases ih tt' s' T' (had ++ [b]) hA' hS' with hB | ⟨t2, s2, T2, t, he2, hA2, hS2, hlt2, hl⟩
      · exact .inl hB
      · exact .inr ⟨t2, s2, T2, b :: t, by rw [he2, List.append_assoc]; rfl, hA2, by rw [List.append_assoc] at hS2; exact hS2, by omega, by rw [List.length_cons, hl]⟩
theorem end_conv {R : List Int} (hr : ∀ x ∈ R, Bit x) {tt : Nat} {s : Int × Int} {T had : List Int} (h : At R tt s T) (hS : Sent R tt s had) (h0 : 0 < tt) (x : Bool) :
    Bad R (endT R (x, tt, s.2, had, (tt : Int) - 1, 0)).2 ∨ ∃ en, endT R (x, tt, s.2, had, (tt : Int) - 1, 0) = (en, true, tt, s.2, had, (tt : Int) - 1, 0) ∧ en ≤ R.length ∧ 0 < en ∧ stuffGo (-1, 0) had = R.take en := by
  have h1 := hS.2 []
  have hl := h.len
  rw [List.append_nil] at h1
  unfold endT
  dsimp only
  by_cases h5 : s.2 = 5
  · rw [if_pos h5]
    cases T with
    | nil =>
      rw [List.length_nil] at hl
      rw [if_pos (by omega)]
      exact .inl ⟨rfl, .inl rfl, by show (0 : Int) ≤ (tt : Int); omega, by show (tt : Int) ≤ (R.length : Int); omega⟩
    | cons c T =>
      obtain ⟨b1, b2, b3⟩ := h.bit
      have hc := h.in hr
      rcases h.2.2.2 with ⟨h9, _⟩ | ⟨_, h2, h3, _⟩
      · omega
      rw [if_neg (by omega), b2, show ((tt : Int) - 1).toNat = tt - 1 by omega, h2]
      by_cases he : c = s.1
      · rw [if_pos he]
        exact .inl ⟨rfl, .inr (.inl rfl), by show (0 : Int) ≤ (tt : Int); omega, by show (tt : Int) ≤ (R.length : Int); omega⟩
      · rw [if_neg he]
        refine .inr ⟨tt + 1, rfl, b1, Nat.succ_pos _, ?_⟩
        rw [h1, stuffD_5 h5, stuffGo, h.take, ← turn_of hc h3 he]
  · rw [if_neg h5]
    refine .inr ⟨tt, rfl, h.1, h0, ?_⟩
    rw [h1, stuffD_go h5, stuffGo, List.append_nil]
end Go.Proofs.Ythgeekcobmhbfaa.PB
/- Plain words on bytes and numbers put together, exclusively. -/
set_option linter.unusedVariables false
set_option linter.unusedSimpArgs false
namespace Go.Proofs.Ythgeekcobmhbfaa.PB
open Go.RowKit
theorem bits_bv {n : Nat} (hn : n ≤ 62) (a b : BitVec n) : Go.bits .xor .i64 (a.toNat : Int) (b.toNat : Int) = ((a ^^^ b).toNat : Int) := by
  have hp : (2 : Nat) ^ n ≤ 2 ^ 62 := Nat.pow_le_pow_right (by decide) hn
  have ha := a.isLt
  have hb := b.isLt
  rw [H.xor_i64 _ _ (by omega) (by omega), BitVec.toNat_xor]
end Go.Proofs.Ythgeekcobmhbfaa.PB
/- What the document's sum of 15 bits comes to. -/
set_option linter.unusedVariables false
set_option linter.unusedSimpArgs false
namespace Go.Proofs.Ythgeekcobmhbfaa.PB
open Go.RowKit Go.Proofs.Ythgeekcobmhbfaa.Px Go.Proofs.YthgeekcobmhbfaaW.PrintWords Go.Proofs.YthgeekcobmhbfaaW.PrintLast Go.Proofs.YthgeekcobmhbfaaW.PrintMore
theorem refBits_step (s : BitVec 15) (x : Int) : (if Go.bits .xor .i64 x ((s.toNat : Int) / 16384) = 1 then Go.bits .xor .i64 (Int.tmod (wrap64 ((s.toNat : Int) * 2)) 32768) 17817 else Int.tmod (wrap64 ((s.toNat : Int) * 2)) 32768) = ((H.regB H.P15 s x).toNat : Int) := by
  have hs := s.isLt
  have e1 : Int.tmod (wrap64 ((s.toNat : Int) * 2)) 32768 = ((s <<< 1).toNat : Int) := by
    rw [show wrap64 ((s.toNat : Int) * 2) = (s.toNat : Int) * 2 by unfold wrap64; omega, Int.tmod_eq_emod_of_nonneg (by omega), BitVec.toNat_shiftLeft, Nat.shiftLeft_eq]
    omega
  have e2 : (17817 : Int) = ((H.P15).toNat : Int) := rfl
  have e3 : Go.bits .xor .i64 x ((s.toNat : Int) / 16384) = Go.bits .xor .i64 ((s.toNat / 2 ^ (15 - 1) : Nat) : Int) x := by
    rw [show ((s.toNat : Int) / 16384) = ((s.toNat / 2 ^ (15 - 1) : Nat) : Int) from rfl]
    show IntKind.i64.wrap (((BitVec.ofInt 64 x ^^^ BitVec.ofInt 64 ((s.toNat / 2 ^ (15 - 1) : Nat) : Int)).toNat : Nat) : Int) = _
    rw [BitVec.xor_comm]
    rfl
  rw [e3, e1]
  unfold H.regB
  split
  · rw [e2, bits_bv (by decide)]
  · rfl
theorem refBits_l0 (l : List Int) (hl : l.length ≤ 4611686018427387904) : ∀ d i : Nat, i + d = l.length → Ev (fun k => phaetonref02_Bits.l0 k l ((H.crcB (l.take i)).toNat : Int) (i : Int)) ((H.crcB l).toNat : Int) := by
  intro d
  induction d with
  | zero =>
    intro i hi
    refine Ev.step (f := fun _ => some ((H.crcB l).toNat : Int)) (fun k => ?_) (Ev.now _)
    rw [phaetonref02_Bits.l0.eq_2, if_neg (by omega), List.take_of_length_le (by omega)]
  | succ d ih =>
    intro i hi
    have hlt : i < l.length := by omega
    refine Ev.step (f := fun k => phaetonref02_Bits.l0 k l ((H.crcB (l.take (i + 1))).toNat : Int) ((i + 1 : Nat) : Int)) (fun k => ?_) (ih (i + 1) (by omega))
    have st := refBits_step (H.crcB (l.take i)) (l.getD i 0)
    rw [phaetonref02_Bits.l0.eq_2, if_pos (by omega), if_pos (by omega), rd_nat, H.wrap_succ hlt hl, H.take_snoc 0 _ i hlt, H.crcB_snoc, ← st]
    split <;> rfl
theorem refBits_k (l : List Int) (hl : l.length ≤ 4611686018427387904) (hr : H.rightB l = true) : ∃ K, ∀ k, K ≤ k → phaetonref02_Bits.f k l = some ((H.crcB l).toNat : Int) := refBits_l0 l hl l.length 0 (by omega)
/-! ### the sum of 8 bits -/
end Go.Proofs.Ythgeekcobmhbfaa.PB
/- The document's reading of a frame on a line comes to wire.Read's. -/
set_option linter.unusedVariables false
set_option linter.unusedSimpArgs false
namespace Go.Proofs.Ythgeekcobmhbfaa.PB
open Go.RowKit Go.Proofs.Ythgeekcobmhbfaa.Px Go.Proofs.YthgeekcobmhbfaaW.PrintWords Go.Proofs.YthgeekcobmhbfaaW.PrintLast Go.Proofs.YthgeekcobmhbfaaW.PrintMore
open Go.Proofs.Ythgeekcobmhbfaa.H (IdOk rankF bitI bitsOf spreadB Bit runS stuffGo stuffD)
theorem bare_f {R : List Int} (hr : ∀ x ∈ R, Bit x) (hl : R.length ≤ 1000000) (e : Bool) (M : Nat) (hM : 0 < M) : ∃ K, ∀ k, K ≤ k → phaetonref05_bare.f k R (M : Int) e = some (bareR R e (manyT R M (true, 0, 0, [], 0, 0))) :=
  bare_k hr hl e M R.length M 0 (-1, 0) R [] 0 rfl (At.start R) (by simp) (Nat.le_refl _) (fun h => by omega)
theorem tailG_no {k : Nat} {R h : List Int} {n a f : Int} (hf : f ≠ 0) : tail05G k R n (h, a, f) = some (false, 0, false, 0, [], f, a) := by unfold tail05G; exact if_neg hf
theorem tailG_yes {k : Nat} {R h : List Int} {m en : Nat} (hm : m ≤ h.length) (hen : en ≤ R.length) (hh : h.length ≤ 1000000) (hb : H.rightB h = true) {g : Int × Bool} {t : Int} (h1 : phaetonref01_Get.f k (h.drop m) = some g) (h2 : phaetonref02_Bits.f k (h.take m) = some t) :
    tail05G k R (m : Int) (h, (en : Int), 0) = if g.1 = t then some (tail05T R h en) else some (false, 0, false, 0, [], 4, (en : Int) - 1) := by
  unfold tail05G
  rw [if_pos rfl, if_pos ⟨⟨by omega, by show (m : Int) ≤ (h.length : Int); omega, by show (0 : Int) ≤ (en : Int); omega, by show (en : Int) ≤ (R.length : Int); omega, hh⟩, hb⟩]
  show (phaetonref01_Get.f k (h.drop (m : Int).toNat)).bind _ = _
  rw [Int.toNat_natCast, h1, Option.bind_some]
  show (phaetonref02_Bits.f k (h.take (m : Int).toNat)).bind _ = _
  rw [Int.toNat_natCast, h2, Option.bind_some]
  rfl
/-- What wire.Read tells. -/
def wireR (R : List Int) : Bool × Int × Bool × Int × List Int × Int × Int := ((wire_readF R).1, (wire_readF R).2.1, (wire_readF R).2.2.1, (wire_readF R).2.2.2.1, (wire_readF R).2.2.2.2, (wire_readB R).2.1, (wire_readB R).2.2)
theorem wireR_no {R : List Int} {a b : Int} (h : wire_readB R = (false, a, b)) : wireR R = (false, 0, false, 0, [], a, b) := by
  unfold wireR; rw [readF_no (by rw [h]), h]
theorem bad_ne {R : List Int} {s : EarS} (h : Bad R s) : s.2.2.2.2.2 ≠ 0 := by
  rcases h.2.1 with h | h | h | h <;> rw [h] <;> decide
theorem tail_k {R : List Int} (hr : ∀ x ∈ R, Bit x) (hl9 : R.length ≤ 900000) {hd : List Int} {tt : Nat} {s : Int × Int} {T : List Int} (hA : At R tt s T) (hSn : Sent R tt s hd) (h0 : 0 < tt) (hS : sumH R ear_s0 = (true, tt, s.2, hd, (tt : Int) - 1, 0)) (hM : manyT R hd.length (true, 0, 0, [], 0, 0) = sumH R ear_s0) (hdl : hd.length ≤ tt)
    {e : Bool} {id : Int} {rm : Bool} {ln : Int} {d : List Int} (hF : FRight e id rm ln d) (hU : ∀ x ∈ d, H.U8 x) (hhd : hd = headF e id rm ln d) :
    ∃ K, ∀ k, K ≤ k → phaetonref05_tail.f k R (hd.length : Int) = some (wireR R) := by
  have hl : R.length ≤ 1000000 := by omega
  have hAl := hA.1
  have em0 : manyT R (hd.length + 15) (true, 0, 0, [], 0, 0) = sumM R ear_s0 := by rw [many_add, hM]; rfl
  obtain ⟨K1, k1⟩ := bare_f hr hl true (hd.length + 15) (by omega)
  rw [em0] at k1
  have hw15 : wrap64 ((hd.length : Int) + 15) = ((hd.length + 15 : Nat) : Int) := by unfold wrap64; omega
  have hfe : ∀ k, phaetonref05_tail.f k R (hd.length : Int) = (phaetonref05_bare.f k R ((hd.length + 15 : Nat) : Int) true).bind fun b => tail05G k R (hd.length : Int) b := fun k => by
    unfold phaetonref05_tail.f; rw [if_pos ⟨hl, H.rightB_of hr⟩, hw15]
  clear hw15
  have eM : sumM R ear_s0 = manyT R 15 (true, tt, s.2, hd, (tt : Int) - 1, 0) := by unfold sumM; rw [hS]
  have hhH : (sumH R ear_s0).2.2.2.1 = hd := by rw [hS]
  rcases many_conv hr 15 tt s T hd hA hSn with hB | ⟨t2, s2, T2, t, he2, hA2, hS2, hlt2, htl⟩
  · rw [← eM] at hB
    have hrb : wire_readB R = (false, (sumM R ear_s0).2.2.2.2.2, (sumM R ear_s0).2.2.2.2.1) := by
      have hst : sumT R ear_s0 = (0, sumM R ear_s0) := by unfold sumT; rw [if_neg (by rw [hB.1]; exact Bool.false_ne_true)]
      unfold wire_readB; rw [hst, if_neg (by show ¬ (sumM R ear_s0).1 = true; rw [hB.1]; exact Bool.false_ne_true)]
    have hne := bad_ne hB
    have hbr : bareR R true (sumM R ear_s0) = ((sumM R ear_s0).2.2.2.1, (sumM R ear_s0).2.2.2.2.1, (sumM R ear_s0).2.2.2.2.2) := by unfold bareR; rw [if_neg (by rw [hB.1]; exact Bool.false_ne_true)]
    rw [hbr] at k1
    refine ⟨K1, fun k hk => ?_⟩
    rw [hfe k, k1 k hk, Option.bind_some, tailG_no hne, wireR_no hrb]
  · rw [← eM] at he2
    have hA2l := hA2.1
    rw [he2] at k1
    rcases end_conv hr hA2 hS2 (by omega) true with hB | ⟨en, he3, hen, hen0, _⟩
    · have hb1 : (endT R (true, t2, s2.2, hd ++ t, (t2 : Int) - 1, 0)).2.1 = false := hB.1
      have hrb : wire_readB R = (false, (endT R (true, t2, s2.2, hd ++ t, (t2 : Int) - 1, 0)).2.2.2.2.2.2, (endT R (true, t2, s2.2, hd ++ t, (t2 : Int) - 1, 0)).2.2.2.2.2.1) := by
        have hst : sumT R ear_s0 = (0, (endT R (true, t2, s2.2, hd ++ t, (t2 : Int) - 1, 0)).2) := by
          unfold sumT; rw [he2, if_pos rfl, if_neg (by rw [hb1]; exact Bool.false_ne_true)]
        unfold wire_readB; rw [hst, if_neg (by show ¬ (endT R (true, t2, s2.2, hd ++ t, (t2 : Int) - 1, 0)).2.1 = true; rw [hb1]; exact Bool.false_ne_true)]
      have hne := bad_ne hB
      have hbr : bareR R true (true, t2, s2.2, hd ++ t, (t2 : Int) - 1, 0) = (hd ++ t, (endT R (true, t2, s2.2, hd ++ t, (t2 : Int) - 1, 0)).2.2.2.2.2.1, (endT R (true, t2, s2.2, hd ++ t, (t2 : Int) - 1, 0)).2.2.2.2.2.2) := by
        rw [bare_fin rfl rfl, if_neg (by rw [hb1]; exact Bool.false_ne_true)]
      rw [hbr] at k1
      refine ⟨K1, fun k hk => ?_⟩
      rw [hfe k, k1 k hk, Option.bind_some, tailG_no hne, wireR_no hrb]
    · have hbr : bareR R true (true, t2, s2.2, hd ++ t, (t2 : Int) - 1, 0) = (hd ++ t, (en : Int), 0) := by
        rw [bare_fin rfl he3, if_pos rfl]
      rw [hbr] at k1
      have hrt : H.rightB (hd ++ t) = true := H.rightB_of hS2.1
      have hrh : H.rightB hd = true := H.rightB_of hSn.1
      obtain ⟨K2, k2⟩ := r4x_get_k t (by omega)
      obtain ⟨K3, k3⟩ := refBits_k hd (by omega) hrh
      have hdr : (hd ++ t).drop hd.length = t := List.drop_left' rfl
      have htk : (hd ++ t).take hd.length = hd := List.take_left' rfl
      have hfin : ∀ k, K1 + K2 + K3 ≤ k → phaetonref05_tail.f k R (hd.length : Int) = if (H.getB t).1 = ((H.crcB hd).toNat : Int) then some (tail05T R (hd ++ t) en) else some (false, 0, false, 0, [], 4, (en : Int) - 1) := fun k hk => by
        rw [hfe k, k1 k (by omega), Option.bind_some]
        exact tailG_yes (by rw [List.length_append]; omega) (by omega) (by rw [List.length_append]; omega) hrt (by rw [hdr]; exact k2 k (by omega)) (by rw [htk]; exact k3 k (by omega))
      refine ⟨K1 + K2 + K3, fun k hk => ?_⟩
      rw [hfin k hk]
      by_cases hc : (H.getB t).1 = ((H.crcB hd).toNat : Int)
      · rw [if_pos hc]
        have hst : sumT R ear_s0 = (en, true, t2, s2.2, hd ++ t, (t2 : Int) - 1, 0) := by
          unfold sumT; rw [he2, if_pos rfl, he3, if_pos rfl, hhH]; dsimp only; rw [hdr, htk, if_pos hc]
        have h1 := read_head hF hU []
        have h2 := read_head hF hU t
        rw [List.append_nil, ← hhd] at h1
        rw [← hhd] at h2
        unfold tail05T wireR wire_readF wire_readB
        rw [hst, if_pos rfl, hhH, h1, h2]
        dsimp only
        cases htn : tenT R en 10 with
        | some p => rfl
        | none =>
          dsimp only
          by_cases hb : R.getD (en + 1) 0 = 1
          · rw [if_pos hb, if_pos hb, if_pos hb]; rfl
          · rw [if_neg hb, if_neg hb, if_neg hb]; rfl
      · rw [if_neg hc]
        have hst : sumT R ear_s0 = (0, false, t2, s2.2, hd ++ t, (en : Int) - 1, 4) := by
          unfold sumT; rw [he2, if_pos rfl, he3, if_pos rfl, hhH]; dsimp only; rw [hdr, htk, if_neg hc]
        have hrb : wire_readB R = (false, 4, (en : Int) - 1) := by unfold wire_readB; rw [hst, if_neg (by simp)]
        rw [wireR_no hrb]
theorem read_l0 {R : List Int} (hr : ∀ x ∈ R, Bit x) (hl9 : R.length ≤ 900000) : ∀ (q j tt : Nat) (s : Int × Int) (T had : List Int) (x : Bool) (a : Int), At R tt s T → Sent R tt s had → had.length = j → j ≤ tt → (∀ m, 0 < m → m ≤ had.length → (frame_readB (had.take m)).1 ≠ 0) → R.length - tt < q →
    manyT R j (true, 0, 0, [], 0, 0) = (true, tt, s.2, had, a, 0) → sumH R ear_s0 = headT R q (x, tt, s.2, had, a, 0) → ∃ K, ∀ k, K ≤ k → phaetonref05_Read.l0 k R ((j + 1 : Nat) : Int) = some (wireR R) := by
  have hl : R.length ≤ 1000000 := by omega
  intro q
  induction q with
  | zero => intro _ _ _ _ _ _ _ _ _ _ _ _ h; omega
  | succ q ih =>
    intro j tt s T had x a hA hSn hj hjt hp hq hMj hH
    have e1 : manyT R (j + 1) (true, 0, 0, [], 0, 0) = ear_next R (true, tt, s.2, had, a, 0) := by rw [many_step, hMj, if_pos rfl]
    have hx : ear_next R (x, tt, s.2, had, a, 0) = ear_next R (true, tt, s.2, had, a, 0) := rfl
    rw [headT, hx] at hH
    obtain ⟨K1, k1⟩ := bare_f hr hl false (j + 1) (by omega)
    rw [e1] at k1
    have HMJ := Aside0.mk hMj
    clear hMj hx
    rcases next_conv hr hA hSn true a with hB | ⟨tt', s', T', b, he, hA', hS', hlt⟩
    · have hne := bad_ne hB
      rw [if_neg (by rw [hB.1]; exact Bool.false_ne_true)] at hH
      have hbr : bareR R false (ear_next R (true, tt, s.2, had, a, 0)) = ((ear_next R (true, tt, s.2, had, a, 0)).2.2.2.1, (ear_next R (true, tt, s.2, had, a, 0)).2.2.2.2.1, (ear_next R (true, tt, s.2, had, a, 0)).2.2.2.2.2) := by unfold bareR; rw [if_neg (by rw [hB.1]; exact Bool.false_ne_true)]
      have hsm : sumM R ear_s0 = ear_next R (true, tt, s.2, had, a, 0) := by unfold sumM; rw [hH]; exact many_false _ _ _ hB.1
      have hst : sumT R ear_s0 = (0, ear_next R (true, tt, s.2, had, a, 0)) := by unfold sumT; rw [hsm, if_neg (by rw [hB.1]; exact Bool.false_ne_true)]
      have hrb : wire_readB R = (false, (ear_next R (true, tt, s.2, had, a, 0)).2.2.2.2.2, (ear_next R (true, tt, s.2, had, a, 0)).2.2.2.2.1) := by
        unfold wire_readB; rw [hst, if_neg (by show ¬ (ear_next R (true, tt, s.2, had, a, 0)).1 = true; rw [hB.1]; exact Bool.false_ne_true)]
      rw [hbr] at k1
      refine ⟨K1 + 1, fun k hk => ?_⟩
      obtain ⟨k, rfl⟩ : ∃ i, k = i + 1 := ⟨k - 1, by omega⟩
      rw [phaetonref05_Read.l0.eq_2, k1 k (by omega), Option.bind_some, if_neg hne, wireR_no hrb]
    · have hA'l := hA'.1
      obtain ⟨h', hh'⟩ : ∃ h', h' = had ++ [b] := ⟨_, rfl⟩
      rw [← hh'] at he hS'
      have hlh : h'.length = j + 1 := by rw [hh', List.length_append, List.length_singleton, hj]
      rw [he] at hH k1 e1
      rw [if_pos rfl] at hH
      dsimp only at hH
      have hbr : bareR R false (true, tt', s'.2, h', (tt' : Int) - 1, 0) = (h', (tt' : Int), 0) := by unfold bareR; rw [if_pos rfl, if_neg (by simp)]
      rw [hbr] at k1
      have hrh : H.rightB h' = true := H.rightB_of hS'.1
      have hR : phaetonref04_Read.f h' = some (r4_pack (frame_readB h')) := by unfold phaetonref04_Read.f; rw [if_pos (by omega), if_pos hrh]
      have hpp : ∀ m, 0 < m → m < h'.length → (frame_readB (h'.take m)).1 ≠ 0 := fun m h0 hm => by
        rw [hh', List.take_append_of_le_length (by omega)]; exact hp m h0 (by omega)
      rcases read_errs h' with hz | ⟨v, hv, hv3⟩
      · obtain ⟨e, id, rm, ln, d, hrd, hF, hU, hn, htk⟩ := read_back hrh hz
        have hh0 : 0 < (headF e id rm ln d).length := by rw [headF_len]; split <;> omega
        have hhd : h' = headF e id rm ln d := by
          rcases Nat.lt_or_eq_of_le hn with h | h
          · have h2 := hpp _ hh0 h
            rw [htk] at h2
            have h3 := read_head hF hU []
            rw [List.append_nil] at h3
            rw [h3] at h2
            exact absurd rfl h2
          · rw [h, List.take_length] at htk; exact htk
        rw [if_pos hz] at hH
        obtain ⟨K2, k2⟩ := tail_k hr hl9 hA' hS' (by omega) hH (by rw [hlh, e1, hH]) (by omega) hF hU hhd
        have hn2 : (headF e id rm ln d).length = h'.length := by rw [← hhd]
        refine ⟨K1 + K2 + 3, fun k hk => ?_⟩
        obtain ⟨k, rfl⟩ : ∃ i, k = i + 2 := ⟨k - 2, by omega⟩
        rw [show k + 2 = (k + 1) + 1 from rfl, phaetonref05_Read.l0.eq_2, k1 (k + 1) (by omega), Option.bind_some, if_pos rfl, hR, Option.bind_some, hrd]
        unfold r4_pack
        dsimp only
        rw [if_neg (by decide), phaetonref05_Read.j1.eq_2, if_neg (by decide), if_pos rfl, hn2, k2 k (by omega), Option.bind_some]
      · rcases hv3 with rfl | h41
        · have hz : ¬ (frame_readB h').1 = 0 := by rw [hv]; decide
          rw [if_neg hz, if_neg (by rw [hv]; decide)] at hH
          obtain ⟨K2, k2⟩ := ih (j + 1) tt' s' T' h' true ((tt' : Int) - 1) hA' hS' hlh (by omega) (fun m h0 hm => by
            rcases Nat.lt_or_eq_of_le hm with h | h
            · exact hpp m h0 h
            · rw [h, List.take_length]; exact hz) (by omega) e1 hH
          have hwj : wrap64 (((j + 1 : Nat) : Int) + 1) = ((j + 1 + 1 : Nat) : Int) := by unfold wrap64; omega
          refine ⟨K1 + K2 + 3, fun k hk => ?_⟩
          obtain ⟨k, rfl⟩ : ∃ i, k = i + 2 := ⟨k - 2, by omega⟩
          rw [show k + 2 = (k + 1) + 1 from rfl, phaetonref05_Read.l0.eq_2, k1 (k + 1) (by omega), Option.bind_some, if_pos rfl, hR, Option.bind_some, hv]
          unfold r4_pack frame_err
          dsimp only
          rw [if_neg (by decide), phaetonref05_Read.j1.eq_2, if_neg (by decide), if_neg (by decide), hwj]
          exact k2 k (by omega)
        · have hz : ¬ (frame_readB h').1 = 0 := by rw [hv]; rcases h41 with rfl | rfl <;> decide
          have h4 : (frame_readB h').1 = 42 ∨ (frame_readB h').1 = 41 := by rw [hv]; rcases h41 with rfl | rfl <;> decide
          rw [if_neg hz, if_pos h4] at hH
          have hsm : sumM R ear_s0 = (false, tt', s'.2, h', (tt' : Int) - 1, 3) := by unfold sumM; rw [hH]; exact many_false _ _ _ rfl
          have hst : sumT R ear_s0 = (0, false, tt', s'.2, h', (tt' : Int) - 1, 3) := by unfold sumT; rw [hsm, if_neg (by simp)]
          have hrb : wire_readB R = (false, 3, (tt' : Int) - 1) := by unfold wire_readB; rw [hst, if_neg (by simp)]
          obtain ⟨K2, k2⟩ := last_k hr hl (j + 1) R.length j 0 0 (-1, 0) R [] 0 (true, tt', s'.2, h', (tt' : Int) - 1, 0) rfl (At.start R) (by omega) (Nat.le_refl _) e1 rfl
          have hlf : ∀ k, phaetonref05_last.f k R ((j + 1 : Nat) : Int) = phaetonref05_last.l0 k R ((j + 1 : Nat) : Int) 0 0 0 := fun _ => rfl
          have k2' : ∀ k, K2 ≤ k → phaetonref05_last.f k R ((j + 1 : Nat) : Int) = some ((tt' : Int) - 1) := fun k hk => (hlf k).trans (k2 k hk)
          refine ⟨K1 + K2 + 3, fun k hk => ?_⟩
          obtain ⟨k, rfl⟩ : ∃ i, k = i + 2 := ⟨k - 2, by omega⟩
          rw [show k + 2 = (k + 1) + 1 from rfl, phaetonref05_Read.l0.eq_2, k1 (k + 1) (by omega), Option.bind_some, if_pos rfl, hR, Option.bind_some, hv, wireR_no hrb]
          unfold r4_pack frame_err
          dsimp only
          rcases h41 with rfl | rfl
          · rw [if_neg (by decide), show ((41 : Int) == 41) = true from rfl, phaetonref05_Read.j1.eq_2, if_pos rfl, k2' k (by omega), Option.bind_some]
          · rw [if_pos rfl, phaetonref05_Read.j1.eq_2, if_pos rfl, k2' k (by omega), Option.bind_some]
theorem read_k {R : List Int} (hr : ∀ x ∈ R, Bit x) (hl9 : R.length ≤ 900000) : ∃ K, ∀ k, K ≤ k → phaetonref05_Read.f k R = some (wireR R) :=
  read_l0 hr hl9 (R.length + 1) 0 0 (-1, 0) R [] false 0 (At.start R) (Sent.start R) rfl (Nat.le_refl _) (fun m h0 hm => by rw [List.length_nil] at hm; omega) (by omega) rfl rfl
end Go.Proofs.Ythgeekcobmhbfaa.PB
/- The document's stuffing in layer 5 is layer 3's. -/
set_option linter.unusedVariables false
set_option linter.unusedSimpArgs false
namespace Go.Proofs.Ythgeekcobmhbfaa.PB
open Go.RowKit Go.Proofs.Ythgeekcobmhbfaa.Px Go.Proofs.YthgeekcobmhbfaaW.PrintWords Go.Proofs.YthgeekcobmhbfaaW.PrintLast Go.Proofs.YthgeekcobmhbfaaW.PrintMore
open Go.Proofs.Ythgeekcobmhbfaa.H (Bit runS stuffS stuffStep stuffB tellS)
theorem stuff5_l0 (l : List Int) (hb : ∀ x ∈ l, Bit x) (hl : l.length ≤ 1000000) : ∀ d i : Nat, i + d = l.length → ∃ K, ∀ k, K ≤ k → phaetonref05_Stuff.l0 k l (stuffS (l.take i)).1 (stuffS (l.take i)).2.2 (i : Int) = some (stuffB l) := by
  intro d
  induction d with
  | zero =>
    intro i hi
    refine ⟨1, fun k hk => ?_⟩
    obtain ⟨k, rfl⟩ : ∃ j, k = j + 1 := ⟨k - 1, by omega⟩
    rw [phaetonref05_Stuff.l0.eq_2, if_neg (by omega), List.take_of_length_le (by omega)]; rfl
  | succ d ih =>
    intro i hi
    have hlt : i < l.length := by omega
    obtain ⟨K, hK⟩ := ih (i + 1) (by omega)
    have hbi : Bit (l.getD i 0) := hb _ (fb_rd_mem hlt)
    have hw1 : wrap64 ((i : Int) + 1) = ((i + 1 : Nat) : Int) := by unfold wrap64; omega
    have hs := H.stuffS_snoc (l.take i) (l.getD i 0)
    rw [← H.take_snoc 0 l i hlt] at hs
    rw [hs] at hK
    have hln := H.stuffS_len (l.take i)
    rw [List.length_take] at hln
    have hok := H.stuffS_ok (l := l.take i) (fun x hx => hb x (List.mem_of_mem_take hx))
    have hst := H.stuff_state (l.take i)
    have h0 : i = 0 → (stuffS (l.take i)).1 = [] ∧ (stuffS (l.take i)).2 = (-1, 0) := fun h => by rw [h, List.take_zero]; exact ⟨rfl, rfl⟩
    have hne : i ≠ 0 → 0 < (stuffS (l.take i)).1.length := fun h => by
      have h1 := H.stuffGo_len (l.take i) (-1, 0)
      have h2 : stuffB (l.take i) = _ := H.stuffB_go (l := l.take i) (fun x hx => hb x (List.mem_of_mem_take hx))
      rw [← h2, List.length_take] at h1
      unfold stuffB at h1
      omega
    obtain ⟨⟨out, s⟩, hq⟩ : ∃ q, q = stuffS (l.take i) := ⟨_, rfl⟩
    rw [← hq] at hK hln hok hst h0 hne ⊢
    dsimp only at hln hok hst h0 hne ⊢
    obtain ⟨b, hbb⟩ : ∃ b, b = l.getD i 0 := ⟨_, rfl⟩
    rw [← hbb] at hK hbi
    have hlast : i ≠ 0 → rd out ((out.length - 1 : Nat) : Int) = s.1 := fun h => by
      have h1 := hne h
      rw [fb_rd_nat, H.tellS_last out (fun k => by rw [k, List.length_nil] at h1; omega), hst]
    have hA : ∀ k, phaetonref05_Stuff.l0 (k + 1) l out s.2 (i : Int) = phaetonref05_Stuff.j1 k l out s.2 (i : Int) (decide (b = s.1)) := fun k => by
      rw [phaetonref05_Stuff.l0.eq_2, if_pos (by omega)]
      by_cases hi0 : i = 0
      · obtain ⟨h1, h2⟩ := h0 hi0
        rw [h1, if_neg (by simp), decide_eq_false (by rw [h2]; rcases hbi with h | h <;> rw [h] <;> decide)]
      · have h1 := hne hi0
        have hw : wrap64 ((out.length : Int) - 1) = ((out.length - 1 : Nat) : Int) := by unfold wrap64; omega
        rw [if_pos (by omega), hw, if_pos (by omega), if_pos (by omega), if_pos (by omega), hlast hi0, fb_rd_nat, ← hbb]
        by_cases hc : b = s.1
        · rw [decide_eq_true hc, beq_iff_eq.mpr hc.symm]
        · rw [decide_eq_false hc, beq_eq_false_iff_ne.mpr (fun h => hc h.symm)]
    have ht := hbi.turn.1
    have hrt := H.run_turn s hbi
    refine ⟨K + 2, fun k hk => ?_⟩
    obtain ⟨k, rfl⟩ : ∃ j, k = j + 2 := ⟨k - 2, by omega⟩
    rw [show k + 2 = (k + 1) + 1 from rfl, hA, phaetonref05_Stuff.j1.eq_2]
    have hk' := hK k (by omega)
    unfold stuffStep at hk'
    dsimp only at hk'
    rw [hrt] at hk'
    by_cases hc : b = s.1
    · have hr2 : (runS s b).2 = wrap64 (s.2 + 1) := by unfold runS; rw [if_pos hc]
      rw [decide_eq_true hc, if_pos rfl, if_pos (by omega), if_pos (by omega), if_pos (by omega), Option.bind_some, fb_rd_nat, ← hbb, hw1]
      rw [hr2] at hk'
      by_cases h5 : wrap64 (s.2 + 1) = 5
      · rw [if_pos h5, if_pos (by rw [List.length_append, List.length_singleton]; omega)]
        rw [if_pos h5] at hk'
        exact hk'
      · rw [if_neg h5]
        rw [if_neg h5] at hk'
        dsimp only at hk'
        rw [hr2] at hk'
        exact hk'
    · have hr2 : (runS s b).2 = 1 := by unfold runS; rw [if_neg hc]
      rw [decide_eq_false hc, if_neg (by simp), if_pos (by omega), if_pos (by omega), if_pos (by omega), Option.bind_some, fb_rd_nat, ← hbb, hw1, if_neg (by decide)]
      rw [hr2, if_neg (by decide)] at hk'
      dsimp only at hk'
      rw [hr2] at hk'
      exact hk'
theorem stuff5_k (l : List Int) (hb : ∀ x ∈ l, Bit x) (hl : l.length ≤ 1000000) : ∃ K, ∀ k, K ≤ k → phaetonref05_Stuff.f k l = some (stuffB l) := stuff5_l0 l hb hl l.length 0 (by omega)
end Go.Proofs.Ythgeekcobmhbfaa.PB
/- The document's rank and head of a frame. -/
set_option linter.unusedVariables false
set_option linter.unusedSimpArgs false
namespace Go.Proofs.Ythgeekcobmhbfaa.PB
open Go.RowKit Go.Proofs.Ythgeekcobmhbfaa.Px Go.Proofs.YthgeekcobmhbfaaW.PrintWords Go.Proofs.YthgeekcobmhbfaaW.PrintLast Go.Proofs.YthgeekcobmhbfaaW.PrintMore
open Go.Proofs.Ythgeekcobmhbfaa.H (RankL lessB whereB leastB Parts IdOk rankF bitI bitsOf spreadB)
theorem r4put_k (l : List Int) (n : Int) (m : Int) (hl : l.length ≤ 1073741824) (hn : H.W64 n) : ∃ K, ∀ k, K ≤ k → phaetonref04_put.f k l n m = some (l ++ (H.putB n m).1) := by
  obtain ⟨K, hK⟩ := rput_k n m hn
  refine ⟨K, fun k hk => ?_⟩
  have hp := frame_putB_len n m
  unfold phaetonref04_put.f
  rw [hK k hk, Option.bind_some, Option.bind_some, List.nil_append, if_pos (by simp only [List.length_nil]; omega), Option.bind_some, if_pos (by omega)]
theorem rank_k {e : Bool} {id : Int} (rm : Bool) (ln : Int) (d : List Int) (h : H.IdOk e id) : ∃ K, ∀ k, K ≤ k → phaetonref04_Rank.f k e id rm ln d = some (H.rankF e id rm) := by
  rw [← rankB_eq rm h]
  obtain ⟨h0, h1⟩ := h
  have hrm : ∀ a b c d', phaetonref04_remote.f a b rm c d' = some (frame_bit rm) := fun a b c d' => by unfold phaetonref04_remote.f frame_bit; split <;> rfl
  have hb : H.W64 (frame_bit rm) := by unfold H.W64 frame_bit; split <;> omega
  have hl : ∀ (n m : Int), (H.putB n m).1.length ≤ 32 := frame_putB_len
  unfold phaetonref04_Rank.f frame_rankB
  cases e with
  | false =>
    rw [if_neg (by simp)] at h1
    obtain ⟨K1, k1⟩ := r4put_k [] id 11 (by simp) (by unfold H.W64; omega)
    obtain ⟨K2, k2⟩ := r4put_k ([] ++ (H.putB id 11).1) (frame_bit rm) 1 (by have := hl id 11; rw [List.nil_append]; omega) hb
    obtain ⟨K3, k3⟩ := r4put_k ([] ++ (H.putB id 11).1 ++ (H.putB (frame_bit rm) 1).1) 0 1 (by have := hl id 11; have := hl (frame_bit rm) 1; rw [List.nil_append, List.length_append]; omega) (by unfold H.W64; omega)
    refine ⟨K1 + K2 + K3, fun k hk => ?_⟩
    rw [if_neg (by simp), if_neg (by simp), k1 k (by omega), Option.bind_some, hrm, Option.bind_some, k2 k (by omega), Option.bind_some, k3 k (by omega), Option.bind_some, List.nil_append]
  | true =>
    rw [if_pos rfl] at h1
    obtain ⟨K1, k1⟩ := r4put_k [] (id / 262144) 11 (by simp) (by unfold H.W64; omega)
    obtain ⟨K2, k2⟩ := r4put_k ([] ++ (H.putB (id / 262144) 11).1) 3 2 (by have := hl (id / 262144) 11; rw [List.nil_append]; omega) (by unfold H.W64; omega)
    obtain ⟨K3, k3⟩ := r4put_k ([] ++ (H.putB (id / 262144) 11).1 ++ (H.putB 3 2).1) (id % 262144) 18 (by have := hl (id / 262144) 11; have := hl 3 2; rw [List.nil_append, List.length_append]; omega) (by unfold H.W64; omega)
    obtain ⟨K4, k4⟩ := r4put_k ([] ++ (H.putB (id / 262144) 11).1 ++ (H.putB 3 2).1 ++ (H.putB (id % 262144) 18).1) (frame_bit rm) 1 (by have := hl (id / 262144) 11; have := hl 3 2; have := hl (id % 262144) 18; rw [List.nil_append, List.length_append, List.length_append]; omega) hb
    refine ⟨K1 + K2 + K3 + K4, fun k hk => ?_⟩
    rw [if_pos rfl, if_pos rfl, k1 k (by omega), Option.bind_some, k2 k (by omega), Option.bind_some, Int.tmod_eq_emod_of_nonneg h0, k3 k (by omega), Option.bind_some, hrm, Option.bind_some, k4 k (by omega), Option.bind_some, List.nil_append, H.and_262143]
theorem r4head_k {e : Bool} {id : Int} {rm : Bool} {ln : Int} {d : List Int} (h : FRight e id rm ln d) (hw : ∀ x ∈ d, H.U8 x) : ∃ K, ∀ k, K ≤ k → phaetonref04_Head.f k e id rm ln d = some (headF e id rm ln d) := by
  have hd := h.dlen
  obtain ⟨h1, h2, h3, h4⟩ := h
  have hrl := H.rankF_len e id rm
  have hrl2 : (rankF e id rm).length ≤ 32 := by rw [hrl]; split <;> omega
  have hsl := H.spread_len d
  have p0 : (H.putB 0 1).1 = [0] := by decide
  have p4 : (H.putB ln 4).1 = bitsOf ln 4 := put_small (m := 4) (by decide) h2 (by omega)
  have hb4 := H.bitsOf_length ln 4
  obtain ⟨K1, k1⟩ := rank_k (e := e) (id := id) rm ln d h1
  obtain ⟨K2, k2⟩ := rspread_k d hw (by omega)
  have w0 : H.W64 0 := by unfold H.W64; omega
  have wl : H.W64 ln := by unfold H.W64; omega
  cases e with
  | true =>
    obtain ⟨K3, k3⟩ := r4put_k ([0] ++ rankF true id rm) 0 1 (by rw [List.length_append, List.length_singleton]; omega) w0
    obtain ⟨K4, k4⟩ := r4put_k ([0] ++ rankF true id rm ++ [0]) 0 1 (by rw [List.length_append, List.length_append, List.length_singleton]; omega) w0
    obtain ⟨K5, k5⟩ := r4put_k ([0] ++ rankF true id rm ++ [0] ++ [0]) ln 4 (by rw [List.length_append, List.length_append, List.length_append, List.length_singleton]; omega) wl
    rw [p0] at k3 k4
    rw [p4] at k5
    have hl5 : ([0] ++ rankF true id rm ++ [0] ++ [0] ++ bitsOf ln 4).length ≤ 100 := by simp only [List.length_append, List.length_singleton]; omega
    refine ⟨K1 + K2 + K3 + K4 + K5, fun k hk => ?_⟩
    unfold phaetonref04_Head.f
    rw [Option.bind_some, k1 k (by omega), Option.bind_some, if_pos (by rw [List.length_singleton]; omega), Option.bind_some, if_pos rfl, k3 k (by omega), Option.bind_some, k4 k (by omega), Option.bind_some, k5 k (by omega), Option.bind_some, Option.bind_some, List.nil_append, if_pos (by rw [List.length_nil]; omega), Option.bind_some, k2 k (by omega), Option.bind_some, if_pos (by omega)]
    unfold headF preF
    simp [List.append_assoc]
  | false =>
    obtain ⟨K3, k3⟩ := r4put_k ([0] ++ rankF false id rm) 0 1 (by rw [List.length_append, List.length_singleton]; omega) w0
    obtain ⟨K5, k5⟩ := r4put_k ([0] ++ rankF false id rm ++ [0]) ln 4 (by rw [List.length_append, List.length_append, List.length_singleton]; omega) wl
    rw [p0] at k3
    rw [p4] at k5
    have hl5 : ([0] ++ rankF false id rm ++ [0] ++ bitsOf ln 4).length ≤ 100 := by simp only [List.length_append, List.length_singleton]; omega
    refine ⟨K1 + K2 + K3 + K5, fun k hk => ?_⟩
    unfold phaetonref04_Head.f
    rw [Option.bind_some, k1 k (by omega), Option.bind_some, if_pos (by rw [List.length_singleton]; omega), Option.bind_some, if_neg (by simp), k3 k (by omega), Option.bind_some, k5 k (by omega), Option.bind_some, Option.bind_some, List.nil_append, if_pos (by rw [List.length_nil]; omega), Option.bind_some, k2 k (by omega), Option.bind_some, if_pos (by omega)]
    unfold headF preF
    simp [List.append_assoc]
end Go.Proofs.Ythgeekcobmhbfaa.PB
set_option linter.unusedVariables false
set_option linter.unusedSimpArgs false
namespace Go.Proofs.Ythgeekcobmhbfaa.PB
open Go.RowKit Go.Proofs.Ythgeekcobmhbfaa.Px Go.Proofs.YthgeekcobmhbfaaW.PrintWords Go.Proofs.YthgeekcobmhbfaaW.PrintLast Go.Proofs.YthgeekcobmhbfaaW.PrintMore
open Go.Proofs.Ythgeekcobmhbfaa.H (IdOk rankF bitI bitsOf spreadB Bit)
theorem bits5_k {e : Bool} {id : Int} {rm : Bool} {ln : Int} {d : List Int} (h : FRight e id rm ln d) (hw : ∀ x ∈ d, H.U8 x) : ∃ K, ∀ k, K ≤ k → phaetonref05_Bits.f k e id rm ln d = some (sentF (headF e id rm ln d)) := by
  have hs := (H.crcB (headF e id rm ln d)).isLt
  have hl := headF_len2 h
  have hr := headF_right e id rm ln d
  have p15 : H.putB ((H.crcB (headF e id rm ln d)).toNat : Int) 15 = (bitsOf ((H.crcB (headF e id rm ln d)).toNat : Int) 15, true) := H.putB_yes (m := 15) (by omega) (by omega) (by omega)
  have l15 := H.bitsOf_length ((H.crcB (headF e id rm ln d)).toNat : Int) 15
  have hb := body_Bit e id rm ln d
  have hbl := body_len (headF e id rm ln d)
  have hsl := stuffF_len hr
  obtain ⟨K1, k1⟩ := r4head_k h hw
  obtain ⟨K2, k2⟩ := refBits_k (headF e id rm ln d) (by omega) hr
  obtain ⟨K3, k3⟩ := rput_k ((H.crcB (headF e id rm ln d)).toNat : Int) 15 (by unfold H.W64; omega)
  obtain ⟨K4, k4⟩ := stuff5_k (bodyF (headF e id rm ln d)) hb (by omega)
  have hsf : sentF (headF e id rm ln d) = stuffF (headF e id rm ln d) ++ [1, 1, 1, 1, 1, 1, 1, 1, 1, 1] := by unfold sentF; rw [ones_eq]
  have hbd : headF e id rm ln d ++ bitsOf ((H.crcB (headF e id rm ln d)).toNat : Int) 15 = bodyF (headF e id rm ln d) := rfl
  have k4' : ∀ k, K4 ≤ k → phaetonref05_Stuff.f k (bodyF (headF e id rm ln d)) = some (stuffF (headF e id rm ln d)) := k4
  have h10 : ([1, 1, 1, 1, 1, 1, 1, 1, 1, 1] : List Int).length = 10 := rfl
  refine ⟨K1 + K2 + K3 + K4, fun k hk => ?_⟩
  unfold phaetonref05_Bits.f
  rw [k1 k (by omega), Option.bind_some, k2 k (by omega), Option.bind_some, k3 k (by omega), p15, Option.bind_some, Option.bind_some, if_pos (by simp only [List.length_nil]; omega), Option.bind_some, List.nil_append, if_pos (by show (headF e id rm ln d).length + (bitsOf ((H.crcB (headF e id rm ln d)).toNat : Int) 15).length < 17592186044416; omega), hbd, k4' k (by omega), Option.bind_some, Option.bind_some, if_pos (by omega), hsf]
theorem most_some (e : Bool) (x : Int) : ∃ v, wire_Most.f e x = some v ∧ phaetonref05_Most.f e x = some v := by
  cases e
  · exact ⟨_, rfl, rfl⟩
  · exact ⟨_, rfl, rfl⟩
theorem r4same_self (e : Bool) (id : Int) (rm : Bool) (ln : Int) (d : List Int) : phaetonref04_Same.f e id rm ln d e id rm ln d = some true := by
  unfold phaetonref04_Same.f
  cases e <;> cases rm <;> simp [sameBytes]
end Go.Proofs.Ythgeekcobmhbfaa.PB
namespace Go.Proofs.Ythgeekcobmhbfaa.Pure
open Go.RowKit Go.Proofs.Ythgeekcobmhbfaa.PB Go.Proofs.Ythgeekcobmhbfaa.Px Go.Proofs.YthgeekcobmhbfaaW.PrintWords Go.Proofs.YthgeekcobmhbfaaW.PrintLast Go.Proofs.YthgeekcobmhbfaaW.PrintMore
open Go.Proofs.Ythgeekcobmhbfaa.H (IdOk rankF bitI bitsOf spreadB Bit)
theorem wtells_j1 (R : List Int) (hl : R.length ≤ 400) (e : Bool) (n : Int) : ∃ K, ∀ k, K ≤ k → phaetonlaw05_WireTells.j1 k R e n true false = some true := by
  obtain ⟨v, hv1, hv2⟩ := most_some e (Int.tmod (wrap64 n) 9)
  obtain ⟨K1, k1⟩ := rright_k R (by omega)
  by_cases hr : H.rightB R = true
  · obtain ⟨K2, k2⟩ := read_k (H.rightB_mem hr) (by omega)
    have hw : wire_Read.f R = some (wireR R) := wread_eq R (by omega) hr
    refine ⟨K1 + K2 + 1, fun k hk => ?_⟩
    obtain ⟨k, rfl⟩ : ∃ j, k = j + 1 := ⟨k - 1, by omega⟩
    rw [phaetonlaw05_WireTells.j1.eq_2, if_neg (by simp), hv1, Option.bind_some, hv2, Option.bind_some, if_pos rfl, k1 k (by omega), Option.bind_some, hr, if_pos rfl, hw, Option.bind_some, Option.bind_some, k2 k (by omega), Option.bind_some, if_pos rfl, r4same_self, Option.bind_some, if_pos rfl, if_pos rfl, if_pos rfl, Option.bind_some, if_pos rfl, if_pos rfl, if_pos rfl]
  · refine ⟨K1 + 1, fun k hk => ?_⟩
    obtain ⟨k, rfl⟩ : ∃ j, k = j + 1 := ⟨k - 1, by omega⟩
    rw [phaetonlaw05_WireTells.j1.eq_2, if_neg (by simp), hv1, Option.bind_some, hv2, Option.bind_some, if_pos rfl, k1 k (by omega), Option.bind_some, Bool.eq_false_iff.mpr hr, if_neg (by simp), if_pos rfl]
theorem WireTells : phaetonlaw05_WireTells.Pure := by
  intro e id rm ln d R e2 n _ _ _ hwd _ _ _ _
  have hw := bytes_of hwd
  obtain ⟨K0, hh⟩ := head05_k
  by_cases g : (d.length : Int) > 100
  · refine ⟨K0 + 2, ?_⟩
    unfold phaetonlaw05_WireTells.f
    rw [hh _ (by omega), Option.bind_some, great_eq, Option.bind_some, decide_eq_true g, if_pos rfl, phaetonlaw05_WireTells.j0.eq_2, if_pos rfl, if_pos rfl]
  by_cases h4 : (R.length : Int) > 400
  · refine ⟨K0 + 2, ?_⟩
    unfold phaetonlaw05_WireTells.f
    rw [hh _ (by omega), Option.bind_some, great_eq, Option.bind_some, decide_eq_false g, if_neg (by simp), decide_eq_true h4, phaetonlaw05_WireTells.j0.eq_2, if_pos rfl, if_pos rfl]
  obtain ⟨K1, k1⟩ := wtells_j1 R (by omega) e2 n
  by_cases hF : FRight e id rm ln d
  · obtain ⟨K2, k2⟩ := bits5_k hF hw
    have hwq := wire_eq hF
    have hln : wire_Length.f e id rm ln d = some ((sentF (headF e id rm ln d)).length : Int) := by unfold wire_Length.f; rw [hwq, Option.bind_some]
    have hln5 : ∀ k, K2 ≤ k → phaetonref05_Length.f k e id rm ln d = some ((sentF (headF e id rm ln d)).length : Int) := fun k hk => by unfold phaetonref05_Length.f; rw [k2 k hk, Option.bind_some]
    have hsl := stuffF_len (headF_right e id rm ln d)
    have hl2 := headF_len2 hF
    have hsn := sentF_len (headF e id rm ln d)
    obtain ⟨K3, k3⟩ := same2_k (sentF (headF e id rm ln d)) (sentF (headF e id rm ln d)) (by omega)
    rw [decide_eq_true rfl] at k3
    refine ⟨K0 + K1 + K2 + K3 + 3, ?_⟩
    unfold phaetonlaw05_WireTells.f
    rw [hh _ (by omega), Option.bind_some, great_eq, Option.bind_some, decide_eq_false g, if_neg (by simp), decide_eq_false h4, phaetonlaw05_WireTells.j0.eq_2, if_neg (by simp), r4right_k _ _ _ _ _ _ (by omega), Option.bind_some, decide_eq_true hF, if_pos rfl, hwq, Option.bind_some, k2 _ (by omega), Option.bind_some, k3 _ (by omega), Option.bind_some, if_pos rfl, hln, Option.bind_some, hln5 _ (by omega), Option.bind_some, bne_self_eq_false]
    exact k1 _ (by omega)
  · refine ⟨K0 + K1 + 3, ?_⟩
    unfold phaetonlaw05_WireTells.f
    rw [hh _ (by omega), Option.bind_some, great_eq, Option.bind_some, decide_eq_false g, if_neg (by simp), decide_eq_false h4, phaetonlaw05_WireTells.j0.eq_2, if_neg (by simp), r4right_k _ _ _ _ _ _ (by omega), Option.bind_some, decide_eq_false hF, if_neg (by simp)]
    exact k1 _ (by omega)
end Go.Proofs.Ythgeekcobmhbfaa.Pure
