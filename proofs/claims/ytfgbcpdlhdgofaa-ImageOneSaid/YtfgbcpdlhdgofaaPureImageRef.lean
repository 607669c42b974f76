/- What the document's answer to layer 24 comes to: the same plain words. -/
import Derived.Test.YtfgbcpdlhdgofaaPureImage
import Derived.Test.YtfgbcpdlhdgofaaPureRefMore
import Derived.Test.YtfgbcpdlhdgofaaPx5
import Derived.Test.YtfgbcpdlhdgofaaPx6
import Derived.Test.YtfgbcpdlhdgofaaPx7
import Derived.Test.YtfgbcpdlhdgofaaPx4
set_option linter.unusedVariables false
set_option linter.unusedSimpArgs false
namespace Go.Proofs.Ytfgbcpdlhdgofaa.PB
open Go.RowKit Go.Proofs.Ytfgbcpdlhdgofaa.Px Go.Proofs.YtfgbcpdlhdgofaaW.PrintWords Go.Proofs.YtfgbcpdlhdgofaaW.PrintLast Go.Proofs.YtfgbcpdlhdgofaaW.PrintMore
theorem rfour (n : Int) (h0 : 0 ≤ n) (h1 : n < 4611686018427387904) : phaetonref24_Four.f n = some (w4 n) := by
  have e1 : wrap64 (Int.tdiv n 16777216) = n / 16777216 := by rw [Int.tdiv_eq_ediv_of_nonneg h0]; unfold wrap64; omega
  have e2 : wrap64 (Int.tdiv n 65536) = n / 65536 := by rw [Int.tdiv_eq_ediv_of_nonneg h0]; unfold wrap64; omega
  have e3 : wrap64 (Int.tdiv n 256) = n / 256 := by rw [Int.tdiv_eq_ediv_of_nonneg h0]; unfold wrap64; omega
  have f2 : Int.tmod (n / 65536) 256 % 256 = n / 65536 % 256 := by rw [Int.tmod_eq_emod_of_nonneg (by omega)]; omega
  have f3 : Int.tmod (n / 256) 256 % 256 = n / 256 % 256 := by rw [Int.tmod_eq_emod_of_nonneg (by omega)]; omega
  have f4 : Int.tmod n 256 % 256 = n % 256 := by rw [Int.tmod_eq_emod_of_nonneg (by omega)]; omega
  unfold phaetonref24_Four.f w4
  rw [e1, e2, e3, f2, f3, f4]
theorem rmay_eq (key : Int) : phaetonref24_May.f key = some (mayB key) := may_eq key
theorem rright_eq (v : Int) (b : List Int) : phaetonref24_Right.f v b = some (rightB' v b) := right_eq v b
theorem rword_k (l : List Int) (hl : l.length ≤ 1000000) (hw : ∀ x ∈ l, H.U8 x) : ∃ K, ∀ k, K ≤ k → phaetonref02_Word.f k l = some (wv l) := by
  obtain ⟨K, h⟩ := refMore_k 0 l (by omega) hw
  exact ⟨K, fun k hk => by unfold phaetonref02_Word.f; rw [h k hk]; rfl⟩
theorem may_range {key : Int} (h : mayB key = true) : 0 ≤ key ∧ key ≤ 4294967295 := of_decide_eq_true h
theorem rseal_k (l : List Int) (key : Int) (hl : l.length ≤ 100000) (hw : ∀ x ∈ l, H.U8 x) : ∃ K, ∀ k, K ≤ k → phaetonref24_Seal.f k l key = some (sealR l key) := by
  obtain ⟨K, h⟩ := rword_k (w4 key ++ l ++ w4 key) (by rw [List.length_append, List.length_append, w4_length]; omega) (U8_app (U8_app (w4_U8 _) hw) (w4_U8 _))
  refine ⟨K, fun k hk => ?_⟩
  unfold phaetonref24_Seal.f sealR
  rw [rmay_eq, Option.bind_some]
  by_cases hm : mayB key = true
  · have hr := may_range hm
    rw [if_pos hm, if_pos hm, rfour key hr.1 (by omega), Option.bind_some, if_pos (by rw [w4_length]; omega), Option.bind_some, Option.bind_some, if_pos (by rw [List.length_append, w4_length]; omega), h k hk]; rfl
  · rw [if_neg hm, if_neg hm]
theorem rfront_k (v : Int) (b : List Int) (hv0 : 0 ≤ v) (hv1 : v ≤ 2147483647) (hb : b.length ≤ 100000) (hw : ∀ x ∈ b, H.U8 x) : ∃ K, ∀ k, K ≤ k → phaetonref24_front.f k v b = some (frontT v b) := by
  obtain ⟨K, h⟩ := rword_k b (by omega) hw
  have hr := wv_range b
  refine ⟨K, fun k hk => ?_⟩
  unfold phaetonref24_front.f
  rw [Option.bind_some, rfour v hv0 (by omega), Option.bind_some, if_pos (by rw [w4_length]; simp only [List.length_cons, List.length_nil]; omega), Option.bind_some, rfour (b.length : Int) (by omega) (by omega), Option.bind_some, if_pos (by rw [List.length_append, w4_length, w4_length]; simp only [List.length_cons, List.length_nil]; omega), Option.bind_some, h k hk, Option.bind_some, rfour (wv b) (by omega) (by omega), Option.bind_some, if_pos (by rw [List.length_append, List.length_append, w4_length, w4_length, w4_length]; simp only [List.length_cons, List.length_nil]; omega)]
  unfold frontT
  rw [List.append_assoc, List.append_assoc]
theorem right_parts {v : Int} {b : List Int} (h : rightB' v b = true) : 0 ≤ v ∧ v ≤ 2147483647 ∧ 1 ≤ b.length ∧ b.length ≤ 2048 := of_decide_eq_true h
theorem sealV_range (l : List Int) (key : Int) : 0 ≤ sealV l key ∧ sealV l key < 4294967296 := wv_range _
theorem rpack_k (v : Int) (b : List Int) (key : Int) (hb : b.length ≤ 10000) (hw : ∀ x ∈ b, H.U8 x) : ∃ K, ∀ k, K ≤ k → phaetonref24_Pack.f k v b key = some (packT v b key) := by
  have hj0 : ∀ k, 1 ≤ k → phaetonref24_Pack.j0 k key true v b = some (([] : List Int), false) := fun k hk => by
    obtain ⟨m, rfl⟩ : ∃ m, k = m + 1 := ⟨k - 1, by omega⟩
    rw [phaetonref24_Pack.j0.eq_2, if_pos rfl]
  by_cases hr : rightB' v b = true
  case neg =>
    refine ⟨1, fun k hk => ?_⟩
    unfold phaetonref24_Pack.f packT
    rw [rright_eq, Option.bind_some, if_neg hr, if_neg (fun h => hr h.1)]
    exact hj0 k (by omega)
  obtain ⟨v0, v1, _, _⟩ := right_parts hr
  obtain ⟨K1, h1⟩ := rfront_k v b v0 v1 (by omega) hw
  obtain ⟨K2, h2⟩ := rseal_k (frontT v b ++ b) key (by rw [List.length_append, frontT_length]; omega) (U8_app (frontT_U8 _ _) hw)
  have hs := sealV_range (frontT v b ++ b) key
  refine ⟨K1 + K2 + 1, fun k hk => ?_⟩
  unfold phaetonref24_Pack.f packT
  rw [rright_eq, Option.bind_some, if_pos hr, rmay_eq, Option.bind_some]
  by_cases hm : mayB key = true
  · obtain ⟨m, rfl⟩ : ∃ m, k = m + 1 := ⟨k - 1, by omega⟩
    have e : sealR (frontT v b ++ b) key = sealV (frontT v b ++ b) key := if_pos hm
    rw [if_pos ⟨hr, hm⟩, hm, phaetonref24_Pack.j0.eq_2, if_neg (by decide), h1 m (by omega), Option.bind_some, if_pos (by rw [frontT_length]; omega), Option.bind_some, h2 m (by omega), Option.bind_some, e, rfour _ hs.1 (by omega), Option.bind_some, if_pos (by rw [frontT_length, w4_length]; omega), Option.bind_some, if_pos (by rw [List.length_append, frontT_length, w4_length]; omega)]
    unfold packL
    rw [List.append_assoc]
  · rw [if_neg (fun h => hm h.2), Bool.not_eq_true] at *
    rw [hm]
    exact hj0 k (by omega)
theorem rnumber (l : List Int) (hl : ∀ x ∈ l, H.U8 x) (a : Nat) (h : a + 4 ≤ l.length) (ha : a ≤ 1000) : phaetonref24_Number.f l (a : Int) = some (num l a) := by
  have h0 := getD_U8 hl a; have h1 := getD_U8 hl (a + 1); have h2 := getD_U8 hl (a + 2); have h3 := getD_U8 hl (a + 3)
  have w1 : wrap64 ((a : Int) + 1) = ((a + 1 : Nat) : Int) := by unfold wrap64; omega
  have w2 : wrap64 ((a : Int) + 2) = ((a + 2 : Nat) : Int) := by unfold wrap64; omega
  have w3 : wrap64 ((a : Int) + 3) = ((a + 3 : Nat) : Int) := by unfold wrap64; omega
  unfold phaetonref24_Number.f
  rw [w1, w2, w3, if_pos (by omega), if_pos (by omega), if_pos (by omega), if_pos (by omega), if_pos (by omega), if_pos (by omega), if_pos (by omega), if_pos (by omega), rd_nat, rd_nat, rd_nat, rd_nat]
  congr 1
  unfold num
  generalize l.getD a 0 = x0 at *
  generalize l.getD (a + 1) 0 = x1 at *
  generalize l.getD (a + 2) 0 = x2 at *
  generalize l.getD (a + 3) 0 = x3 at *
  unfold H.U8 at h0 h1 h2 h3
  have u0 : wrap64 (wrap64 x0 * 16777216) = x0 * 16777216 := by unfold wrap64; omega
  have u1 : wrap64 (wrap64 x1 * 65536) = x1 * 65536 := by unfold wrap64; omega
  have u2 : wrap64 (wrap64 x2 * 256) = x2 * 256 := by unfold wrap64; omega
  have u3 : wrap64 x3 = x3 := by unfold wrap64; omega
  rw [u0, u1, u2, u3]
  unfold wrap64
  omega
theorem take_two {l : List Int} (h : 2 ≤ l.length) : l.take 2 = [l.getD 0 0, l.getD 1 0] := by
  match l, h with
  | x :: y :: r, _ => rfl
theorem rread_k (l : List Int) (key : Int) (hl : ∀ x ∈ l, H.U8 x) (hn : l.length ≤ 50000) : ∃ K, ∀ k, K ≤ k → phaetonref24_Read.f k l key = some (readT l key) := by
  obtain ⟨K1, h1⟩ := rword_k (l.drop 18) (by rw [List.length_drop]; omega) (drop_U8 hl 18)
  obtain ⟨K2, h2⟩ := rseal_k (l.take 14 ++ l.drop 18) key (by rw [List.length_append, List.length_take, List.length_drop]; omega) (U8_app (take_U8 hl 14) (drop_U8 hl 18))
  refine ⟨K1 + K2 + 1, fun k hk => ?_⟩
  have hj0 : phaetonref24_Read.j0 k l key true = some (0, ([] : List Int), 240) := by
    obtain ⟨m, rfl⟩ : ∃ m, k = m + 1 := ⟨k - 1, by omega⟩
    rw [phaetonref24_Read.j0.eq_2, if_pos rfl]
  unfold phaetonref24_Read.f readT
  by_cases c1 : l.length < 18
  · rw [if_pos (by omega), if_pos (.inl c1)]; exact hj0
  have t2 := take_two (l := l) (by omega)
  have e0 : rd l 0 = l.getD 0 0 := rd_nat l 0
  have e1 : rd l 1 = l.getD 1 0 := rd_nat l 1
  have n2 : phaetonref24_Number.f l 2 = some (num l 2) := rnumber l hl 2 (by omega) (by omega)
  have n6 : phaetonref24_Number.f l 6 = some (num l 6) := rnumber l hl 6 (by omega) (by omega)
  have n10 : phaetonref24_Number.f l 10 = some (num l 10) := rnumber l hl 10 (by omega) (by omega)
  have n14 : phaetonref24_Number.f l 14 = some (num l 14) := rnumber l hl 14 (by omega) (by omega)
  have r2 := num_range hl 2
  have hd : (l.drop 18).length = l.length - 18 := List.length_drop
  have ew : wrap64 ((l.length : Int) - 18) = ((l.drop 18).length : Int) := by rw [hd]; unfold wrap64; omega
  rw [if_neg (by omega), if_pos (by omega), e0, e1]
  by_cases c2 : l.getD 0 0 = 80
  case neg => rw [if_neg c2, hj0, if_pos (.inr (.inl (by rw [t2]; intro h; injection h with h _; exact c2 h)))]
  rw [if_pos c2, if_pos (by omega)]
  by_cases c3 : l.getD 1 0 = 72
  case neg => rw [if_neg c3, hj0, if_pos (.inr (.inl (by rw [t2]; intro h; injection h with _ h; injection h with h _; exact c3 h)))]
  rw [if_pos c3, n2, Option.bind_some]
  by_cases c4 : num l 2 > 2147483647
  · rw [if_pos c4, hj0, if_pos (.inr (.inr (.inl (decide_eq_false (fun h => by omega)))))]
  rw [if_neg c4, n6, Option.bind_some]
  by_cases c5 : num l 6 < 1
  · rw [if_pos c5, hj0, if_pos]
    by_cases c6 : num l 6 = ((l.drop 18).length : Int)
    · exact .inr (.inr (.inl (decide_eq_false (fun h => by omega))))
    · exact .inr (.inr (.inr c6))
  rw [if_neg c5, Option.bind_some]
  by_cases c6 : num l 6 > 2048
  · rw [if_pos c6, hj0, if_pos]
    by_cases c7 : num l 6 = ((l.drop 18).length : Int)
    · exact .inr (.inr (.inl (decide_eq_false (fun h => by omega))))
    · exact .inr (.inr (.inr c7))
  rw [if_neg c6, Option.bind_some, ew]
  by_cases c7 : num l 6 = ((l.drop 18).length : Int)
  case neg => rw [show (num l 6 != ((l.drop 18).length : Int)) = true from by rw [bne_iff_ne]; exact c7, hj0, if_pos (.inr (.inr (.inr c7)))]
  have hR : rightB' (num l 2) (l.drop 18) = true := decide_eq_true ⟨by omega, by omega, by omega, by omega⟩
  obtain ⟨m, rfl⟩ : ∃ m, k = m + 1 := ⟨k - 1, by omega⟩
  rw [show (num l 6 != ((l.drop 18).length : Int)) = false from by rw [bne_eq_false_iff_eq]; exact c7, phaetonref24_Read.j0.eq_2, if_neg (by decide), Option.bind_some, if_pos (by omega), if_pos (by rw [hd]; simp only [List.length_nil]; omega), Option.bind_some, n10, Option.bind_some, List.nil_append, h1 m (by omega), Option.bind_some, if_neg (c := l.length < 18 ∨ _) (by
    rintro (h | h | h | h)
    · exact c1 h
    · exact h (by rw [t2, c2, c3])
    · rw [hR] at h; cases h
    · exact h c7)]
  by_cases c8 : num l 10 = wv (l.drop 18)
  case neg => rw [if_neg c8, if_pos c8]
  rw [if_pos c8, if_neg (c := num l 10 ≠ wv (l.drop 18)) (fun h => h c8), Option.bind_some, if_pos (by omega), if_pos (by rw [List.length_take]; simp only [List.length_nil]; omega), Option.bind_some, List.nil_append, if_pos (by rw [List.length_take, hd]; omega), rmay_eq, Option.bind_some]
  by_cases c9 : mayB key = true
  case neg => rw [if_neg c9, if_pos (.inl (by rw [Bool.not_eq_true] at c9; exact c9))]
  have es : sealR (l.take 14 ++ l.drop 18) key = sealV (l.take 14 ++ l.drop 18) key := if_pos c9
  rw [if_pos c9, n14, Option.bind_some, h2 m (by omega), Option.bind_some, es]
  by_cases c10 : num l 14 = sealV (l.take 14 ++ l.drop 18) key
  · rw [if_pos c10, n2, Option.bind_some, if_neg (by
      rintro (h | h)
      · rw [c9] at h; cases h
      · exact h c10)]
  · rw [if_neg c10, if_pos (.inr c10)]
theorem rsame (a : Int) (l : List Int) : phaetonref24_Same.f a l a l = some true := by
  unfold phaetonref24_Same.f
  rw [if_pos rfl, beq_self_eq_true]
theorem rrows_l0 (L : List (List Int)) (hL : L.length ≤ 100000) : ∀ d i : Nat, i + d = L.length → Ev (fun k => phaetonref24_Rows.l0 k L L (i : Int)) true := by
  intro d
  induction d with
  | zero =>
    intro i hi
    refine Ev.step (f := fun _ => some true) (fun k => ?_) (Ev.now _)
    rw [phaetonref24_Rows.l0.eq_2, if_neg (by omega)]
  | succ d ih =>
    intro i hi
    have h := ih (i + 1) (by omega)
    rw [← H.wrap_succ (by omega : i < L.length) (by omega)] at h
    refine Ev.step (fun k => ?_) h
    rw [phaetonref24_Rows.l0.eq_2, if_pos (by omega), if_pos (by omega), if_pos (by omega), if_pos rfl]
theorem rrows_k (L : List (List Int)) (hL : L.length ≤ 100000) : ∃ K, ∀ k, K ≤ k → phaetonref24_Rows.f k L L = some true := by
  obtain ⟨K, h⟩ := rrows_l0 L hL L.length 0 (by omega)
  exact ⟨K, fun k hk => by unfold phaetonref24_Rows.f; rw [if_pos rfl]; exact h k hk⟩
def blocksL (l : List Int) : List (List Int) := (image_spans l.length).map fun x => (l.drop x.1).take x.2
theorem blocks_eq (l : List Int) (h : l.length ≤ 1000000) : image_Blocks.f l = some (blocksL l) := if_pos h
theorem spans_length (n : Nat) : (image_spans n).length = (n + 63) / 64 := by simp [image_spans]
theorem spans_snoc {n i : Nat} (h : 64 * i < n) : (image_spans n).take (i + 1) = (image_spans n).take i ++ [(64 * i, min 64 (n - 64 * i))] := by
  have hl : i < (image_spans n).length := by rw [spans_length]; omega
  rw [List.take_succ_eq_append_getElem hl]
  simp [image_spans]
theorem rblocks_l0 (l : List Int) (hl : l.length ≤ 100000) : ∀ d i : Nat, i + d = (l.length + 63) / 64 → Ev (fun k => phaetonref24_Blocks.l0 k l (((image_spans l.length).take i).map fun x => (l.drop x.1).take x.2) ((64 * i : Nat) : Int)) (blocksL l) := by
  intro d
  induction d with
  | zero =>
    intro i hi
    refine Ev.step (f := fun _ => some (blocksL l)) (fun k => ?_) (Ev.now _)
    rw [phaetonref24_Blocks.l0.eq_2, if_neg (by omega), List.take_of_length_le (show (image_spans l.length).length ≤ i by rw [spans_length]; omega)]
    rfl
  | succ d ih =>
    intro i hi
    have hlt : 64 * i < l.length := by omega
    have h := ih (i + 1) (by omega)
    rw [spans_snoc hlt, List.map_append, List.map_cons, List.map_nil] at h
    have e1 : wrap64 (((64 * i : Nat) : Int) + 64) = ((64 * (i + 1) : Nat) : Int) := by unfold wrap64; omega
    have e2 : mn ((64 * (i + 1) : Nat) : Int) (l.length : Int) = ((min (64 * (i + 1)) l.length : Nat) : Int) := by unfold mn; split <;> omega
    rw [← e1] at h
    refine Ev.step (fun k => ?_) h
    rw [phaetonref24_Blocks.l0.eq_2, if_pos (by omega), Option.bind_some, e1, e2, if_pos (by omega), if_pos (by omega), if_pos (by omega), Int.toNat_natCast, Int.toNat_natCast, List.nil_append, List.drop_take, show min (64 * (i + 1)) l.length - 64 * i = min 64 (l.length - 64 * i) by omega,
      if_pos (by rw [List.length_take]; simp only [List.length_nil]; omega), if_pos (by rw [List.length_map, List.length_take]; have := spans_length l.length; omega)]
theorem rblocks_k (l : List Int) (hl : l.length ≤ 100000) : ∃ K, ∀ k, K ≤ k → phaetonref24_Blocks.f k l = some (blocksL l) := rblocks_l0 l hl ((l.length + 63) / 64) 0 (by omega)
end Go.Proofs.Ytfgbcpdlhdgofaa.PB
