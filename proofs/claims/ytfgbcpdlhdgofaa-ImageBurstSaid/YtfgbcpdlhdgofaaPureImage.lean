/- What an image's bytes, its seal, and an image that is read of bytes, come to. -/
import Derived.Test.YtfgbcpdlhdgofaaPx4
import Derived.Test.YtfgbcpdlhdgofaaPx2
import Derived.Test.YtfgbcpdlhdgofaaPx5
import Derived.Test.YtfgbcpdlhdgofaaPureXor
import Derived.Test.YtfgbcpdlhdgofaaPureBase
set_option linter.unusedVariables false
set_option linter.unusedSimpArgs false
namespace Go.Proofs.Ytfgbcpdlhdgofaa.PB
open Go.RowKit Go.Proofs.Ytfgbcpdlhdgofaa.Px Go.Proofs.YtfgbcpdlhdgofaaW.PrintWords Go.Proofs.YtfgbcpdlhdgofaaW.PrintLast Go.Proofs.YtfgbcpdlhdgofaaW.PrintMore
theorem strNums_inj : ∀ a b : List Int, (∀ x ∈ a, H.U8 x) → (∀ x ∈ b, H.U8 x) → (strOfNums a).toList = (strOfNums b).toList → a = b := by
  have key : ∀ l : List Int, (strOfNums l).toList = l.map fun n => UInt8.ofNat n.toNat := fun l => by
    unfold strOfNums
    exact Go.ByteArray.toList_mk _
  intro a b ha hb h
  rw [key, key] at h
  have inj : ∀ (a b : List Int), (∀ x ∈ a, H.U8 x) → (∀ x ∈ b, H.U8 x) → (a.map fun n => UInt8.ofNat n.toNat) = (b.map fun n => UInt8.ofNat n.toNat) → a = b := by
    intro a
    induction a with
    | nil => intro b _ _ h; cases b with
      | nil => rfl
      | cons y b => simp at h
    | cons x a ih =>
      intro b ha hb h
      cases b with
      | nil => simp at h
      | cons y b =>
        simp only [List.map_cons, List.cons.injEq] at h
        have hx := ha x (by simp)
        have hy := hb y (by simp)
        unfold H.U8 at hx hy
        have h1 := congrArg UInt8.toNat h.1
        simp at h1
        rw [ih b (fun z hz => ha z (by simp [hz])) (fun z hz => hb z (by simp [hz])) h.2, show x = y by omega]
  exact inj a b ha hb h
theorem strNums_lit (l : List Int) (c : List Int) (b : List UInt8) (hb : (strOfNums c).toList = b) (hl : ∀ x ∈ l, H.U8 x) (hc : ∀ x ∈ c, H.U8 x) : (strOfNums l).toList = b ↔ l = c :=
  ⟨fun h => strNums_inj _ _ hl hc (h.trans hb.symm), fun h => by rw [h]; exact hb⟩
/-- A sum that goes on is the sum of both parts. -/
theorem more_more (s : Int) (a b : List Int) : H.moreW ((H.moreW s a).toNat : Int) b = H.moreW s (a ++ b) := by
  unfold H.moreW H.crcW
  rw [H.ofInt_nat, BitVec.ofNat_toNat, BitVec.setWidth_eq, BitVec.not_not, List.foldl_append]
def wv (l : List Int) : Int := ((H.moreW 0 l).toNat : Int)
theorem wv_range (l : List Int) : 0 ≤ wv l ∧ wv l < 4294967296 := by unfold wv; have := (H.moreW 0 l).isLt; omega
def w4 (n : Int) : List Int := [(n / 16777216) % 256, (n / 65536) % 256, (n / 256) % 256, n % 256]
theorem w4_length (n : Int) : (w4 n).length = 4 := rfl
theorem w4_U8 (n : Int) : ∀ x ∈ w4 n, H.U8 x := by
  intro x hx
  simp only [w4, List.mem_cons, List.not_mem_nil, or_false] at hx
  unfold H.U8
  rcases hx with rfl | rfl | rfl | rfl <;> omega
theorem U8_app {a b : List Int} (ha : ∀ x ∈ a, H.U8 x) (hb : ∀ x ∈ b, H.U8 x) : ∀ x ∈ a ++ b, H.U8 x := fun x hx => by
  rcases List.mem_append.mp hx with h | h
  · exact ha x h
  · exact hb x h
theorem lay_l0 (l : List Int) (hl : l.length ≤ 1000) : ∀ d i : Nat, i + d = l.length → ∀ x0 : List Int, x0.length + 4 * d ≤ 1000000 → Ev (fun k => image_lay.l0 k x0 l (l.length : Int) (i : Int)) (x0 ++ (l.drop i).flatMap w4) := by
  intro d
  induction d with
  | zero =>
    intro i hi x0 _
    refine Ev.step (f := fun _ => some x0) (fun k => ?_) (by rw [List.drop_eq_nil_of_le (by omega), List.flatMap_nil, List.append_nil]; exact Ev.now _)
    rw [image_lay.l0.eq_2, if_neg (by omega)]
  | succ d ih =>
    intro i hi x0 hx
    have hlt : i < l.length := by omega
    have h := ih (i + 1) (by omega) (x0 ++ w4 (l.getD i 0)) (by rw [List.length_append, w4_length]; omega)
    rw [← H.wrap_succ hlt (by omega)] at h
    rw [rd_drop hlt, List.flatMap_cons, ← List.append_assoc]
    refine Ev.step (fun k => ?_) h
    rw [image_lay.l0.eq_2, if_pos (by omega), if_pos (by omega), if_pos (by omega), Option.bind_some, rd_nat, if_pos (by simp only [List.length_cons, List.length_nil]; omega)]
    rfl
theorem lay_k (l0 l : List Int) (hl : l.length ≤ 1000) (h0 : l0.length ≤ 100000) : ∃ K, ∀ k, K ≤ k → image_lay.f k l0 l = some (l0 ++ l.flatMap w4) := lay_l0 l hl l.length 0 (by omega) l0 (by omega)
def sealV (l : List Int) (key : Int) : Int := wv (w4 key ++ l ++ w4 key)
theorem seal_k (l0 l1 : List Int) (key : Int) : ∃ K, ∀ k, K ≤ k → image_seal.f k l0 l1 key = some (sealV (l0 ++ l1) key) := by
  obtain ⟨K, hK⟩ := lay_k [] [key] (by simp) (by simp)
  refine ⟨K, fun k hk => ?_⟩
  have e : ([] ++ [key].flatMap w4 : List Int) = w4 key := by simp
  unfold image_seal.f
  rw [hK k hk, e, Option.bind_some, show crc_Word.f (w4 key) = some ((H.moreW 0 (w4 key)).toNat : Int) from rfl, Option.bind_some, show crc_More.f ((H.moreW 0 (w4 key)).toNat : Int) l0 = some ((H.moreW ((H.moreW 0 (w4 key)).toNat : Int) l0).toNat : Int) from rfl, Option.bind_some, more_more,
    show crc_More.f ((H.moreW 0 (w4 key ++ l0)).toNat : Int) l1 = some ((H.moreW ((H.moreW 0 (w4 key ++ l0)).toNat : Int) l1).toNat : Int) from rfl, Option.bind_some, more_more,
    show crc_More.f ((H.moreW 0 (w4 key ++ l0 ++ l1)).toNat : Int) (w4 key) = some ((H.moreW ((H.moreW 0 (w4 key ++ l0 ++ l1)).toNat : Int) (w4 key)).toNat : Int) from rfl, Option.bind_some, more_more]
  unfold sealV wv
  rw [List.append_assoc (w4 key) l0 l1]
def mayB (key : Int) : Bool := decide (0 ≤ key ∧ key ≤ 4294967295)
theorem may_eq (key : Int) : image_may.f key = some (mayB key) := by
  unfold image_may.f mayB
  by_cases h : key ≥ 0
  · rw [if_pos h]; simp [h]
  · rw [if_neg h, decide_eq_false (by omega)]
def rightB' (v : Int) (b : List Int) : Bool := decide (0 ≤ v ∧ v ≤ 2147483647 ∧ 1 ≤ b.length ∧ b.length ≤ 2048)
theorem right_eq (v : Int) (b : List Int) : image_Right.f v b = some (rightB' v b) := by
  unfold image_Right.f rightB'
  by_cases h1 : v ≥ 0
  · rw [if_pos h1]
    by_cases h2 : v ≤ 2147483647
    · rw [if_pos h2]
      by_cases h3 : (b.length : Int) ≥ 1
      · rw [if_pos h3]
        by_cases h4 : b.length ≤ 2048
        · rw [decide_eq_true (by omega), decide_eq_true ⟨h1, h2, by omega, h4⟩]
        · rw [decide_eq_false (by omega), decide_eq_false (fun h => h4 h.2.2.2)]
      · rw [if_neg h3, decide_eq_false (fun h => h3 (by omega))]
    · rw [if_neg h2, decide_eq_false (fun h => h2 h.2.1)]
  · rw [if_neg h1, decide_eq_false (fun h => h1 h.1)]
def sealR (l : List Int) (key : Int) : Int := if mayB key = true then sealV l key else 0
theorem Seal_k (l : List Int) (key : Int) : ∃ K, ∀ k, K ≤ k → image_Seal.f k l key = some (sealR l key) := by
  obtain ⟨K, hK⟩ := seal_k l [] key
  refine ⟨K, fun k hk => ?_⟩
  unfold image_Seal.f sealR
  rw [may_eq, Option.bind_some]
  by_cases h : mayB key = true
  · rw [if_pos h, if_pos h, hK k hk, Option.bind_some, List.append_nil]
  · rw [if_neg h, if_neg h]
/-- The first fourteen bytes. -/
def frontT (v : Int) (b : List Int) : List Int := [80, 72] ++ (w4 v ++ (w4 (b.length : Int) ++ w4 (wv b)))
theorem frontT_length (v : Int) (b : List Int) : (frontT v b).length = 14 := rfl
theorem frontT_U8 (v : Int) (b : List Int) : ∀ x ∈ frontT v b, H.U8 x :=
  U8_app (by intro x hx; simp only [List.mem_cons, List.not_mem_nil, or_false] at hx; unfold H.U8; rcases hx with rfl | rfl <;> omega) (U8_app (w4_U8 _) (U8_app (w4_U8 _) (w4_U8 _)))
def packL (v : Int) (b : List Int) (key : Int) : List Int := frontT v b ++ (w4 (sealV (frontT v b ++ b) key) ++ b)
theorem packL_length (v : Int) (b : List Int) (key : Int) : (packL v b key).length = 18 + b.length := by
  unfold packL; rw [List.length_append, List.length_append, w4_length, frontT_length]; omega
theorem packL_U8 (v : Int) (b : List Int) (key : Int) (hb : ∀ x ∈ b, H.U8 x) : ∀ x ∈ packL v b key, H.U8 x := U8_app (frontT_U8 _ _) (U8_app (w4_U8 _) hb)
def packT (v : Int) (b : List Int) (key : Int) : List Int × Bool := if rightB' v b = true ∧ mayB key = true then (packL v b key, true) else ([], false)
theorem pack_k (v : Int) (b : List Int) (key : Int) (hb : b.length ≤ 100000) : ∃ K, ∀ k, K ≤ k → image_Pack.f k v b key = some (packT v b key) := by
  obtain ⟨K1, h1⟩ := lay_k [80, 72] [v, (b.length : Int), wv b] (by simp) (by simp)
  have e1 : ([80, 72] ++ [v, (b.length : Int), wv b].flatMap w4 : List Int) = frontT v b := by simp [frontT]
  rw [e1] at h1
  obtain ⟨K2, h2⟩ := seal_k (frontT v b) b key
  obtain ⟨K3, h3⟩ := lay_k (frontT v b) [sealV (frontT v b ++ b) key] (by simp) (by rw [frontT_length]; omega)
  have e3 : (frontT v b ++ [sealV (frontT v b ++ b) key].flatMap w4 : List Int) = frontT v b ++ w4 (sealV (frontT v b ++ b) key) := by simp
  rw [e3] at h3
  have hj0 : ∀ k, 1 ≤ k → image_Pack.j0 k key true v b = some (([] : List Int), false) := fun k hk => by
    obtain ⟨m, rfl⟩ : ∃ m, k = m + 1 := ⟨k - 1, by omega⟩
    rw [image_Pack.j0.eq_2, if_pos rfl]
  refine ⟨K1 + K2 + K3 + 1, fun k hk => ?_⟩
  unfold image_Pack.f packT
  rw [right_eq, Option.bind_some]
  by_cases hr : rightB' v b = true
  · rw [if_pos hr, may_eq, Option.bind_some]
    by_cases hm : mayB key = true
    · obtain ⟨m, rfl⟩ : ∃ m, k = m + 1 := ⟨k - 1, by omega⟩
      rw [if_pos ⟨hr, hm⟩, hm, image_Pack.j0.eq_2, if_neg (by decide), show crc_Word.f b = some (wv b) from rfl, Option.bind_some, h1 m (by omega), Option.bind_some, h2 m (by omega), Option.bind_some, h3 m (by omega), Option.bind_some, if_pos (by rw [List.length_append, frontT_length, w4_length]; omega)]
      unfold packL
      rw [List.append_assoc]
    · rw [if_neg (fun h => hm h.2), Bool.not_eq_true] at *
      rw [hm]
      exact hj0 k (by omega)
  · rw [if_neg hr, if_neg (fun h => hr h.1)]
    exact hj0 k (by omega)
/-- The number of four bytes at a place. -/
def num (l : List Int) (a : Nat) : Int := l.getD a 0 * 16777216 + l.getD (a + 1) 0 * 65536 + l.getD (a + 2) 0 * 256 + l.getD (a + 3) 0
theorem num_cut (l : List Int) (a : Nat) (h : a + 4 ≤ l.length) : (l.take (a + 4)).drop a = [l.getD a 0, l.getD (a + 1) 0, l.getD (a + 2) 0, l.getD (a + 3) 0] := by
  rw [List.drop_take, show a + 4 - a = 4 by omega, rd_drop (by omega : a < l.length), rd_drop (by omega : a + 1 < l.length), rd_drop (by omega : a + 1 + 1 < l.length), rd_drop (by omega : a + 1 + 1 + 1 < l.length)]
  rfl
theorem getD_U8 {l : List Int} (hl : ∀ x ∈ l, H.U8 x) (i : Nat) : H.U8 (l.getD i 0) := by
  by_cases h : i < l.length
  · exact hl _ (rd_mem h)
  · rw [List.getD_eq_getElem?_getD, List.getElem?_eq_none (by omega)]; exact ⟨by decide, by decide⟩
theorem num_range {l : List Int} (hl : ∀ x ∈ l, H.U8 x) (a : Nat) : 0 ≤ num l a ∧ num l a < 4294967296 := by
  have h0 := getD_U8 hl a; have h1 := getD_U8 hl (a + 1); have h2 := getD_U8 hl (a + 2); have h3 := getD_U8 hl (a + 3)
  unfold H.U8 at h0 h1 h2 h3
  unfold num
  omega
theorem number_run (a b c d : Int) (ha : H.U8 a) (hb : H.U8 b) (hc : H.U8 c) (hd : H.U8 d) (m : Nat) : image_number.l0 (m + 5) 0 [a, b, c, d] 4 0 = some (a * 16777216 + b * 65536 + c * 256 + d) := by
  unfold H.U8 at ha hb hc hd
  rw [image_number.l0.eq_2, if_pos (by decide), if_pos (by decide), if_pos (by simp only [List.length_cons, List.length_nil]; omega), show rd [a, b, c, d] 0 = a from rfl, show wrap64 (wrap64 (0 * 256) + wrap64 a) = a by unfold wrap64; omega, show wrap64 (0 + 1) = 1 by unfold wrap64; omega,
    image_number.l0.eq_2, if_pos (by decide), if_pos (by decide), if_pos (by simp only [List.length_cons, List.length_nil]; omega), show rd [a, b, c, d] 1 = b from rfl, show wrap64 (wrap64 (a * 256) + wrap64 b) = a * 256 + b by unfold wrap64; omega, show wrap64 (1 + 1) = 2 by unfold wrap64; omega,
    image_number.l0.eq_2, if_pos (by decide), if_pos (by decide), if_pos (by simp only [List.length_cons, List.length_nil]; omega), show rd [a, b, c, d] 2 = c from rfl, show wrap64 (wrap64 ((a * 256 + b) * 256) + wrap64 c) = (a * 256 + b) * 256 + c by unfold wrap64; omega, show wrap64 (2 + 1) = 3 by unfold wrap64; omega,
    image_number.l0.eq_2, if_pos (by decide), if_pos (by decide), if_pos (by simp only [List.length_cons, List.length_nil]; omega), show rd [a, b, c, d] 3 = d from rfl, show wrap64 (wrap64 (((a * 256 + b) * 256 + c) * 256) + wrap64 d) = ((a * 256 + b) * 256 + c) * 256 + d by unfold wrap64; omega, show wrap64 (3 + 1) = 4 by unfold wrap64; omega,
    image_number.l0.eq_2, if_neg (by decide)]
  congr 1
  omega
theorem number_k (l : List Int) (hl : ∀ x ∈ l, H.U8 x) (a : Nat) (h : a + 4 ≤ l.length) (ha : a ≤ 1000) (k : Nat) (hk : 5 ≤ k) : image_number.f k l (a : Int) = some (num l a) := by
  obtain ⟨m, rfl⟩ : ∃ m, k = m + 5 := ⟨k - 5, by omega⟩
  have e : wrap64 ((a : Int) + 4) = ((a + 4 : Nat) : Int) := by unfold wrap64; omega
  unfold image_number.f
  rw [e, if_pos (by omega), if_pos (by omega), if_pos (by omega), Int.toNat_natCast, Int.toNat_natCast, num_cut l a h]
  exact number_run _ _ _ _ (getD_U8 hl _) (getD_U8 hl _) (getD_U8 hl _) (getD_U8 hl _) m
/-- What bytes are read to. -/
def readT (l : List Int) (key : Int) : Int × List Int × Int :=
  if l.length < 18 ∨ l.take 2 ≠ [80, 72] ∨ rightB' (num l 2) (l.drop 18) = false ∨ num l 6 ≠ ((l.drop 18).length : Int) then (0, [], 240)
  else if num l 10 ≠ wv (l.drop 18) then (0, [], 241)
  else if mayB key = false ∨ num l 14 ≠ sealV (l.take 14 ++ l.drop 18) key then (0, [], 242)
  else (num l 2, l.drop 18, 0)
theorem take_U8 {l : List Int} (hl : ∀ x ∈ l, H.U8 x) (n : Nat) : ∀ x ∈ l.take n, H.U8 x := fun x hx => hl x (List.mem_of_mem_take hx)
theorem drop_U8 {l : List Int} (hl : ∀ x ∈ l, H.U8 x) (n : Nat) : ∀ x ∈ l.drop n, H.U8 x := fun x hx => hl x (List.mem_of_mem_drop hx)
theorem two_U8 : ∀ x ∈ ([80, 72] : List Int), H.U8 x := by intro x hx; simp only [List.mem_cons, List.not_mem_nil, or_false] at hx; unfold H.U8; rcases hx with rfl | rfl <;> omega
theorem two_str : (strOfNums ([80, 72] : List Int)).toList = ([80, 72] : List UInt8) := by
  unfold strOfNums; exact Go.ByteArray.toList_mk _
theorem read_k (l : List Int) (key : Int) (hl : ∀ x ∈ l, H.U8 x) (hn : l.length ≤ 100000) : ∃ K, ∀ k, K ≤ k → image_Read.f k l key = some (readT l key) := by
  obtain ⟨K2, h2⟩ := seal_k (l.take 14) (l.drop 18) key
  refine ⟨K2 + 20, fun k hk => ?_⟩
  have hj0 : ∀ k, 1 ≤ k → image_Read.j0 k l key true = some (0, ([] : List Int), 240) := fun k hk => by
    obtain ⟨m, rfl⟩ : ∃ m, k = m + 1 := ⟨k - 1, by omega⟩
    rw [image_Read.j0.eq_2, if_pos rfl]
  unfold image_Read.f readT
  by_cases c1 : l.length < 18
  · rw [if_pos (by omega), if_pos (.inl c1)]; exact hj0 k (by omega)
  rw [if_neg (by omega), if_pos (by omega)]
  by_cases c2 : l.take 2 = [80, 72]
  case neg =>
    rw [if_pos (.inr (.inl c2)), show ((strOfNums (l.take 2)).toList != ([80, 72] : List UInt8)) = true from by
      rw [bne_iff_ne]; exact fun h => c2 ((strNums_lit _ _ _ two_str (take_U8 hl 2) two_U8).mp h)]
    exact hj0 k (by omega)
  rw [show ((strOfNums (l.take 2)).toList != ([80, 72] : List UInt8)) = false from by
      rw [bne_eq_false_iff_eq]; exact (strNums_lit _ _ _ two_str (take_U8 hl 2) two_U8).mpr c2]
  obtain ⟨m, rfl⟩ : ∃ m, k = m + 2 := ⟨k - 2, by omega⟩
  have n2 := number_k l hl 2 (by omega) (by omega) (m + 1) (by omega)
  have n6 := number_k l hl 6 (by omega) (by omega) (m + 1) (by omega)
  have n10 := number_k l hl 10 (by omega) (by omega) m (by omega)
  have n14 := number_k l hl 14 (by omega) (by omega) m (by omega)
  have hj1 : image_Read.j1 (m + 1) l key (l.drop 18) true (num l 2) (l.drop 18) = some (0, ([] : List Int), 240) := by rw [image_Read.j1.eq_2, if_pos rfl]
  have e2 : image_number.f (m + 1) l 2 = some (num l 2) := n2
  have e6 : image_number.f (m + 1) l 6 = some (num l 6) := n6
  have e10 : image_number.f m l 10 = some (num l 10) := n10
  have e14 : image_number.f m l 14 = some (num l 14) := n14
  rw [image_Read.j0.eq_2, if_neg (by decide), if_pos (by omega), e2, Option.bind_some, if_pos (by simp only [List.length_nil, List.length_drop]; omega), Option.bind_some, List.nil_append, right_eq, Option.bind_some]
  by_cases c3 : rightB' (num l 2) (l.drop 18) = true
  case neg =>
    rw [if_neg c3, hj1, if_pos (.inr (.inr (.inl (by rw [Bool.not_eq_true] at c3; exact c3))))]
  rw [if_pos c3, e6, Option.bind_some]
  by_cases c4 : num l 6 = ((l.drop 18).length : Int)
  case neg =>
    rw [show (num l 6 != ((l.drop 18).length : Int)) = true from by rw [bne_iff_ne]; exact c4, hj1, if_pos (.inr (.inr (.inr c4)))]
  rw [show (num l 6 != ((l.drop 18).length : Int)) = false from by rw [bne_eq_false_iff_eq]; exact c4, if_neg (by
    rintro (h | h | h | h)
    · exact c1 h
    · exact h c2
    · rw [c3] at h; cases h
    · exact h c4), image_Read.j1.eq_2, if_neg (by decide), e10, Option.bind_some, show crc_Word.f (l.drop 18) = some (wv (l.drop 18)) from rfl, Option.bind_some]
  by_cases c5 : num l 10 = wv (l.drop 18)
  case neg => rw [if_neg c5, if_pos c5]
  rw [if_pos c5, if_neg (fun h => h c5), may_eq, Option.bind_some]
  by_cases c6 : mayB key = true
  case neg => rw [if_neg c6, if_pos (.inl (by rw [Bool.not_eq_true] at c6; exact c6))]
  rw [if_pos c6, e14, Option.bind_some, if_pos (by omega), h2 m (by omega), Option.bind_some]
  by_cases c7 : num l 14 = sealV (l.take 14 ++ l.drop 18) key
  · rw [if_pos c7, if_neg (by
      rintro (h | h)
      · rw [c6] at h; cases h
      · exact h c7)]
  · rw [if_neg c7, if_pos (.inr c7)]
end Go.Proofs.Ytfgbcpdlhdgofaa.PB
