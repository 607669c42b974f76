/- What the printed functions on races of frames, and the document's answer to layer 6, come to. -/
import Derived.Test.YtcdbndjicjghgaaPureRace
import Derived.Test.YtcdbndjicjghgaaPureRank
import Derived.Test.YtcdbndjicjghgaaPx3
import Derived.Test.YtcdbndjicjghgaaPx1
import Derived.Test.YtcdbndjicjghgaaPx2
import Derived.Test.YtcdbndjicjghgaaPx4
import Derived.Test.YtcdbndjicjghgaaPx5
import Derived.Test.YtcdbndjicjghgaaPx6
import Derived.Test.YtcdbndjicjghgaaPx7
import Derived.Test.YtcdbndjicjghgaaPx8
set_option linter.unusedVariables false
set_option linter.unusedSimpArgs false
namespace Go.Proofs.Ytcdbndjicjghgaa.PB
open Go.RowKit Go.Proofs.Ytcdbndjicjghgaa.Px Go.Proofs.YtcdbndjicjghgaaW.PrintWords Go.Proofs.YtcdbndjicjghgaaW.PrintLast Go.Proofs.YtcdbndjicjghgaaW.PrintMore
open Go.Proofs.Ytcdbndjicjghgaa.H (RankL lessB whereB leastB Parts IdOk rankF)
abbrev Fr := S35
def rkF (x : Fr) : List Int := rankF x.f0 x.f1 x.f2
def FrOk (x : Fr) : Prop := IdOk x.f0 x.f1
/-! ### frames made right -/
def madeF (x : Fr) : Fr := ⟨x.f0, made_id x.f0 x.f1, x.f2, made_len x.f2 x.f3 x.f4, made_data x.f2 x.f4⟩
theorem made_idOk (e : Bool) (id : Int) : IdOk e (made_id e id) := by
  unfold IdOk made_id
  cases e with
  | false => rw [if_neg (by simp), if_neg (by simp), H.and_2047]; omega
  | true => rw [if_pos rfl, if_pos rfl, H.and_536870911]; omega
theorem madeF_ok (x : Fr) : FrOk (madeF x) := made_idOk _ _
def madeN (l : List Fr) (n : Nat) : List Fr := (l.take n).map madeF
theorem madeN_len (l : List Fr) (n : Nat) : (madeN l n).length = min n l.length := by unfold madeN; rw [List.length_map, List.length_take]
theorem madeN_ok (l : List Fr) (n : Nat) : ∀ x ∈ madeN l n, FrOk x := fun x hx => by
  obtain ⟨y, _, rfl⟩ := List.mem_map.mp hx
  exact madeF_ok y
theorem rdT_nat (l : List Fr) (i : Nat) : rd_T35 l (i : Int) = l.getD i z35 := by unfold rd_T35; rw [Int.toNat_natCast]
theorem take_snocT {α : Type} (d : α) (l : List α) (i : Nat) (h : i < l.length) : l.take (i + 1) = l.take i ++ [l.getD i d] := H.take_snoc d l i h
theorem getD_mapT {α β : Type} (f : α → β) (d : α) (e : β) (l : List α) {i : Nat} (hi : i < l.length) : (l.map f).getD i e = f (l.getD i d) := getD_map' f d e l hi
theorem frames_l0 (l : List Fr) (n : Nat) (hn : n ≤ 1000) : ∀ d i : Nat, i + d = (madeN l n).length → Ev (fun k => phaetonref06_Frames.l0 k l (n : Int) ((madeN l n).take i) (i : Int)) (madeN l n) := by
  intro d
  have hlen := madeN_len l n
  induction d with
  | zero =>
    intro i hi
    refine Ev.step (f := fun _ => some (madeN l n)) (fun k => ?_) (Ev.now _)
    rw [phaetonref06_Frames.l0.eq_2, List.take_of_length_le (by omega)]
    by_cases h : (i : Int) < (l.length : Int)
    · rw [if_pos h, if_neg (by omega)]
    · rw [if_neg h]
  | succ d ih =>
    intro i hi
    refine Ev.step (f := fun k => phaetonref06_Frames.l0 k l (n : Int) ((madeN l n).take (i + 1)) ((i + 1 : Nat) : Int)) (fun k => ?_) (ih (i + 1) (by omega))
    have hg : (madeN l n).getD i z35 = madeF (l.getD i z35) := by
      unfold madeN
      rw [getD_mapT madeF z35 z35 (l.take n) (by rw [List.length_take]; omega)]
      congr 1
      rw [List.getD_eq_getElem?_getD, List.getD_eq_getElem?_getD, List.getElem?_take_of_lt (by omega)]
    rw [phaetonref06_Frames.l0.eq_2, if_pos (by omega), if_pos (by omega), if_pos (by omega), rdT_nat, show phaetonref06_Made.f = fun b0 n1 b2 n3 l4 => some (b0, made_id b0 n1, b2, made_len b2 n3 l4, made_data b2 l4) from rfl, Option.bind_some,
      if_pos (by rw [List.length_take]; omega), H.wrap_succ (n := (madeN l n).length) (by omega) (by omega), take_snocT z35 (madeN l n) i (by omega), hg]
    rfl
theorem frames_k (l : List Fr) (n : Nat) (hn : n ≤ 1000) : ∃ K, ∀ k, K ≤ k → phaetonref06_Frames.f k l (n : Int) = some (madeN l n) := by
  have := frames_l0 l n hn (madeN l n).length 0 (by omega)
  rw [List.take_zero] at this
  exact this
/-! ### bits of any numbers -/
def bitsN (l : List Int) (n : Nat) : List Int := (l.take n).map (· % 2)
theorem bitsN_len (l : List Int) (n : Nat) : (bitsN l n).length = min n l.length := by unfold bitsN; rw [List.length_map, List.length_take]
theorem bitsN_bit (l : List Int) (n : Nat) : ∀ x ∈ bitsN l n, x = 0 ∨ x = 1 := fun x hx => by
  obtain ⟨y, _, rfl⟩ := List.mem_map.mp hx
  omega
theorem bitsN_l0 (l : List Int) (n : Nat) (hn : n ≤ 1000) : ∀ d i : Nat, i + d = (bitsN l n).length → Ev (fun k => phaetonref03_Bits.l0 k l (n : Int) ((bitsN l n).take i) (i : Int)) (bitsN l n) := by
  intro d
  have hlen := bitsN_len l n
  induction d with
  | zero =>
    intro i hi
    refine Ev.step (f := fun _ => some (bitsN l n)) (fun k => ?_) (Ev.now _)
    rw [phaetonref03_Bits.l0.eq_2, List.take_of_length_le (by omega)]
    by_cases h : (i : Int) < (l.length : Int)
    · rw [if_pos h, if_neg (by omega)]
    · rw [if_neg h]
  | succ d ih =>
    intro i hi
    refine Ev.step (f := fun k => phaetonref03_Bits.l0 k l (n : Int) ((bitsN l n).take (i + 1)) ((i + 1 : Nat) : Int)) (fun k => ?_) (ih (i + 1) (by omega))
    have hg : (bitsN l n).getD i 0 = l.getD i 0 % 2 := by
      unfold bitsN
      rw [getD_mapT (· % 2) 0 0 (l.take n) (by rw [List.length_take]; omega), List.getD_eq_getElem?_getD, List.getD_eq_getElem?_getD, List.getElem?_take_of_lt (by omega)]
    rw [phaetonref03_Bits.l0.eq_2, if_pos (by omega), if_pos (by omega), if_pos (by omega), rd_nat, if_pos (by rw [List.length_take]; omega), H.and_one, H.wrap_succ (n := (bitsN l n).length) (by omega) (by omega), take_snocT 0 (bitsN l n) i (by omega), hg]
theorem bitsN_k (l : List Int) (n : Nat) (hn : n ≤ 1000) : ∃ K, ∀ k, K ≤ k → phaetonref03_Bits.f k l (n : Int) = some (bitsN l n) := by
  have := bitsN_l0 l n hn (bitsN l n).length 0 (by omega)
  rw [List.take_zero] at this
  exact this
/-! ### alike rows -/
theorem ints_eq_l0 (l m : List Int) (hlm : l.length = m.length) (hl : l.length ≤ 4611686018427387904) : ∀ d i : Nat, i + d = l.length → Ev (fun k => phaetonref03_Ints.l0 k l m (i : Int)) (decide (l.drop i = m.drop i)) := by
  intro d
  induction d with
  | zero =>
    intro i hi
    refine Ev.step (f := fun _ => some (decide (l.drop i = m.drop i))) (fun k => ?_) (Ev.now _)
    rw [phaetonref03_Ints.l0.eq_2, if_neg (by omega), List.drop_eq_nil_of_le (by omega), List.drop_eq_nil_of_le (by omega)]; rfl
  | succ d ih =>
    intro i hi
    have hlt : i < l.length := by omega
    have e1 := rd_drop hlt
    have e2 := rd_drop (l := m) (i := i) (by omega)
    by_cases c : l.getD i 0 = m.getD i 0
    · refine Ev.step (f := fun k => phaetonref03_Ints.l0 k l m ((i + 1 : Nat) : Int)) (fun k => ?_) ?_
      · rw [phaetonref03_Ints.l0.eq_2, if_pos (by omega), if_pos (by omega), if_pos (by omega), rd_nat, rd_nat, if_pos c, H.wrap_succ hlt hl]
      · have := ih (i + 1) (by omega)
        rw [e1, e2, c]
        simpa using this
    · refine Ev.step (f := fun _ => some (decide (l.drop i = m.drop i))) (fun k => ?_) (Ev.now _)
      rw [phaetonref03_Ints.l0.eq_2, if_pos (by omega), if_pos (by omega), if_pos (by omega), rd_nat, rd_nat, if_neg c, decide_eq_false]
      intro e; rw [e1, e2] at e; injection e with e; exact c e
theorem ints_k (l m : List Int) (hl : l.length ≤ 4611686018427387904) : ∃ K, ∀ k, K ≤ k → phaetonref03_Ints.f k l m = some (decide (l = m)) := by
  by_cases c : l.length = m.length
  · obtain ⟨K, hK⟩ := ints_eq_l0 l m c hl l.length 0 (by omega)
    refine ⟨K, fun k hk => ?_⟩
    unfold phaetonref03_Ints.f
    rw [if_pos (by omega)]
    exact hK k hk
  · refine ⟨0, fun k _ => ?_⟩
    unfold phaetonref03_Ints.f
    rw [if_neg (by omega), decide_eq_false (fun e => c (by rw [e]))]
/-! ### which rank is ahead -/
theorem lessB_nil_r (a : List Int) : lessB a [] = false := by cases a <;> rfl
theorem less_l0 (a b : List Int) (ha : a.length ≤ 1000000) : ∀ d i : Nat, i + d = a.length → Ev (fun k => phaetonref06_Less.l0 k a b (i : Int)) (lessB (a.drop i) (b.drop i)) := by
  intro d
  induction d with
  | zero =>
    intro i hi
    refine ⟨2, fun k hk => ?_⟩
    obtain ⟨k, rfl⟩ : ∃ m, k = m + 2 := ⟨k - 2, by omega⟩
    dsimp only
    rw [phaetonref06_Less.l0.eq_2, if_neg (by omega), phaetonref06_Less.j1.eq_2, if_neg (by simp), List.drop_eq_nil_of_le (by omega)]; rfl
  | succ d ih =>
    intro i hi
    have hlt : i < a.length := by omega
    by_cases hb : i < b.length
    · obtain ⟨K, hK⟩ := ih (i + 1) (by omega)
      refine ⟨K + 2, fun k hk => ?_⟩
      obtain ⟨k, rfl⟩ : ∃ m, k = m + 2 := ⟨k - 2, by omega⟩
      dsimp only
      rw [phaetonref06_Less.l0.eq_2, if_pos (by omega), phaetonref06_Less.j1.eq_2, if_pos (decide_eq_true (by omega)), if_pos (by omega), if_pos (by omega), if_pos (by omega), rd_nat, rd_nat, H.wrap_succ hlt (by omega)]
      rw [rd_drop hlt, rd_drop hb]
      show _ = some (if a.getD i 0 = b.getD i 0 then lessB (a.drop (i + 1)) (b.drop (i + 1)) else decide (a.getD i 0 < b.getD i 0))
      split
      · exact hK k (by omega)
      · rfl
    · refine ⟨2, fun k hk => ?_⟩
      obtain ⟨k, rfl⟩ : ∃ m, k = m + 2 := ⟨k - 2, by omega⟩
      dsimp only
      rw [phaetonref06_Less.l0.eq_2, if_pos (by omega), phaetonref06_Less.j1.eq_2, if_neg (by rw [decide_eq_false (by omega)]; simp), List.drop_eq_nil_of_le (show b.length ≤ i by omega), lessB_nil_r]
theorem less_k (a b : List Int) (ha : a.length ≤ 1000000) : ∃ K, ∀ k, K ≤ k → phaetonref06_Less.f k a b = some (lessB a b) := less_l0 a b ha a.length 0 (by omega)
theorem r6rank_k {x : Fr} (h : FrOk x) : ∃ K, ∀ k, K ≤ k → phaetonref06_Rank.f k x.f0 x.f1 x.f2 x.f3 x.f4 = some (rkF x) := by
  obtain ⟨K, hK⟩ := rank_k (e := x.f0) (id := x.f1) x.f2 x.f3 x.f4 h
  refine ⟨K, fun k hk => ?_⟩
  unfold phaetonref06_Rank.f
  rw [hK k hk, Option.bind_some]; rfl
theorem getD_okT {l : List Fr} (h : ∀ x ∈ l, FrOk x) {i : Nat} (hi : i < l.length) : FrOk (l.getD i z35) := by
  apply h
  rw [List.getD_eq_getElem?_getD, List.getElem?_eq_getElem hi]; exact List.getElem_mem hi
theorem rkF_RankL (x : Fr) : RankL (rkF x) := H.rankF_RankL _ _ _
theorem rks_RankL (l : List Fr) : ∀ r ∈ l.map rkF, RankL r := fun r hr => by
  obtain ⟨x, _, rfl⟩ := List.mem_map.mp hr
  exact rkF_RankL x
theorem rks_getD (l : List Fr) {i : Nat} (hi : i < l.length) : (l.map rkF).getD i [] = rkF (l.getD i z35) := getD_mapT rkF z35 [] l hi
/-! ### the first of the least -/
theorem win_l0 (l : List Fr) (h : ∀ x ∈ l, FrOk x) (hl : l.length ≤ 1000000) : ∀ d i : Nat, i + d = l.length → Ev (fun k => phaetonref06_Win.l0 k l (leastB (l.map rkF) i) (i : Int)) (leastB (l.map rkF) l.length) := by
  intro d
  induction d with
  | zero =>
    intro i hi
    refine Ev.step (f := fun _ => some (leastB (l.map rkF) l.length)) (fun k => ?_) (Ev.now _)
    rw [phaetonref06_Win.l0.eq_2, if_neg (by omega), show i = l.length by omega]
  | succ d ih =>
    intro i hi
    have hlt : i < l.length := by omega
    obtain ⟨K, hK⟩ := ih (i + 1) (by omega)
    have hs : leastB (l.map rkF) (i + 1) = if leastB (l.map rkF) i < 0 ∨ lessB ((l.map rkF).getD i []) ((l.map rkF).getD (leastB (l.map rkF) i).toNat []) = true then (i : Int) else leastB (l.map rkF) i := rfl
    by_cases h0 : i = 0
    · subst h0
      refine ⟨K + 1, fun k hk => ?_⟩
      obtain ⟨k, rfl⟩ : ∃ m, k = m + 1 := ⟨k - 1, by omega⟩
      dsimp only
      have hm : leastB (l.map rkF) 0 = -1 := rfl
      rw [hm] at hs
      rw [if_pos (Or.inl (by decide))] at hs
      rw [phaetonref06_Win.l0.eq_2, if_pos (by omega), hm, if_pos (by decide), H.wrap_succ hlt (by omega), ← hs]
      exact hK k (by omega)
    · obtain ⟨w, h1, h2, h3, h4⟩ := H.leastB_spec (l.map rkF) (rks_RankL l) i (by rw [List.length_map]; omega) (by omega)
      rw [h1, Int.toNat_natCast, rks_getD l hlt, rks_getD l (show w < l.length by omega)] at hs
      obtain ⟨K1, k1⟩ := r6rank_k (getD_okT h hlt)
      obtain ⟨K2, k2⟩ := r6rank_k (getD_okT h (show w < l.length by omega))
      obtain ⟨K3, k3⟩ := less_k (rkF (l.getD i z35)) (rkF (l.getD w z35)) (by have := (rkF_RankL (l.getD i z35)).len; omega)
      refine ⟨K + K1 + K2 + K3 + 1, fun k hk => ?_⟩
      obtain ⟨k, rfl⟩ : ∃ m, k = m + 1 := ⟨k - 1, by omega⟩
      dsimp only
      rw [phaetonref06_Win.l0.eq_2, if_pos (by omega), h1, if_neg (by omega), if_pos (by omega), rdT_nat, rdT_nat, k1 k (by omega), Option.bind_some, if_pos (by omega), if_pos (by omega), k2 k (by omega), Option.bind_some, k3 k (by omega), Option.bind_some, H.wrap_succ hlt (by omega)]
      by_cases hc : lessB (rkF (l.getD i z35)) (rkF (l.getD w z35)) = true
      · rw [if_pos (Or.inr hc)] at hs
        rw [if_pos hc, ← hs]
        exact hK k (by omega)
      · rw [if_neg (fun g => by rcases g with g | g
                                · omega
                                · exact hc g)] at hs
        rw [if_neg hc, ← hs]
        exact hK k (by omega)
theorem win_k (l : List Fr) (h : ∀ x ∈ l, FrOk x) (hl : l.length ≤ 1000000) : ∃ K, ∀ k, K ≤ k → phaetonref06_Win.f k l = some (leastB (l.map rkF) l.length) := win_l0 l h hl l.length 0 (by omega)
theorem whereB_comm : ∀ (a b : List Int) (i : Nat), whereB a b i = whereB b a i
  | [], [], _ => rfl
  | [], _ :: _, _ => rfl
  | _ :: _, [], _ => rfl
  | x :: a, y :: b, i => by
    unfold whereB
    by_cases h : x = y
    · rw [if_pos h, if_pos h.symm, whereB_comm a b (i + 1)]
    · rw [if_neg h, if_neg (fun g => h g.symm)]
theorem whereB_nil_r (a : List Int) (i : Nat) : whereB a [] i = -1 := by cases a <;> rfl
theorem lost_l1 (l : List Fr) (xs : List Int) (a b : List Int) (t : Nat) (r : List Int) (ht : t < l.length) (hl : l.length ≤ 1000000) (ha : a.length ≤ 1000000) (hx : xs.length ≤ 1000000) :
    ∀ d j : Nat, j + d = a.length → Ev (fun k => phaetonref06_Lost.l0 k l (xs ++ [whereB (a.drop j) (b.drop j) j]) ((t + 1 : Nat) : Int)) r → Ev (fun k => phaetonref06_Lost.l1 k l xs (t : Int) a b (-1) (j : Int)) r := by
  intro d
  induction d with
  | zero =>
    intro j hj hn
    obtain ⟨K, hK⟩ := hn
    rw [List.drop_eq_nil_of_le (by omega)] at hK
    refine ⟨K + 2, fun k hk => ?_⟩
    obtain ⟨k, rfl⟩ : ∃ m, k = m + 2 := ⟨k - 2, by omega⟩
    dsimp only
    rw [phaetonref06_Lost.l1.eq_2, if_neg (by omega), phaetonref06_Lost.j2.eq_2, if_neg (by simp), if_pos (by omega), H.wrap_succ ht (by omega)]
    exact hK k (by omega)
  | succ d ih =>
    intro j hj hn
    have hlt : j < a.length := by omega
    by_cases hb : j < b.length
    · rw [rd_drop hlt, rd_drop hb] at hn
      by_cases hc : a.getD j 0 = b.getD j 0
      · have hn' : Ev (fun k => phaetonref06_Lost.l0 k l (xs ++ [whereB (a.drop (j + 1)) (b.drop (j + 1)) (j + 1)]) ((t + 1 : Nat) : Int)) r := by
          have e : whereB (a.getD j 0 :: a.drop (j + 1)) (b.getD j 0 :: b.drop (j + 1)) j = whereB (a.drop (j + 1)) (b.drop (j + 1)) (j + 1) := if_pos hc
          rw [e] at hn; exact hn
        obtain ⟨K, hK⟩ := ih (j + 1) (by omega) hn'
        refine ⟨K + 2, fun k hk => ?_⟩
        obtain ⟨k, rfl⟩ : ∃ m, k = m + 2 := ⟨k - 2, by omega⟩
        dsimp only
        rw [phaetonref06_Lost.l1.eq_2, if_pos (by omega), if_pos (by omega), phaetonref06_Lost.j2.eq_2, if_pos (by decide), if_pos (by omega), if_pos (by omega), if_pos (by omega), rd_nat, rd_nat, if_pos hc, H.wrap_succ hlt (by omega)]
        exact hK k (by omega)
      · have e : whereB (a.getD j 0 :: a.drop (j + 1)) (b.getD j 0 :: b.drop (j + 1)) j = (j : Int) := if_neg hc
        rw [e] at hn
        obtain ⟨K, hK⟩ := hn
        refine ⟨K + 4, fun k hk => ?_⟩
        obtain ⟨k, rfl⟩ : ∃ m, k = m + 4 := ⟨k - 4, by omega⟩
        dsimp only
        rw [phaetonref06_Lost.l1.eq_2, if_pos (by omega), if_pos (by omega), phaetonref06_Lost.j2.eq_2, if_pos (by decide), if_pos (by omega), if_pos (by omega), if_pos (by omega), rd_nat, rd_nat, if_neg hc, H.wrap_succ hlt (by omega)]
        have hf : decide ((j : Int) < 0) = false := decide_eq_false (by omega)
        have hg : ∀ q : Bool, q = false → phaetonref06_Lost.j2 (k + 1) l xs (t : Int) a b (j : Int) ((j + 1 : Nat) : Int) q = some r := fun q hq => by
          rw [hq, phaetonref06_Lost.j2.eq_2, if_neg (by simp), if_pos (by omega), H.wrap_succ ht (by omega)]
          exact hK k (by omega)
        rw [phaetonref06_Lost.l1.eq_2]
        split
        · split
          · exact hg _ hf
          · exact hg _ rfl
        · exact hg _ rfl
    · rw [List.drop_eq_nil_of_le (show b.length ≤ j by omega), whereB_nil_r] at hn
      obtain ⟨K, hK⟩ := hn
      refine ⟨K + 2, fun k hk => ?_⟩
      obtain ⟨k, rfl⟩ : ∃ m, k = m + 2 := ⟨k - 2, by omega⟩
      dsimp only
      rw [phaetonref06_Lost.l1.eq_2, if_pos (by omega), if_neg (by omega), phaetonref06_Lost.j2.eq_2, if_neg (by simp), if_pos (by omega), H.wrap_succ ht (by omega)]
      exact hK k (by omega)
theorem lost_l0 (l : List Fr) (h : ∀ x ∈ l, FrOk x) (hl : l.length ≤ 1000000) (w : Nat) (hw : leastB (l.map rkF) l.length = (w : Int)) (hwl : w < l.length) :
    ∀ d i : Nat, i + d = l.length → Ev (fun k => phaetonref06_Lost.l0 k l ((l.map (fun x => whereB (rkF (l.getD w z35)) (rkF x) 0)).take i) (i : Int)) (l.map (fun x => whereB (rkF (l.getD w z35)) (rkF x) 0)) := by
  intro d
  have hlen : (l.map (fun x => whereB (rkF (l.getD w z35)) (rkF x) 0)).length = l.length := List.length_map _
  induction d with
  | zero =>
    intro i hi
    refine Ev.step (f := fun _ => some (l.map (fun x => whereB (rkF (l.getD w z35)) (rkF x) 0))) (fun k => ?_) (Ev.now _)
    rw [phaetonref06_Lost.l0.eq_2, if_neg (by omega), List.take_of_length_le (by omega)]
  | succ d ih =>
    intro i hi
    have hlt : i < l.length := by omega
    obtain ⟨K1, k1⟩ := win_k l h hl
    obtain ⟨K2, k2⟩ := r6rank_k (getD_okT h hwl)
    obtain ⟨K3, k3⟩ := r6rank_k (getD_okT h hlt)
    have hn := ih (i + 1) (by omega)
    rw [take_snocT 0 _ i (by omega), getD_mapT _ z35 0 l hlt] at hn
    obtain ⟨K, hK⟩ := lost_l1 l ((l.map (fun x => whereB (rkF (l.getD w z35)) (rkF x) 0)).take i) (rkF (l.getD w z35)) (rkF (l.getD i z35)) i _ hlt hl (by have := (rkF_RankL (l.getD w z35)).len; omega) (by rw [List.length_take]; omega) _ 0 (Nat.zero_add _) hn
    refine ⟨K + K1 + K2 + K3 + 1, fun k hk => ?_⟩
    obtain ⟨k, rfl⟩ : ∃ m, k = m + 1 := ⟨k - 1, by omega⟩
    dsimp only
    rw [phaetonref06_Lost.l0.eq_2, if_pos (by omega), k1 k (by omega), Option.bind_some, hw, if_pos (by omega), if_pos (by omega), rdT_nat, rdT_nat, k2 k (by omega), Option.bind_some, if_pos (by omega), k3 k (by omega), Option.bind_some]
    exact hK k (by omega)
/-! ### a race of frames, and the document's -/
theorem arb_ranks_eq (l : List Fr) (h : ∀ x ∈ l, FrOk x) : arb_ranks l = l.map rkF := List.map_congr_left fun x hx => rankB_eq x.f2 (h x hx)
theorem race_nil : arb_Win.f [] = some (-1) ∧ arb_Lost.f [] = some [] ∧ arb_Line.f [] = some [] := by
  have : ∀ k, arb_runs ([] : List (List Int)) k = ([], [], []) := fun k => by
    induction k with
    | zero => rfl
    | succ k ih => unfold arb_runs; rw [ih]; rfl
  refine ⟨?_, ?_, ?_⟩
  · unfold arb_Win.f; rw [if_pos (by simp), show arb_ranks [] = [] from rfl, this]; rfl
  · unfold arb_Lost.f; rw [if_pos (by simp), show arb_ranks [] = [] from rfl, this]
  · unfold arb_Line.f; rw [if_pos (by simp), show arb_ranks [] = [] from rfl, this]
def lostF (m : List Int) (x : Fr) : Int := if rkF x = m then -1 else whereB (rkF x) m 0
theorem lostF_where (m : List Int) (x : Fr) : lostF m x = whereB m (rkF x) 0 := by
  unfold lostF
  split
  · rename_i h; rw [h, H.whereB_self]
  · exact whereB_comm _ _ _
/-- What a race comes to: the winner's place, its rank. -/
structure Raced (l : List Fr) (w : Nat) (m : List Int) : Prop where
  lt : w < l.length
  rank : rkF (l.getD w z35) = m
  win : arb_Win.f l = some (w : Int)
  lost : arb_Lost.f l = some (l.map (lostF m))
  line : arb_Line.f l = some m
  least : leastB (l.map rkF) l.length = (w : Int)
  all : ∀ i, i < l.length → rkF (l.getD i z35) = m ∨ lessB m (rkF (l.getD i z35)) = true
  first : ∀ i, i < w → lessB m (rkF (l.getD i z35)) = true
theorem raced (l : List Fr) (h : ∀ x ∈ l, FrOk x) (hl : l.length ≤ 1000000) (hne : 0 < l.length) : ∃ w m, Raced l w m := by
  obtain ⟨w, h1, h2, h3, h4⟩ := H.leastB_spec (l.map rkF) (rks_RankL l) l.length (by rw [List.length_map]; exact Nat.le_refl _) hne
  have hw : w < l.length := h2
  have hrk := rks_getD l hw
  have hrun := runs_end (l.map rkF) (rks_RankL l) w (by rw [List.length_map]; exact hw) (rkF (l.getD w z35)) hrk (fun i hi => by
    rw [List.length_map] at hi
    have := h3 i hi
    rw [hrk] at this
    exact this)
  have hwin := race_win (l.map rkF) (rks_RankL l)
  rw [List.length_map, h1] at hwin
  refine ⟨w, rkF (l.getD w z35), hw, rfl, ?_, ?_, ?_, h1, fun i hi => ?_, fun i hi => ?_⟩
  · unfold arb_Win.f; rw [if_pos (by omega), arb_ranks_eq l h, hwin]
  · unfold arb_Lost.f; rw [if_pos (by omega), arb_ranks_eq l h, hrun]
    show some (List.map _ (List.map rkF l)) = _
    rw [List.map_map]; rfl
  · unfold arb_Line.f; rw [if_pos (by omega), arb_ranks_eq l h, hrun]
  · have := h3 i hi
    rw [hrk, rks_getD l hi] at this
    exact this
  · have := h4 i hi
    rw [hrk, rks_getD l (by omega)] at this
    exact this
theorem lost_k (l : List Fr) (h : ∀ x ∈ l, FrOk x) (hl : l.length ≤ 1000000) {w : Nat} {m : List Int} (hr : Raced l w m) : ∃ K, ∀ k, K ≤ k → phaetonref06_Lost.f k l = some (l.map (lostF m)) := by
  obtain ⟨K, hK⟩ := lost_l0 l h hl w hr.least hr.lt l.length 0 (by omega)
  refine ⟨K, fun k hk => ?_⟩
  have := hK k hk
  rw [List.take_zero] at this
  rw [show l.map (lostF m) = l.map (fun x => whereB (rkF (l.getD w z35)) (rkF x) 0) from List.map_congr_left fun x _ => by rw [hr.rank]; exact lostF_where m x]
  exact this
theorem line_k (l : List Fr) (h : ∀ x ∈ l, FrOk x) (hl : l.length ≤ 1000000) {w : Nat} {m : List Int} (hr : Raced l w m) : ∃ K, ∀ k, K ≤ k → phaetonref06_Line.f k l = some m := by
  obtain ⟨K1, k1⟩ := win_k l h hl
  obtain ⟨K2, k2⟩ := r6rank_k (getD_okT h hr.lt)
  refine ⟨K1 + K2, fun k hk => ?_⟩
  have := hr.lt
  unfold phaetonref06_Line.f
  rw [if_neg (by omega), k1 k (by omega), Option.bind_some, hr.least, if_pos (by omega), if_pos (by omega), rdT_nat, k2 k (by omega), Option.bind_some, hr.rank]
/-! ### bits of a line -/
theorem and_l0 (l : List Int) (hl : l.length ≤ 1000000) : ∀ d i : Nat, i + d = l.length → Ev (fun k => arb_And.l0 k (arb_and (l.take i)) l (l.length : Int) (i : Int)) (arb_and l) := by
  intro d
  induction d with
  | zero =>
    intro i hi
    refine Ev.step (f := fun _ => some (arb_and l)) (fun k => ?_) (Ev.now _)
    rw [arb_And.l0.eq_2, if_neg (by omega), List.take_of_length_le (by omega)]
  | succ d ih =>
    intro i hi
    refine Ev.step (f := fun k => arb_And.l0 k (arb_and (l.take (i + 1))) l (l.length : Int) ((i + 1 : Nat) : Int)) (fun k => ?_) (ih (i + 1) (by omega))
    rw [arb_And.l0.eq_2, if_pos (by omega), if_pos (by omega), if_pos (by omega), rd_nat, H.wrap_succ (n := l.length) (by omega) (by omega), take_snocT 0 l i (by omega)]
    unfold arb_and
    rw [List.foldl_append]; rfl
theorem and_k (l : List Int) (hl : l.length ≤ 1000000) : ∃ K, ∀ k, K ≤ k → arb_And.f k l = some (arb_and l) := and_l0 l hl l.length 0 (by omega)
theorem and_bit {l : List Int} (hb : ∀ x ∈ l, x = 0 ∨ x = 1) : arb_and l = if 0 ∈ l then 0 else 1 := by
  by_cases h : (0 : Int) ∈ l
  · rw [if_pos h]
    exact arb_and_eq (by decide) h (fun x hx => by rcases hb x hx with e | e <;> omega)
  · rw [if_neg h]
    have h1 : ∀ x ∈ l, (1 : Int) ≤ x := fun x hx => by
      rcases hb x hx with e | e
      · subst e; exact absurd hx h
      · omega
    have a := (arb_and_le l 1).1
    have b := arb_and_ge l 1 h1 1 (Int.le_refl _)
    unfold arb_and; omega
theorem r6and_l0 (l : List Int) (hl : l.length ≤ 1000000) : ∀ d i : Nat, i + d = l.length → Ev (fun k => phaetonref06_And.l0 k l (i : Int)) (if 0 ∈ l.drop i then 0 else 1) := by
  intro d
  induction d with
  | zero =>
    intro i hi
    refine Ev.step (f := fun _ => some (if 0 ∈ l.drop i then 0 else 1)) (fun k => ?_) (Ev.now _)
    rw [phaetonref06_And.l0.eq_2, if_neg (by omega), List.drop_eq_nil_of_le (by omega), if_neg (by simp)]
  | succ d ih =>
    intro i hi
    have hlt : i < l.length := by omega
    rw [rd_drop hlt]
    by_cases c : l.getD i 0 = 0
    · refine Ev.step (f := fun _ => some (if 0 ∈ l.getD i 0 :: l.drop (i + 1) then 0 else 1)) (fun k => ?_) (Ev.now _)
      rw [phaetonref06_And.l0.eq_2, if_pos (by omega), if_pos (by omega), rd_nat, if_pos c, if_pos (by rw [c]; exact List.mem_cons_self)]
    · refine Ev.step (f := fun k => phaetonref06_And.l0 k l ((i + 1 : Nat) : Int)) (fun k => ?_) ?_
      · rw [phaetonref06_And.l0.eq_2, if_pos (by omega), if_pos (by omega), rd_nat, if_neg c, H.wrap_succ hlt (by omega)]
      · have := ih (i + 1) (by omega)
        have e : (0 ∈ l.getD i 0 :: l.drop (i + 1)) ↔ 0 ∈ l.drop (i + 1) := by
          rw [List.mem_cons]
          exact ⟨fun g => by rcases g with g | g
                             · exact absurd g.symm c
                             · exact g, Or.inr⟩
        simp only [e]; exact this
theorem r6and_k (l : List Int) (hl : l.length ≤ 1000000) : ∃ K, ∀ k, K ≤ k → phaetonref06_And.f k l = some (if 0 ∈ l then 0 else 1) := r6and_l0 l hl l.length 0 (by omega)
end Go.Proofs.Ytcdbndjicjghgaa.PB
