/- Two frames whose heads are alike for so many bits are alike on the wire for as many, at least. -/
import Derived.Test.YthgeekcobmhbfaaPx20
import Derived.Test.YthgeekcobmhbfaaPureSent
import Derived.Test.YthgeekcobmhbfaaPureFHRef
set_option linter.unusedVariables false
set_option linter.unusedSimpArgs false
namespace Go.Proofs.Ythgeekcobmhbfaa.PB
open Go.RowKit Go.Proofs.Ythgeekcobmhbfaa.Px Go.Proofs.YthgeekcobmhbfaaW.PrintWords Go.Proofs.YthgeekcobmhbfaaW.PrintLast Go.Proofs.YthgeekcobmhbfaaW.PrintMore
open Go.Proofs.Ythgeekcobmhbfaa.H (IdOk rankF bitI bitsOf spreadB stuffGo stuffE)
theorem sent_shares {a b : List Int} (hra : H.rightB a = true) (hrb : H.rightB b = true) {n : Nat} (h : a.take n = b.take n) (ha : n ≤ a.length) (hb : n ≤ b.length) : (sentF a).take n = (sentF b).take n := by
  have hp : ∀ c : List Int, H.rightB c = true → n ≤ c.length → ∃ x, sentF c = stuffGo (-1, 0) (c.take n) ++ x := fun c hc hn => by
    have hbb := H.rightB_mem (body_right hc)
    unfold sentF stuffF
    rw [H.stuffB_go hbb]
    have : bodyF c = c.take n ++ (c.drop n ++ bitsOf ((H.crcB c).toNat : Int) 15) := by
      unfold bodyF; rw [← List.append_assoc, List.take_append_drop]
    rw [this, H.stuffGo_append]
    exact ⟨_, List.append_assoc _ _ _⟩
  obtain ⟨x, hx⟩ := hp a hra ha
  obtain ⟨y, hy⟩ := hp b hrb hb
  have hl : n ≤ (stuffGo (-1, 0) (a.take n)).length := by
    have := H.stuffGo_len (a.take n) (-1, 0)
    rw [List.length_take] at this; omega
  rw [hx, hy, ← h, List.take_append_of_le_length hl, List.take_append_of_le_length hl]
theorem take_next {a b : List Int} {i : Nat} (h : a.take i = b.take i) (ha : i < a.length) (hb : i < b.length) (he : a.getD i 0 = b.getD i 0) : a.take (i + 1) = b.take (i + 1) := by
  rw [H.take_snoc 0 a i ha, H.take_snoc 0 b i hb, h, he]
end Go.Proofs.Ythgeekcobmhbfaa.PB
namespace Go.Proofs.Ythgeekcobmhbfaa.Pure
open Go.RowKit Go.Proofs.Ythgeekcobmhbfaa.PB Go.Proofs.Ythgeekcobmhbfaa.Px Go.Proofs.YthgeekcobmhbfaaW.PrintWords Go.Proofs.YthgeekcobmhbfaaW.PrintLast Go.Proofs.YthgeekcobmhbfaaW.PrintMore
open Go.Proofs.Ythgeekcobmhbfaa.H (IdOk rankF bitI bitsOf spreadB)
theorem shares_l0 {e : Bool} {id : Int} {rm : Bool} {ln : Int} {d : List Int} {e' : Bool} {id' : Int} {rm' : Bool} {ln' : Int} {d' : List Int} {a b x y : List Int} (q1 : wire_Bits.f e id rm ln d = some x) (q2 : wire_Bits.f e' id' rm' ln' d' = some y)
    (hs : ∀ n, n ≤ a.length → n ≤ b.length → a.take n = b.take n → x.take n = y.take n) (h1 : a.length + 15 < x.length) (h2 : b.length + 15 < y.length) (h3 : x.length ≤ 1000000) (h4 : y.length ≤ 1000000) :
    ∀ m i : Nat, i + m = a.length → i ≤ b.length → a.take i = b.take i → Ev (fun k => phaetonlaw05_WireShares.l0 k true a b (i : Int) e id rm ln d e' id' rm' ln' d') true := by
  have w1 : wrap64 ((a.length : Int) + 15) = ((a.length + 15 : Nat) : Int) := by unfold wrap64; omega
  have w2 : wrap64 ((b.length : Int) + 15) = ((b.length + 15 : Nat) : Int) := by unfold wrap64; omega
  have W1 := Aside0.mk w1
  have W2 := Aside0.mk w2
  clear w1 w2
  intro m
  induction m with
  | zero =>
    intro i hi hib ht
    obtain ⟨K, k1⟩ := same2_k (x.take i) (y.take i) (by rw [List.length_take]; omega)
    rw [decide_eq_true (hs i (by omega) hib ht)] at k1
    refine ⟨K + 1, fun k hk => ?_⟩
    obtain ⟨k, rfl⟩ : ∃ j, k = j + 1 := ⟨k - 1, by omega⟩
    simp only [phaetonlaw05_WireShares.l0]
    rw [if_neg (by omega), q1, Option.bind_some, q2, Option.bind_some, if_pos trivial, if_pos (by omega), if_pos (by omega), if_pos (by omega), if_pos (by omega), if_pos (by omega), Int.toNat_natCast, k1 _ (by omega), Option.bind_some, if_pos rfl, W1.out, if_pos (by omega), W2.out, if_pos (by omega)]
  | succ m ih =>
    intro i hi hib ht
    obtain ⟨K, k1⟩ := same2_k (x.take i) (y.take i) (by rw [List.length_take]; omega)
    rw [decide_eq_true (hs i (by omega) hib ht)] at k1
    by_cases hlb : i < b.length
    · by_cases he : a.getD i 0 = b.getD i 0
      · refine Ev.step (f := fun k => phaetonlaw05_WireShares.l0 k true a b ((i + 1 : Nat) : Int) e id rm ln d e' id' rm' ln' d') (fun k => ?_) (ih (i + 1) (by omega) (by omega) (take_next ht (by omega) hlb he))
        simp only [phaetonlaw05_WireShares.l0]
        rw [if_pos (by omega), if_pos (by omega), if_pos (by omega), fb_rd_nat, fb_rd_nat, if_pos he, H.wrap_succ hlb (by omega)]
      · refine ⟨K + 1, fun k hk => ?_⟩
        obtain ⟨k, rfl⟩ : ∃ j, k = j + 1 := ⟨k - 1, by omega⟩
        simp only [phaetonlaw05_WireShares.l0]
        rw [if_pos (by omega), if_pos (by omega), if_pos (by omega), fb_rd_nat, fb_rd_nat, if_neg he, q1, Option.bind_some, q2, Option.bind_some, if_pos trivial, if_pos (by omega), if_pos (by omega), if_pos (by omega), if_pos (by omega), Int.toNat_natCast, k1 _ (by omega), Option.bind_some, if_pos rfl, W1.out, if_pos (by omega), W2.out, if_pos (by omega)]
    · refine ⟨K + 1, fun k hk => ?_⟩
      obtain ⟨k, rfl⟩ : ∃ j, k = j + 1 := ⟨k - 1, by omega⟩
      simp only [phaetonlaw05_WireShares.l0]
      rw [if_pos (by omega), if_neg (by omega), q1, Option.bind_some, q2, Option.bind_some, if_pos trivial, if_pos (by omega), if_pos (by omega), if_pos (by omega), if_pos (by omega), if_pos (by omega), Int.toNat_natCast, k1 _ (by omega), Option.bind_some, if_pos rfl, W1.out, if_pos (by omega), W2.out, if_pos (by omega)]
theorem WireShares : phaetonlaw05_WireShares.Pure := by
  intro e id rm ln d e' id' rm' ln' d' _ _ _ hwd _ _ _ hwd'
  have hw := bytes_of hwd
  have hw' := bytes_of hwd'
  obtain ⟨K0, hh⟩ := head05_k
  by_cases g : (d.length : Int) > 100
  · refine ⟨K0 + 2, ?_⟩
    unfold phaetonlaw05_WireShares.f
    rw [hh _ (by omega), Option.bind_some, great_eq, Option.bind_some, decide_eq_true g, if_pos rfl, phaetonlaw05_WireShares.j0.eq_2, if_pos rfl, if_pos rfl]
  by_cases g' : (d'.length : Int) > 100
  · refine ⟨K0 + 2, ?_⟩
    unfold phaetonlaw05_WireShares.f
    rw [hh _ (by omega), Option.bind_some, great_eq, Option.bind_some, decide_eq_false g, if_neg (by simp), great_eq, Option.bind_some, decide_eq_true g', if_pos rfl, phaetonlaw05_WireShares.j0.eq_2, if_pos rfl, if_pos rfl]
  by_cases hF : FRight e id rm ln d
  case neg =>
    refine ⟨K0 + 2, ?_⟩
    unfold phaetonlaw05_WireShares.f
    rw [hh _ (by omega), Option.bind_some, great_eq, Option.bind_some, decide_eq_false g, if_neg (by simp), great_eq, Option.bind_some, decide_eq_false g', if_neg (by simp), r4right_k _ _ _ _ _ _ (by omega), Option.bind_some, decide_eq_false hF, if_neg (by simp), phaetonlaw05_WireShares.j0.eq_2, if_pos rfl, if_pos rfl]
  by_cases hG : FRight e' id' rm' ln' d'
  case neg =>
    refine ⟨K0 + 2, ?_⟩
    unfold phaetonlaw05_WireShares.f
    rw [hh _ (by omega), Option.bind_some, great_eq, Option.bind_some, decide_eq_false g, if_neg (by simp), great_eq, Option.bind_some, decide_eq_false g', if_neg (by simp), r4right_k _ _ _ _ _ _ (by omega), Option.bind_some, decide_eq_true hF, if_pos rfl, r4right_k _ _ _ _ _ _ (by omega), Option.bind_some, decide_eq_false hG, Bool.not_false, phaetonlaw05_WireShares.j0.eq_2, if_pos rfl, if_pos rfl]
  have q1 := wire_eq hF
  have q2 := wire_eq hG
  have ra := headF_right e id rm ln d
  have rb := headF_right e' id' rm' ln' d'
  have s1 := (stuffF_len ra)
  have s2 := (stuffF_len rb)
  have z1 := sentF_len (headF e id rm ln d)
  have z2 := sentF_len (headF e' id' rm' ln' d')
  have n1 := headF_len2 hF
  have n2 := headF_len2 hG
  obtain ⟨K1, k1⟩ := r4head_k hF hw
  obtain ⟨K2, k2⟩ := r4head_k hG hw'
  obtain ⟨K3, k3⟩ := shares_l0 q1 q2 (a := headF e id rm ln d) (b := headF e' id' rm' ln' d') (fun n h1 h2 h3 => sent_shares ra rb h3 h1 h2) (by omega) (by omega) (by omega) (by omega) (headF e id rm ln d).length 0 (by omega) (Nat.zero_le _) (by rw [List.take_zero, List.take_zero])
  refine ⟨K0 + K1 + K2 + K3 + 3, ?_⟩
  unfold phaetonlaw05_WireShares.f
  rw [hh _ (by omega), Option.bind_some, great_eq, Option.bind_some, decide_eq_false g, if_neg (by simp), great_eq, Option.bind_some, decide_eq_false g', if_neg (by simp), r4right_k _ _ _ _ _ _ (by omega), Option.bind_some, decide_eq_true hF, if_pos rfl, r4right_k _ _ _ _ _ _ (by omega), Option.bind_some, decide_eq_true hG, Bool.not_true, phaetonlaw05_WireShares.j0.eq_2, if_neg (by simp), k1 _ (by omega), Option.bind_some, k2 _ (by omega), Option.bind_some]
  exact k3 _ (by omega)
end Go.Proofs.Ythgeekcobmhbfaa.Pure
