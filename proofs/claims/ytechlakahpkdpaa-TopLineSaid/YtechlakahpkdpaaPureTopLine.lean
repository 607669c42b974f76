/- Of two frames of unlike ranks that begin together, what the line has is the winner's, up to and with the first place at which they differ; there the winner has 0; and the one that loses gives up by then. -/
import Derived.Test.YtechlakahpkdpaaPx6
import Derived.Test.YtechlakahpkdpaaPureRace
import Derived.Test.YtechlakahpkdpaaPureFrame
import Derived.Test.YtechlakahpkdpaaHandCrc
import Derived.Test.YtechlakahpkdpaaHandStuffLaw
set_option linter.unusedVariables false
set_option linter.unusedSimpArgs false
namespace Go.Proofs.Ytechlakahpkdpaa.PB
open Go.RowKit Go.Proofs.Ytechlakahpkdpaa.Px Go.Proofs.YtechlakahpkdpaaW.PrintWords Go.Proofs.YtechlakahpkdpaaW.PrintLast Go.Proofs.YtechlakahpkdpaaW.PrintMore
open Go.Proofs.Ytechlakahpkdpaa.H (RankL lessB whereB leastB Parts IdOk rankF bitI bitsOf spreadB Bit stuffGo stuffE runS)
theorem headT_k : ∃ K, ∀ k, K ≤ k → phaetontop_head06.f k = some true := by
  refine ⟨40, fun k hk => at_rounds (g := fun k => phaetontop_head06.f k) phaetontop_head06.mono hk ?_⟩
  decide +kernel
/-- What goes out on the wire: stuffed bits, and ten ones. -/
def bodyF (h : List Int) : List Int := h ++ bitsOf ((H.crcB h).toNat : Int) 15
theorem wire_eq {e : Bool} {id : Int} {rm : Bool} {ln : Int} {d : List Int} (h : FRight e id rm ln d) : wire_Bits.f e id rm ln d = some (H.stuffB (bodyF (headF e id rm ln d)) ++ bitsOf 1023 10) := by
  have hs := (H.crcB (headF e id rm ln d)).isLt
  have hl : (headF e id rm ln d).length ≤ 200 := by have := h.dlen; rw [headF_len]; split <;> omega
  have p15 : H.putB ((H.crcB (headF e id rm ln d)).toNat : Int) 15 = (bitsOf ((H.crcB (headF e id rm ln d)).toNat : Int) 15, true) := H.putB_yes (m := 15) (by omega) (by omega) (by omega)
  have p10 : H.putB 1023 10 = (bitsOf 1023 10, true) := H.putB_yes (m := 10) (by omega) (by omega) (by omega)
  have l15 := H.bitsOf_length ((H.crcB (headF e id rm ln d)).toNat : Int) 15
  have l10 := H.bitsOf_length 1023 10
  have hbl : (bodyF (headF e id rm ln d)).length ≤ 300 := by unfold bodyF; rw [List.length_append, l15]; omega
  have hsl := H.stuffS_len (bodyF (headF e id rm ln d))
  have e1 : crc_Bits.f (headF e id rm ln d) = some ((H.crcB (headF e id rm ln d)).toNat : Int) := rfl
  have e2 : bits_Put.f ((H.crcB (headF e id rm ln d)).toNat : Int) 15 = some (H.putB ((H.crcB (headF e id rm ln d)).toNat : Int) 15) := rfl
  have e3 : bits_Put.f 1023 10 = some (H.putB 1023 10) := rfl
  have e4 : stuff_Stuff.f (bodyF (headF e id rm ln d)) = some (H.stuffB (bodyF (headF e id rm ln d))) := if_pos (by omega)
  have hb : (headF e id rm ln d) ++ bitsOf ((H.crcB (headF e id rm ln d)).toNat : Int) 15 = bodyF (headF e id rm ln d) := rfl
  unfold wire_Bits.f
  rw [fhead_eq h, Option.bind_some, e1, Option.bind_some, e2, p15, Option.bind_some, e3, p10, Option.bind_some]
  dsimp only
  rw [if_pos (by omega), hb, e4, Option.bind_some, if_pos (by unfold H.stuffB; omega)]
theorem body_right (h : List Int) (hr : H.rightB h = true) : H.rightB (bodyF h) = true := by unfold bodyF; rw [H.rightB_append, hr, H.bitsOf_right]; rfl
abbrev TFr := S26
def rkT (x : TFr) : List Int := rankF x.f0 x.f1 x.f2
def TOk (x : TFr) : Prop := FRight x.f0 x.f1 x.f2 x.f3 x.f4
theorem rkT_RankL (x : TFr) : RankL (rkT x) := H.rankF_RankL _ _ _
theorem ranksT {l : List TFr} (h : ∀ x ∈ l, TOk x) : arb_ranks l = l.map rkT := List.map_congr_left fun x hx => rankB_eq x.f2 (h x hx).1
theorem two_ok {x y : TFr} (hx : TOk x) (hy : TOk y) : ∀ z ∈ [x, y], TOk z := fun z hz => by
  simp only [List.mem_cons, List.not_mem_nil, or_false] at hz
  rcases hz with rfl | rfl <;> assumption
/-! ### a race of two -/
theorem race_l {a b : List Int} {p : Nat} (ha : RankL a) (hb : RankL b) (hp : Parts a b p) (hl : lessB a b = true) :
    arb_winB (arb_runs [a, b] 128).1 0 = 0 ∧ (arb_runs [a, b] 128).2 = ([-1, (p : Int)], a) := by
  have hR : ∀ r ∈ [a, b], RankL r := fun r hr => by
    simp only [List.mem_cons, List.not_mem_nil, or_false] at hr
    rcases hr with rfl | rfl <;> assumption
  have hn : b ≠ a := fun e => hp.ne e.symm
  have hw : whereB b a 0 = ((0 + p : Nat) : Int) := H.whereB_parts _ _ _ _ hp.symm
  rw [Nat.zero_add] at hw
  rw [runs_end [a, b] hR 0 (Nat.zero_lt_succ _) a rfl (fun i hi => by
    rcases i with _ | _ | i
    · exact .inl rfl
    · exact .inr hl
    · simp only [List.length_cons, List.length_nil] at hi; omega)]
  refine ⟨?_, ?_⟩
  · show arb_winB [decide (a = a), decide (b = a)] 0 = 0
    rw [decide_eq_true rfl]; rfl
  · show ([if a = a then -1 else whereB a a 0, if b = a then -1 else whereB b a 0], a) = _
    rw [if_pos rfl, if_neg hn, hw]
theorem race_r {a b : List Int} {p : Nat} (ha : RankL a) (hb : RankL b) (hp : Parts a b p) (hl : lessB a b = true) :
    arb_winB (arb_runs [b, a] 128).1 0 = 1 ∧ (arb_runs [b, a] 128).2 = ([(p : Int), -1], a) := by
  have hR : ∀ r ∈ [b, a], RankL r := fun r hr => by
    simp only [List.mem_cons, List.not_mem_nil, or_false] at hr
    rcases hr with rfl | rfl <;> assumption
  have hn : b ≠ a := fun e => hp.ne e.symm
  have hw : whereB b a 0 = ((0 + p : Nat) : Int) := H.whereB_parts _ _ _ _ hp.symm
  rw [Nat.zero_add] at hw
  rw [runs_end [b, a] hR 1 (Nat.lt_succ_self _) a rfl (fun i hi => by
    rcases i with _ | _ | i
    · exact .inr hl
    · exact .inl rfl
    · simp only [List.length_cons, List.length_nil] at hi; omega)]
  refine ⟨?_, ?_⟩
  · show arb_winB [decide (b = a), decide (a = a)] 0 = 1
    rw [decide_eq_true rfl, decide_eq_false hn]; rfl
  · show ([if b = a then -1 else whereB b a 0, if a = a then -1 else whereB a a 0], a) = _
    rw [if_pos rfl, if_neg hn, hw]
/-! ### on the wire -/
theorem stuff_cons (s : Int × Int) (b : Int) (l : List Int) : ∃ m, stuffGo s (b :: l) = b :: m := by
  rw [stuffGo]
  split
  · exact ⟨_, rfl⟩
  · exact ⟨_, rfl⟩
theorem wire_split {e : Bool} {id : Int} {rm : Bool} {ln : Int} {d : List Int} (h : FRight e id rm ln d) {p : Nat} (hp : p < (rankF e id rm).length) :
    ∃ X, wire_Bits.f e id rm ln d = some (stuffGo (-1, 0) (0 :: (rankF e id rm).take p) ++ (rankF e id rm).getD p 0 :: X) ∧ X.length ≤ 1000 := by
  have hbr := body_right _ (headF_right e id rm ln d)
  have hsl := H.stuffS_len (bodyF (headF e id rm ln d))
  have hbl : (bodyF (headF e id rm ln d)).length ≤ 300 := by
    have := h.dlen
    unfold bodyF; rw [List.length_append, H.bitsOf_length, headF_len]; split <;> omega
  have hsb : (H.stuffB (bodyF (headF e id rm ln d))).length ≤ 600 := by unfold H.stuffB; omega
  have hw := wire_eq h
  obtain ⟨rest, hr⟩ : ∃ rest, bodyF (headF e id rm ln d) = (0 :: (rankF e id rm).take p) ++ ((rankF e id rm).getD p 0 :: rest) := by
    refine ⟨(rankF e id rm).drop (p + 1) ++ ((if e = true then [0, 0] else [0]) ++ (bitsOf ln 4 ++ spreadB d) ++ bitsOf ((H.crcB (headF e id rm ln d)).toNat : Int) 15), ?_⟩
    have e1 : rankF e id rm = (rankF e id rm).take p ++ (rankF e id rm).getD p 0 :: (rankF e id rm).drop (p + 1) := by
      rw [← rd_drop hp, List.take_append_drop]
    have e2 : bodyF (headF e id rm ln d) = 0 :: (rankF e id rm ++ ((if e = true then [0, 0] else [0]) ++ (bitsOf ln 4 ++ spreadB d) ++ bitsOf ((H.crcB (headF e id rm ln d)).toNat : Int) 15)) := by
      unfold bodyF
      generalize (H.crcB (headF e id rm ln d)).toNat = c
      unfold headF preF
      simp only [List.append_assoc, List.cons_append]
    rw [e2, List.cons_append]
    congr 1
    conv => lhs; rw [e1]
    rw [List.append_assoc, List.cons_append]
  rw [hr] at hw hsb
  rw [hr] at hbr
  rw [H.stuffB_go (H.rightB_mem hbr), H.stuffGo_append] at hw hsb
  obtain ⟨m, hm⟩ := stuff_cons (stuffE (-1, 0) (0 :: (rankF e id rm).take p)) ((rankF e id rm).getD p 0) rest
  rw [hm] at hw hsb
  refine ⟨m ++ bitsOf 1023 10, ?_, ?_⟩
  · rw [hw, List.append_assoc, List.cons_append]
  · rw [List.length_append, List.length_cons] at hsb
    rw [List.length_append, H.bitsOf_length]; omega
theorem getD_pre (P : List Int) (b : Int) (X : List Int) {i : Nat} (hi : i < P.length) : (P ++ b :: X).getD i 0 = P.getD i 0 := by
  rw [List.getD_eq_getElem?_getD, List.getD_eq_getElem?_getD, List.getElem?_append_left hi]
theorem getD_at (P : List Int) (b : Int) (X : List Int) : (P ++ b :: X).getD P.length 0 = b := by
  rw [List.getD_eq_getElem?_getD, List.getElem?_append_right (Nat.le_refl _), Nat.sub_self]; rfl
theorem and_two {a b : Int} : ∃ K, ∀ k, K ≤ k → arb_And.f k [a, b] = some (mn (mn 1 a) b) := by
  refine ⟨3, fun k hk => ?_⟩
  obtain ⟨k, rfl⟩ : ∃ m, k = m + 3 := ⟨k - 3, by omega⟩
  unfold arb_And.f
  rw [arb_And.l0.eq_2, if_pos (by simp), if_pos (by omega), if_pos (by simp), show wrap64 (0 + 1) = 1 by unfold wrap64; omega,
    arb_And.l0.eq_2, if_pos (by simp), if_pos (by omega), if_pos (by simp), show wrap64 (1 + 1) = 2 by unfold wrap64; omega, arb_And.l0.eq_2, if_neg (by simp)]
  rfl
end Go.Proofs.Ytechlakahpkdpaa.PB
namespace Go.Proofs.Ytechlakahpkdpaa.Pure
open Go.RowKit Go.Proofs.Ytechlakahpkdpaa.PB Go.Proofs.Ytechlakahpkdpaa.Px Go.Proofs.YtechlakahpkdpaaW.PrintWords Go.Proofs.YtechlakahpkdpaaW.PrintLast Go.Proofs.YtechlakahpkdpaaW.PrintMore
open Go.Proofs.Ytechlakahpkdpaa.H (RankL lessB whereB leastB Parts IdOk rankF bitI bitsOf spreadB Bit stuffGo stuffE runS)
/-- What is known of the race, ahead of the loops: l the two, w the winner's place, v the other's. -/
structure Race (l : List TFr) (x y : TFr) (w v : Int) (lost : List Int) (p : Nat) : Prop where
  len : l.length = 2
  lenL : lost.length = 2
  w0 : 0 ≤ w
  w1 : w < 2
  v0 : 0 ≤ v
  v1 : v < 2
  wv : wrap64 (1 - w) = v
  atw : rd_T26 l w = x
  atv : rd_T26 l v = y
  lw : rd lost w = -1
  lv : rd lost v = (p : Int)
  okx : TOk x
  oky : TOk y
  parts : Parts (rkT x) (rkT y) p
  less : lessB (rkT x) (rkT y) = true
  line : arb_Line.f l = some (rkT x)
section
variable {l : List TFr} {x y : TFr} {w v : Int} {lost : List Int} {p : Nat} (R : Race l x y w v lost p) {P X Y : List Int} (hPb : ∀ i, i < P.length → P.getD i 0 = 0 ∨ P.getD i 0 = 1) (hP : P.length ≤ 1000) (hX : X.length ≤ 1000) (hY : Y.length ≤ 1000) (hpP : p + 1 ≤ P.length)
include R hPb hP hX hY hpP
theorem line_l1 : ∀ d i : Nat, i + d = P.length + 1 → Ev (fun k => phaetontop_TopLine.l1 k true l w lost (P ++ 0 :: X) (P ++ 1 :: Y) (P.length : Int) (i : Int)) true := by
  have hA : (P ++ 0 :: X).length = P.length + X.length + 1 := by rw [List.length_append, List.length_cons]; omega
  have hB : (P ++ 1 :: Y).length = P.length + Y.length + 1 := by rw [List.length_append, List.length_cons]; omega
  have hz := (rkT_RankL x).zero_one (rkT_RankL y) R.parts R.less
  have hr1 := (rkT_RankL x).len
  have hr2 := (rkT_RankL y).len
  have h1 := R.parts.1
  have h2 := R.parts.2.1
  have hll : (l.length : Int) = 2 := by rw [R.len]; rfl
  have hlo : (lost.length : Int) = 2 := by rw [R.lenL]; rfl
  have rx : frame_Rank.f x.f0 x.f1 x.f2 x.f3 x.f4 = some (rkT x) := congrArg some (rankB_eq x.f2 R.okx.1)
  have ry : frame_Rank.f y.f0 y.f1 y.f2 y.f3 y.f4 = some (rkT y) := congrArg some (rankB_eq y.f2 R.oky.1)
  have w0 := R.w0
  have w1 := R.w1
  have v0 := R.v0
  have v1 := R.v1
  intro d
  induction d with
  | zero =>
    intro i hi
    obtain ⟨K, k1⟩ := same2_k (rkT x) (rkT x) (by omega)
    rw [decide_eq_true rfl] at k1
    refine ⟨K + 1, fun k hk => ?_⟩
    obtain ⟨k, rfl⟩ : ∃ m, k = m + 1 := ⟨k - 1, by omega⟩
    have hwp0 : wrap64 ((p : Int) + 1) = ((p + 1 : Nat) : Int) := by unfold wrap64; omega
    have hwp := Aside0.mk hwp0
    clear hwp0
    simp only [phaetontop_TopLine.l1]
    rw [if_neg (by omega), R.line, Option.bind_some, R.wv, if_pos v0, if_pos (by rw [hlo]; exact v1), if_pos (by rw [hll]; exact v1), R.atv, ry, Option.bind_some, if_pos trivial, if_pos w0, if_pos (by rw [hll]; exact w1), R.atw, rx, Option.bind_some,
      k1 _ (by omega), Option.bind_some, if_pos rfl, R.lv, if_pos (by omega), if_pos (by omega), if_pos (by omega), if_pos (by omega), rd_nat, if_pos hz.2, rd_nat, if_pos hz.1, hwp.out, if_pos (by omega)]
  | succ d ih =>
    intro i hi
    obtain ⟨K, k0⟩ := ih (i + 1) (by omega)
    obtain ⟨K1, k1⟩ := and_two (a := (P ++ 0 :: X).getD i 0) (b := (P ++ 1 :: Y).getD i 0)
    have hv : mn (mn 1 ((P ++ 0 :: X).getD i 0)) ((P ++ 1 :: Y).getD i 0) = (P ++ 0 :: X).getD i 0 := by
      by_cases h : i < P.length
      · rw [getD_pre P 0 X h, getD_pre P 1 Y h]
        rcases hPb i h with e | e <;> rw [e] <;> decide
      · obtain rfl : i = P.length := by omega
        rw [getD_at, getD_at]; decide
    refine ⟨K + K1 + 1, fun k hk => ?_⟩
    obtain ⟨k, rfl⟩ : ∃ m, k = m + 1 := ⟨k - 1, by omega⟩
    simp only [phaetontop_TopLine.l1]
    rw [if_pos (by omega), if_pos (by omega), if_pos (by omega), if_pos (by omega), rd_nat, rd_nat, k1 _ (by omega), Option.bind_some, hv, if_pos rfl, H.wrap_succ (n := P.length + 1) (by omega) (by omega)]
    exact k0 k (by omega)
theorem line_l0 : ∀ d i : Nat, i + d = P.length → Ev (fun k => phaetontop_TopLine.l0 k true l w lost (P ++ 0 :: X) (P ++ 1 :: Y) (i : Int)) true := by
  have hA : (P ++ 0 :: X).length = P.length + X.length + 1 := by rw [List.length_append, List.length_cons]; omega
  have hB : (P ++ 1 :: Y).length = P.length + Y.length + 1 := by rw [List.length_append, List.length_cons]; omega
  intro d
  induction d with
  | zero =>
    intro i hi
    obtain rfl : i = P.length := by omega
    obtain ⟨K, k0⟩ := line_l1 R hPb hP hX hY hpP (P.length + 1) 0 (by omega)
    refine ⟨K + 3, fun k hk => ?_⟩
    obtain ⟨k, rfl⟩ : ∃ m, k = m + 3 := ⟨k - 3, by omega⟩
    simp only [phaetontop_TopLine.l0]
    rw [if_pos (by omega), if_pos (by omega), if_pos (by omega), rd_nat, rd_nat, getD_at, getD_at, if_neg (by decide)]
    simp only [phaetontop_TopLine.j3]
    rw [if_neg (by omega), if_neg (by omega), if_pos (by omega), if_pos (by omega), rd_nat, getD_at]
    simp only [phaetontop_TopLine.j4]
    rw [if_neg (by decide)]
    exact k0 k (by omega)
  | succ d ih =>
    intro i hi
    have hlt : i < P.length := by omega
    refine Ev.step (f := fun k => phaetontop_TopLine.l0 k true l w lost (P ++ 0 :: X) (P ++ 1 :: Y) ((i + 1 : Nat) : Int)) (fun k => ?_) (ih (i + 1) (by omega))
    simp only [phaetontop_TopLine.l0]
    rw [if_pos (by omega), if_pos (by omega), if_pos (by omega), rd_nat, rd_nat, getD_pre P 0 X hlt, getD_pre P 1 Y hlt, if_pos rfl, H.wrap_succ hlt (by omega)]
end
theorem line_j1 {l : List TFr} {x y : TFr} {w v : Int} {lost : List Int} {p : Nat} (R : Race l x y w v lost p) : Ev (fun k => phaetontop_TopLine.j1 k true l w lost false) true := by
  have hz := (rkT_RankL x).zero_one (rkT_RankL y) R.parts R.less
  have h1 := R.parts.1
  have h2 := R.parts.2.1
  have hll : (l.length : Int) = 2 := by rw [R.len]; rfl
  have hr1 := (rkT_RankL x).len
  obtain ⟨X, hx, lx⟩ := wire_split R.okx (p := p) h1
  obtain ⟨Y, hy, ly⟩ := wire_split R.oky (p := p) h2
  have ht : (rankF y.f0 y.f1 y.f2).take p = (rankF x.f0 x.f1 x.f2).take p := R.parts.2.2.1.symm
  have z0 : (rankF x.f0 x.f1 x.f2).getD p 0 = 0 := hz.1
  have z1 : (rankF y.f0 y.f1 y.f2).getD p 0 = 1 := hz.2
  rw [z0] at hx
  rw [ht, z1] at hy
  have hSb : ∀ b ∈ (0 : Int) :: (rankF x.f0 x.f1 x.f2).take p, Bit b := fun b hb => by
    rcases List.mem_cons.mp hb with rfl | hb
    · exact .inl rfl
    · exact (rkT_RankL x).1 b (List.mem_of_mem_take hb)
  have hSl : ((0 : Int) :: (rankF x.f0 x.f1 x.f2).take p).length = p + 1 := by
    have h3 : p < (rankF x.f0 x.f1 x.f2).length := h1
    rw [List.length_cons, List.length_take]; omega
  have hPl := H.stuffGo_len ((0 : Int) :: (rankF x.f0 x.f1 x.f2).take p) (-1, 0)
  have hPu : (stuffGo (-1, 0) ((0 : Int) :: (rankF x.f0 x.f1 x.f2).take p)).length ≤ 1000 := by
    have := H.stuffS_len ((0 : Int) :: (rankF x.f0 x.f1 x.f2).take p)
    have e := H.stuffB_go hSb
    unfold H.stuffB at e
    rw [e] at this
    omega
  have hPb := H.stuffGo_bits _ (-1, 0) hSb
  generalize stuffGo (-1, 0) ((0 : Int) :: (rankF x.f0 x.f1 x.f2).take p) = P at hx hy hPl hPu hPb
  obtain ⟨K, k0⟩ := line_l0 R (P := P) (X := X) (Y := Y) (fun i hi => hPb _ (rd_mem hi)) hPu lx ly (by omega) P.length 0 (by omega)
  refine ⟨K + 1, fun k hk => ?_⟩
  obtain ⟨k, rfl⟩ : ∃ m, k = m + 1 := ⟨k - 1, by omega⟩
  have w0 := R.w0
  have w1 := R.w1
  have v0 := R.v0
  have v1 := R.v1
  simp only [phaetontop_TopLine.j1]
  rw [if_neg (by simp), if_pos w0, if_pos (by rw [hll]; exact w1), R.atw, hx, Option.bind_some, R.wv, if_pos v0, if_pos (by rw [hll]; exact v1), R.atv, hy, Option.bind_some]
  exact k0 k (by omega)
theorem line_race {x y : TFr} (hx : TOk x) (hy : TOk y) (hn : rkT x ≠ rkT y) : ∃ w lost a b v p, arb_Win.f [x, y] = some w ∧ arb_Lost.f [x, y] = some lost ∧ (w = 0 ∨ w = 1) ∧ Race [x, y] a b w v lost p := by
  obtain ⟨p, hp⟩ := (rkT_RankL x).parts (rkT_RankL y) hn
  have e := ranksT (two_ok hx hy)
  have e' : arb_ranks [x, y] = [rkT x, rkT y] := e
  have ew : arb_Win.f [x, y] = some (arb_winB (arb_runs [rkT x, rkT y] 128).1 0) := by unfold arb_Win.f; rw [if_pos (by simp), e']
  have el : arb_Lost.f [x, y] = some (arb_runs [rkT x, rkT y] 128).2.1 := by unfold arb_Lost.f; rw [if_pos (by simp), e']
  have en : arb_Line.f [x, y] = some (arb_runs [rkT x, rkT y] 128).2.2 := by unfold arb_Line.f; rw [if_pos (by simp), e']
  rcases (rkT_RankL x).order (rkT_RankL y) hn with h | h
  · obtain ⟨r1, r2⟩ := race_l (rkT_RankL x) (rkT_RankL y) hp h
    rw [r1] at ew
    rw [r2] at el en
    exact ⟨0, _, x, y, 1, p, ew, el, .inl rfl, ⟨rfl, rfl, by decide, by decide, by decide, by decide, by unfold wrap64; omega, rfl, rfl, rfl, rfl, hx, hy, hp, h, en⟩⟩
  · obtain ⟨r1, r2⟩ := race_r (rkT_RankL y) (rkT_RankL x) hp.symm h
    rw [r1] at ew
    rw [r2] at el en
    exact ⟨1, _, y, x, 0, p, ew, el, .inr rfl, ⟨rfl, rfl, by decide, by decide, by decide, by decide, by unfold wrap64; omega, rfl, rfl, rfl, rfl, hy, hx, hp.symm, h, en⟩⟩
theorem line_j0 {e : Bool} {id : Int} {rm : Bool} {ln : Int} {d : List Int} {e' : Bool} {id' : Int} {rm' : Bool} {ln' : Int} {d' : List Int} (hF : FRight e id rm ln d) (hG : FRight e' id' rm' ln' d') (hn : rankF e id rm ≠ rankF e' id' rm') :
    Ev (fun k => phaetontop_TopLine.j0 k true false e id rm ln d e' id' rm' ln' d') true := by
  obtain ⟨w, lost, a, b, v, p, q1, q2, hw, R⟩ := line_race (x := ⟨e, id, rm, ln, d⟩) (y := ⟨e', id', rm', ln', d'⟩) hF hG hn
  obtain ⟨K, k0⟩ := line_j1 R
  refine ⟨K + 1, fun k hk => ?_⟩
  obtain ⟨k, rfl⟩ : ∃ m, k = m + 1 := ⟨k - 1, by omega⟩
  have hlo : (lost.length : Int) = 2 := by rw [R.lenL]; rfl
  have k1 := k0 k (by omega)
  dsimp only at k1
  simp only [phaetontop_TopLine.j0]
  rw [if_neg (by simp), Option.bind_some, q1, Option.bind_some, q2, Option.bind_some, R.lw]
  rcases hw with rfl | rfl
  · rw [if_pos rfl, if_pos hlo, if_pos (by decide), if_pos (by rw [hlo]; decide)]
    exact k1
  · rw [if_neg (by decide), if_pos rfl, if_pos hlo, if_pos (by decide), if_pos (by rw [hlo]; decide)]
    exact k1
theorem TopLine : phaetontop_TopLine.Pure := by
  intro e id rm ln d e' id' rm' ln' d' _ _ _ hwd _ _ _ hwd'
  obtain ⟨K0, hh⟩ := headT_k
  have hj : ∀ k, phaetontop_TopLine.j0 (k + 1) true true e id rm ln d e' id' rm' ln' d' = some true := fun k => by
    simp only [phaetontop_TopLine.j0]
    rw [if_pos trivial, if_pos trivial]
  by_cases g : (d.length : Int) > 8
  · refine ⟨K0 + 1, ?_⟩
    unfold phaetontop_TopLine.f
    rw [hh _ (by omega), Option.bind_some, if_pos g, hj]
  by_cases g' : (d'.length : Int) > 8
  · refine ⟨K0 + 1, ?_⟩
    unfold phaetontop_TopLine.f
    rw [hh _ (by omega), Option.bind_some, if_neg g, if_pos g', hj]
  by_cases hF : FRight e id rm ln d
  case neg =>
    refine ⟨K0 + 2, ?_⟩
    unfold phaetontop_TopLine.f
    rw [hh _ (by omega), Option.bind_some, if_neg g, if_neg g', r4right_k _ _ _ _ _ _ (by omega), Option.bind_some, decide_eq_false hF, if_neg (by simp), hj]
  by_cases hG : FRight e' id' rm' ln' d'
  case neg =>
    refine ⟨K0 + 2, ?_⟩
    unfold phaetontop_TopLine.f
    rw [hh _ (by omega), Option.bind_some, if_neg g, if_neg g', r4right_k _ _ _ _ _ _ (by omega), Option.bind_some, decide_eq_true hF, if_pos rfl, r4right_k _ _ _ _ _ _ (by omega), Option.bind_some, decide_eq_false hG, if_neg (by simp), hj]
  obtain ⟨K1, k1⟩ := rank_k (e := e) (id := id) rm ln d hF.1
  obtain ⟨K2, k2⟩ := rank_k (e := e') (id := id') rm' ln' d' hG.1
  have hl := (H.rankF_RankL e id rm).len
  obtain ⟨K3, k3⟩ := same2_k (rankF e id rm) (rankF e' id' rm') (by omega)
  by_cases hn : rankF e id rm = rankF e' id' rm'
  · rw [decide_eq_true hn] at k3
    refine ⟨K0 + K1 + K2 + K3 + 3, ?_⟩
    unfold phaetontop_TopLine.f
    rw [hh _ (by omega), Option.bind_some, if_neg g, if_neg g', r4right_k _ _ _ _ _ _ (by omega), Option.bind_some, decide_eq_true hF, if_pos rfl, r4right_k _ _ _ _ _ _ (by omega), Option.bind_some, decide_eq_true hG, if_pos rfl,
      k1 _ (by omega), Option.bind_some, k2 _ (by omega), Option.bind_some, k3 _ (by omega), Option.bind_some, hj]
  · rw [decide_eq_false hn] at k3
    obtain ⟨K4, k4⟩ := line_j0 hF hG hn
    refine ⟨K0 + K1 + K2 + K3 + K4 + 3, ?_⟩
    unfold phaetontop_TopLine.f
    rw [hh _ (by omega), Option.bind_some, if_neg g, if_neg g', r4right_k _ _ _ _ _ _ (by omega), Option.bind_some, decide_eq_true hF, if_pos rfl, r4right_k _ _ _ _ _ _ (by omega), Option.bind_some, decide_eq_true hG, if_pos rfl,
      k1 _ (by omega), Option.bind_some, k2 _ (by omega), Option.bind_some, k3 _ (by omega), Option.bind_some]
    exact k4 _ (by omega)
end Go.Proofs.Ytechlakahpkdpaa.Pure
