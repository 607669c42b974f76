/- Of texts whose counts go round, of which some are lost, up to as many as may be in a row, and some come twice, who trusts takes each one that comes once, in order; what is lost is known as a gap. -/
import Derived.Test.YtfjffajmagefkaaPx10
import Derived.Test.YtfjffajmagefkaaPureTrustCheck
set_option linter.unusedVariables false
namespace Go.Proofs.Ytfjffajmagefkaa.Pure
open Go.RowKit Go.Proofs.Ytfjffajmagefkaa.PB Go.Proofs.Ytfjffajmagefkaa.Px Go.Proofs.YtfjffajmagefkaaW.PrintWords Go.Proofs.YtfjffajmagefkaaW.PrintLast Go.Proofs.YtfjffajmagefkaaW.PrintMore
/-- What a trust makes of what was wrapped. -/
theorem row_wrapped (b0 : Bool) (n1 n2 n3 a c : Int) (l : List Int) (most : Int) (h1 : a / 65536 = 0) (h2 : 0 ≤ c) (h3 : c < 15) (h4 : l.length ≤ 6) :
    checkT b0 n1 n2 n3 a (tsum a c l :: c :: l) most = (if kindT b0 n1 c most = 3 ∨ kindT b0 n1 c most = 6 then (true, c, kindT b0 n1 c most, wrap64 (n3 + 1), [], kindT b0 n1 c most) else (true, c, kindT b0 n1 c most, 0, l, kindT b0 n1 c most)) := by
  unfold checkT
  rw [(open_wrap a c l h1 h2 h3 h4).2, if_pos rfl]
theorem row_U8 (a c : Int) (l : List Int) (h2 : 0 ≤ c) (h3 : c < 15) (hl : ∀ x ∈ l, H.U8 x) : ∀ x ∈ tsum a c l :: c :: l, H.U8 x := fun x hx => by
  rcases List.mem_cons.mp hx with rfl | hx
  · exact tsum_U8 _ _ _
  rcases List.mem_cons.mp hx with rfl | hx
  · unfold H.U8; omega
  · exact hl x hx
/-- Where a row of texts stands: c of them are lost since the last one that was taken. -/
def Stand (K : Int) (i c : Nat) (on : Bool) (n1 : Int) : Prop := (on = false → c = 0) ∧ (on = true → (c : Int) + 1 ≤ K ∧ c + 1 ≤ i ∧ n1 = (((i - 1 - c) % 15 : Nat) : Int))
theorem stand_kind {K : Int} {i c : Nat} {on : Bool} {n1 : Int} (hK : K ≤ 14) (h : Stand K i c on n1) : kindT on n1 ((i % 15 : Nat) : Int) K = if on = true then (if c = 0 then 1 else 4) else 2 := by
  unfold kindT
  cases on with
  | false => rw [if_neg (by decide), if_neg (by decide)]
  | true =>
    obtain ⟨h1, h2, h3⟩ := h.2 rfl
    have hm : (((i % 15 : Nat) : Int) - n1 + 15) % 15 = (c : Int) + 1 := by rw [h3]; omega
    rw [if_pos rfl, if_pos rfl, hm, if_neg (by omega)]
    by_cases c0 : c = 0
    · rw [if_pos (by omega), if_pos c0]
    · rw [if_neg (by omega), if_neg c0, if_pos h1]
theorem stand_next {K : Int} {i c : Nat} {n1 : Int} (h : Stand K i c true n1) (cl : (c : Int) + 2 ≤ K) : Stand K (i + 1) (c + 1) true n1 := by
  obtain ⟨h1, h2, h3⟩ := h.2 rfl
  have e : i + 1 - 1 - (c + 1) = i - 1 - c := by omega
  exact ⟨fun h => (by cases h), fun _ => ⟨by omega, by omega, by rw [h3, e]⟩⟩
theorem stand_taken (K : Int) (i : Nat) (hK : 1 ≤ K) : Stand K (i + 1) 0 true ((i % 15 : Nat) : Int) := ⟨fun h => (by cases h), fun _ => ⟨by omega, by omega, by rw [Nat.add_sub_cancel, Nat.sub_zero]⟩⟩
theorem tmod15 (i : Nat) : Int.tmod (i : Int) 15 = ((i % 15 : Nat) : Int) := by rw [Int.tmod_eq_emod_of_nonneg (by omega)]; omega
theorem wrap_one {n : Nat} (h : n ≤ 1000) : wrap64 ((n : Int) + 1) = ((n + 1 : Nat) : Int) := by unfold wrap64; omega
theorem wrap_two {n : Nat} (h : n ≤ 1000) : wrap64 ((n : Int) + 2) = (n : Int) + 2 := by unfold wrap64; omega
section
variable (a : Int) (l : List (List Int)) (fs : List Int) (K : Int) (ha : a / 65536 = 0) (hw : wrap64 a = a) (hl : l.length ≤ 60) (hf : l.length ≤ fs.length) (hu : ∀ e ∈ l, ∀ x ∈ e, H.U8 x)
include ha hw hl hf hu
theorem row_j3 (i : Nat) (hi : i < l.length) (he : (l.getD i []).length ≤ 6) (n2 : Int) (ih : ∀ n2 n3 : Int, Ev (fun k => phaetonlaw16_TrustRow.l0 k a l fs true K 0 ((i + 1 : Nat) : Int) true ((i % 15 : Nat) : Int) n2 n3) true) :
    Ev (fun k => phaetonlaw16_TrustRow.j3 k a l fs true K (i : Int) (tsum a ((i % 15 : Nat) : Int) (l.getD i []) :: ((i % 15 : Nat) : Int) :: l.getD i []) false true ((i % 15 : Nat) : Int) n2 0) true := by
  have hE : ∀ x ∈ l.getD i [], H.U8 x := by
    rw [List.getD_eq_getElem?_getD, List.getElem?_eq_getElem hi]; exact hu _ (List.getElem_mem hi)
  have hs := wrap_one (n := i) (by omega)
  have q1 : (0 : Int) ≤ (i : Int) := by omega
  have q2 : (i : Int) < (fs.length : Int) := by omega
  by_cases cf : Int.tmod (rd fs (i : Int)) 3 = 2
  · have hk : kindT true ((i % 15 : Nat) : Int) ((i % 15 : Nat) : Int) K = 3 := by unfold kindT; rw [if_pos rfl, if_pos (by omega)]
    have hc : trust_Check.f true ((i % 15 : Nat) : Int) n2 0 a (tsum a ((i % 15 : Nat) : Int) (l.getD i []) :: ((i % 15 : Nat) : Int) :: l.getD i []) K = some (true, ((i % 15 : Nat) : Int), 3, wrap64 (0 + 1), [], 3) := by
      rw [check_eq _ _ _ _ _ _ _ (row_U8 _ _ _ (by omega) (by omega) hE) (fun _ => by omega), row_wrapped _ _ _ _ _ _ _ _ ha (by omega) (by omega) he, hk, if_pos (.inl rfl)]
    refine Ev.step (fun k => ?_) (ih 3 1)
    rw [phaetonlaw16_TrustRow.j3.eq_2, if_neg (by decide), if_pos q1, if_pos q2, if_pos cf, hw, hc, Option.bind_some]
    dsimp only
    rw [show wrap64 (0 + 1) = 1 by unfold wrap64; omega, if_pos rfl, if_pos (show (([] : List Int).length : Int) = 0 from rfl), if_pos rfl, hs]
  · refine Ev.step (fun k => ?_) (ih n2 0)
    rw [phaetonlaw16_TrustRow.j3.eq_2, if_neg (by decide), if_pos q1, if_pos q2, if_neg cf, hs]
theorem row_j2 (hK2 : K ≤ 14) (i : Nat) (hi : i < l.length) (he : (l.getD i []).length ≤ 6) (c : Nat) (on : Bool) (n1 n2 n3 : Int) (hS : Stand K i c on n1) (ih : ∀ n2 n3 : Int, Ev (fun k => phaetonlaw16_TrustRow.l0 k a l fs true K 0 ((i + 1 : Nat) : Int) true ((i % 15 : Nat) : Int) n2 n3) true) :
    Ev (fun k => phaetonlaw16_TrustRow.j2 k a l fs true K (c : Int) (i : Int) (tsum a ((i % 15 : Nat) : Int) (l.getD i []) :: ((i % 15 : Nat) : Int) :: l.getD i []) false on n1 n2 n3) true := by
  have hE : ∀ x ∈ l.getD i [], H.U8 x := by
    rw [List.getD_eq_getElem?_getD, List.getElem?_eq_getElem hi]; exact hu _ (List.getElem_mem hi)
  have hk := stand_kind hK2 hS
  have hr : rd_L1 l (i : Int) = l.getD i [] := by unfold rd_L1; rw [Int.toNat_natCast]
  have hq : ¬ (kindT on n1 ((i % 15 : Nat) : Int) K = 3 ∨ kindT on n1 ((i % 15 : Nat) : Int) K = 6) := by
    rw [hk]; repeat' split
    all_goals decide
  have hc : trust_Check.f on n1 n2 n3 a (tsum a ((i % 15 : Nat) : Int) (l.getD i []) :: ((i % 15 : Nat) : Int) :: l.getD i []) K = some (true, ((i % 15 : Nat) : Int), kindT on n1 ((i % 15 : Nat) : Int) K, 0, l.getD i [], kindT on n1 ((i % 15 : Nat) : Int) K) := by
    rw [check_eq _ _ _ _ _ _ _ (row_U8 _ _ _ (by omega) (by omega) hE) (fun h => by have := (hS.2 h).2.2; omega), row_wrapped _ _ _ _ _ _ _ _ ha (by omega) (by omega) he, if_neg hq]
  have hj := row_j3 a l fs K ha hw hl hf hu i hi he (kindT on n1 ((i % 15 : Nat) : Int) K) ih
  refine Ev.step (fun k => ?_) hj
  rw [phaetonlaw16_TrustRow.j2.eq_2, if_neg (by decide), hw, hc, Option.bind_some, if_pos (by omega), if_pos (by omega), hr, sameBytes, Option.bind_some, if_pos rfl]
  dsimp only
  cases on with
  | false =>
    have h0 := hS.1 rfl
    rw [if_neg (show ¬ (false = true) by decide)] at hk
    rw [if_neg (show ¬ (false = true) by decide), hk, if_pos rfl]
    rfl
  | true =>
    rw [if_pos rfl] at hk
    rw [if_pos rfl, hk]
    by_cases c0 : c = 0
    · rw [if_pos (by omega), if_pos c0, if_pos rfl, if_neg (by omega)]
      rfl
    · rw [if_neg (by omega), if_neg c0, if_pos (by omega), if_pos rfl]
      rfl
theorem row_l0 (hK1 : 1 ≤ K) (hK2 : K ≤ 14) : ∀ d i : Nat, i + d = l.length → ∀ (c : Nat) (on : Bool) (n1 n2 n3 : Int), Stand K i c on n1 → Ev (fun k => phaetonlaw16_TrustRow.l0 k a l fs true K (c : Int) (i : Int) on n1 n2 n3) true := by
  intro d
  induction d with
  | zero =>
    intro i hi c on n1 n2 n3 hS
    refine Ev.step (f := fun _ => some true) (fun k => ?_) (Ev.now _)
    rw [phaetonlaw16_TrustRow.l0.eq_2, if_neg (by omega), if_pos rfl]
  | succ d ih =>
    intro i hi c on n1 n2 n3 hS
    have hlt : i < l.length := by omega
    have hr : rd_L1 l (i : Int) = l.getD i [] := by unfold rd_L1; rw [Int.toNat_natCast]
    by_cases he : (l.getD i []).length ≤ 6
    case neg =>
      refine Ev.step (f := fun _ => some true) (fun k => ?_) (Ev.now _)
      rw [phaetonlaw16_TrustRow.l0.eq_2, if_pos (by omega), if_pos (by omega), hr, if_pos (by omega), if_pos rfl]
    have ht := tmod15 i
    have hwr : trust_Wrap.f a ((i % 15 : Nat) : Int) (l.getD i []) = some (tsum a ((i % 15 : Nat) : Int) (l.getD i []) :: ((i % 15 : Nat) : Int) :: l.getD i [], true) := by
      clear ht
      rw [wrap_eq, (open_wrap a ((i % 15 : Nat) : Int) (l.getD i []) ha (by omega) (by omega) he).1]
    have hnext : ∀ n2 n3 : Int, Ev (fun k => phaetonlaw16_TrustRow.l0 k a l fs true K 0 ((i + 1 : Nat) : Int) true ((i % 15 : Nat) : Int) n2 n3) true := fun n2 n3 =>
      ih (i + 1) (by clear ht; omega) 0 true ((i % 15 : Nat) : Int) n2 n3 (stand_taken K i hK1)
    have hj2 := row_j2 a l fs K ha hw hl hf hu hK2 i hlt he c on n1 n2 n3 hS hnext
    have q0 : (i : Int) < (l.length : Int) := by clear ht; omega
    have q1 : (0 : Int) ≤ (i : Int) := by clear ht; omega
    have q2 : (i : Int) < (fs.length : Int) := by clear ht; omega
    have q3 : ¬ ((l.getD i []).length : Int) > 6 := by clear ht; omega
    have hi60 : i ≤ 1000 := by clear ht; omega
    by_cases cf : Int.tmod (rd fs (i : Int)) 3 = 1
    · by_cases cl : wrap64 ((c : Int) + 2) ≤ K
      · cases on with
        | false =>
          refine Ev.step (fun k => ?_) hj2
          rw [phaetonlaw16_TrustRow.l0.eq_2, if_pos q0, if_pos q1, hr, if_neg q3, hw, ht, hwr, Option.bind_some, if_pos rfl, if_pos q2, if_pos cf, if_pos cl]
        | true =>
          have hc14 : c ≤ 1000 := by have := (hS.2 rfl).1; clear ht cf cl; omega
          have hc2 := wrap_two hc14
          rw [hc2] at cl
          have h := ih (i + 1) (by clear ht cf; omega) (c + 1) true n1 n2 n3 (stand_next hS cl)
          have hs := wrap_one hi60
          have hcs := wrap_one hc14
          have h2 : Ev (fun k => phaetonlaw16_TrustRow.j2 k a l fs true K (c : Int) (i : Int) (tsum a ((i % 15 : Nat) : Int) (l.getD i []) :: ((i % 15 : Nat) : Int) :: l.getD i []) true true n1 n2 n3) true := by
            refine Ev.step (fun k => ?_) h
            rw [phaetonlaw16_TrustRow.j2.eq_2, if_pos rfl, hs, hcs]
          refine Ev.step (fun k => ?_) h2
          rw [phaetonlaw16_TrustRow.l0.eq_2, if_pos q0, if_pos q1, hr, if_neg q3, hw, ht, hwr, Option.bind_some, if_pos rfl, if_pos q2, if_pos cf, hc2, if_pos cl]
      · refine Ev.step (fun k => ?_) hj2
        rw [phaetonlaw16_TrustRow.l0.eq_2, if_pos q0, if_pos q1, hr, if_neg q3, hw, ht, hwr, Option.bind_some, if_pos rfl, if_pos q2, if_pos cf, if_neg cl]
    · refine Ev.step (fun k => ?_) hj2
      rw [phaetonlaw16_TrustRow.l0.eq_2, if_pos q0, if_pos q1, hr, if_neg q3, hw, ht, hwr, Option.bind_some, if_pos rfl, if_pos q2, if_neg cf]
end
theorem row_end (a a3 : Int) (l : List (List Int)) (fs : List Int) (m : Nat) : phaetonlaw16_TrustRow.j0 (m + 1) a l fs a3 true true = some true := by
  rw [phaetonlaw16_TrustRow.j0.eq_2, if_pos rfl, if_pos rfl]
theorem TrustRow : phaetonlaw16_TrustRow.Pure := by
  intro a l fs a3 h0 _ hl1 _ _ _ h3
  have hU : ∀ e ∈ l, ∀ x ∈ e, H.U8 x := fun e he x hx => H.of_wf8 (hl1 e he x hx)
  have h3' : H.U8 a3 := H.of_wf8 h3
  have ha : 0 ≤ a ∧ a < 65536 := by
    simp only [Lit.wf, IntKind.min, IntKind.max, IntKind.signed, IntKind.bits, Bool.and_eq_true] at h0
    simp at h0
    omega
  obtain ⟨K0, hh⟩ := head16_k
  by_cases c1 : (l.length : Int) > 60
  · refine ⟨K0 + 1, ?_⟩
    unfold phaetonlaw16_TrustRow.f
    rw [hh _ (by omega), Option.bind_some, if_pos c1]
    exact row_end a a3 l fs K0
  by_cases c2 : (fs.length : Int) < (l.length : Int)
  · refine ⟨K0 + 1, ?_⟩
    unfold phaetonlaw16_TrustRow.f
    rw [hh _ (by omega), Option.bind_some, if_neg c1, decide_eq_true c2]
    exact row_end a a3 l fs K0
  have hw : wrap64 a = a := by unfold wrap64; omega
  have hK : wrap64 (Int.tmod (wrap64 a3) 14 + 1) = a3 % 14 + 1 := by
    unfold H.U8 at h3'
    have e1 : wrap64 a3 = a3 := by unfold wrap64; omega
    have e2 : Int.tmod a3 14 = a3 % 14 := Int.tmod_eq_emod_of_nonneg (by omega)
    rw [e1, e2]
    unfold wrap64; omega
  obtain ⟨K1, k1⟩ := ev_all (row_l0 a l fs (a3 % 14 + 1) (by omega) hw (by omega) (by omega) hU (by omega) (by omega) l.length 0 (by omega) 0 false 0 0 0 ⟨fun _ => rfl, fun h => (by cases h)⟩)
  refine ⟨K0 + K1 + 1, ?_⟩
  unfold phaetonlaw16_TrustRow.f
  rw [hh _ (by omega), Option.bind_some, if_neg c1, decide_eq_false c2, phaetonlaw16_TrustRow.j0.eq_2, if_neg (by decide), show trust_New.f = some (false, 0, 0, 0) from rfl, Option.bind_some, hK]
  exact k1 _ (by omega)
end Go.Proofs.Ytfjffajmagefkaa.Pure
