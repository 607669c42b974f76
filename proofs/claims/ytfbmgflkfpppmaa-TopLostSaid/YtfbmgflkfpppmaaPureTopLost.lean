/- Of guarded frames, of which a bus dropped some, who trusts takes those that came, as they were, and knows of each gap up to as many as may be. -/
import Derived.Test.YtfbmgflkfpppmaaPx6
import Derived.Test.YtfbmgflkfpppmaaPureTrustCheck
import Derived.Test.YtfbmgflkfpppmaaPureRef01
set_option linter.unusedVariables false
set_option linter.unusedSimpArgs false
namespace Go.Proofs.Ytfbmgflkfpppmaa.Pure
open Go.RowKit Go.Proofs.Ytfbmgflkfpppmaa.PB Go.Proofs.Ytfbmgflkfpppmaa.Px Go.Proofs.YtfbmgflkfpppmaaW.PrintWords Go.Proofs.YtfbmgflkfpppmaaW.PrintLast Go.Proofs.YtfbmgflkfpppmaaW.PrintMore
/-- What a trust makes of what was wrapped. -/
theorem lost_wrapped (b0 : Bool) (n1 n2 n3 a c : Int) (l : List Int) (most : Int) (h1 : a / 65536 = 0) (h2 : 0 ≤ c) (h3 : c < 15) (h4 : l.length ≤ 6) :
    checkT b0 n1 n2 n3 a (tsum a c l :: c :: l) most = (if kindT b0 n1 c most = 3 ∨ kindT b0 n1 c most = 6 then (true, c, kindT b0 n1 c most, wrap64 (n3 + 1), [], kindT b0 n1 c most) else (true, c, kindT b0 n1 c most, 0, l, kindT b0 n1 c most)) := by
  unfold checkT
  rw [(open_wrap a c l h1 h2 h3 h4).2, if_pos rfl]
theorem lost_U8 (a c : Int) (l : List Int) (h2 : 0 ≤ c) (h3 : c < 15) (hl : ∀ x ∈ l, H.U8 x) : ∀ x ∈ tsum a c l :: c :: l, H.U8 x := fun x hx => by
  rcases List.mem_cons.mp hx with rfl | hx
  · exact tsum_U8 _ _ _
  rcases List.mem_cons.mp hx with rfl | hx
  · unfold H.U8; omega
  · exact hl x hx
/-- Which text was taken last. -/
def Last (last : Int) (i : Nat) (on : Bool) (n1 : Int) : Prop := (on = false ∧ last = -1) ∨ (on = true ∧ ∃ j : Nat, j < i ∧ last = (j : Int) ∧ n1 = ((j % 15 : Nat) : Int))
theorem lost_tmod (i : Nat) : Int.tmod (i : Int) 15 = ((i % 15 : Nat) : Int) := by rw [Int.tmod_eq_emod_of_nonneg (by omega)]; omega
theorem Last.next {last : Int} {i : Nat} {on : Bool} {n1 : Int} (h : Last last i on n1) : Last last (i + 1) on n1 := by
  rcases h with h | ⟨h1, j, h2, h3, h4⟩
  · exact .inl h
  · exact .inr ⟨h1, j, by omega, h3, h4⟩
theorem Last.taken (i : Nat) : Last (i : Int) (i + 1) true ((i % 15 : Nat) : Int) := .inr ⟨rfl, i, Nat.lt_succ_self i, rfl, rfl⟩
theorem lost_l0 (a : Int) (l : List (List Int)) (keep : List Bool) (ha : a / 65536 = 0) (HW : Aside0 (wrap64 a = a)) (hl : l.length ≤ 30) (hk : l.length ≤ keep.length) (hu : ∀ e ∈ l, ∀ x ∈ e, H.U8 x) :
    ∀ d i : Nat, i + d = l.length → ∀ (last : Int) (on : Bool) (n1 n2 n3 : Int), Last last i on n1 → Ev (fun k => phaetontop_TopLost.l0 k l keep a true last (i : Int) on n1 n2 n3) true := by
  intro d
  induction d with
  | zero =>
    intro i hi last on n1 n2 n3 hL
    refine Ev.step (f := fun _ => some true) (fun k => ?_) (Ev.now _)
    simp only [phaetontop_TopLost.l0]
    rw [if_neg (by omega), if_pos trivial]
  | succ d ih =>
    intro i hi last on n1 n2 n3 hL
    have hlt : i < l.length := by omega
    have hE : ∀ x ∈ l.getD i [], H.U8 x := by
      rw [List.getD_eq_getElem?_getD, List.getElem?_eq_getElem hlt]; exact hu _ (List.getElem_mem hlt)
    have hr : rd_L1 l (i : Int) = l.getD i [] := by unfold rd_L1; rw [Int.toNat_natCast]
    have HT := Aside0.mk (lost_tmod i)
    by_cases g : ((l.getD i []).length : Int) > 6
    · refine Ev.step (f := fun _ => some true) (fun k => ?_) (Ev.now _)
      simp only [phaetontop_TopLost.l0]
      rw [if_pos (by omega), if_pos (by omega), hr, if_pos g, if_pos trivial]
    have he : (l.getD i []).length ≤ 6 := by omega
    have c0 : (0 : Int) ≤ ((i % 15 : Nat) : Int) := by omega
    have c1 : ((i % 15 : Nat) : Int) < 15 := by omega
    have hwr : trust_Wrap.f a ((i % 15 : Nat) : Int) (l.getD i []) = some (tsum a ((i % 15 : Nat) : Int) (l.getD i []) :: ((i % 15 : Nat) : Int) :: l.getD i [], true) := by
      rw [wrap_eq, (open_wrap a _ _ ha c0 c1 he).1]
    have HS := Aside0.mk (H.wrap_succ hlt (show l.length ≤ 4611686018427387904 by omega))
    cases hb : rdOf false keep (i : Int) with
    | false =>
      refine Ev.step (f := fun k => phaetontop_TopLost.l0 k l keep a true last ((i + 1 : Nat) : Int) on n1 n2 n3) (fun k => ?_) (ih (i + 1) (by omega) last on n1 n2 n3 hL.next)
      simp only [phaetontop_TopLost.l0]
      rw [if_pos (by omega), if_pos (by omega), hr, if_neg g, HW.out, HT.out, hwr, Option.bind_some, if_pos rfl, if_pos (by omega), hb, if_neg (by simp), HS.out]
    | true =>
      have hsame := sameBytes (l.getD i [])
      rcases hL with ⟨rfl, rfl⟩ | ⟨rfl, j, hj, rfl, rfl⟩
      · have hkd : kindT false n1 ((i % 15 : Nat) : Int) 14 = 2 := by unfold kindT; rw [if_neg (by decide)]
        have hc : trust_Check.f false n1 n2 n3 a (tsum a ((i % 15 : Nat) : Int) (l.getD i []) :: ((i % 15 : Nat) : Int) :: l.getD i []) 14 = some (true, ((i % 15 : Nat) : Int), 2, 0, l.getD i [], 2) := by
          rw [check_eq _ _ _ _ _ _ _ (lost_U8 _ _ _ c0 c1 hE) (fun h => by cases h), lost_wrapped _ _ _ _ _ _ _ _ ha c0 c1 he, hkd, if_neg (by decide)]
        refine Ev.step (f := fun k => phaetontop_TopLost.l0 k l keep a true (i : Int) ((i + 1 : Nat) : Int) true ((i % 15 : Nat) : Int) 2 0) (fun k => ?_) (ih (i + 1) (by omega) _ _ _ _ _ (Last.taken i))
        simp only [phaetontop_TopLost.l0]
        rw [if_pos (by omega), if_pos (by omega), hr, if_neg g, HW.out, HT.out, hwr, Option.bind_some, if_pos rfl, if_pos (by omega), hb, if_pos rfl, hc, Option.bind_some]
        dsimp only
        rw [if_pos (by decide), if_pos rfl, if_neg (by decide), hsame, Option.bind_some, if_pos rfl, HS.out]
      · have hd0 : Int.tmod (wrap64 ((i : Int) - (j : Int))) 15 = (((i - j) % 15 : Nat) : Int) := by
          rw [show wrap64 ((i : Int) - (j : Int)) = ((i - j : Nat) : Int) by unfold wrap64; omega, lost_tmod]
        have HD := Aside0.mk hd0
        clear hd0
        have hm : (((i % 15 : Nat) : Int) - ((j % 15 : Nat) : Int) + 15) % 15 = (((i - j) % 15 : Nat) : Int) := by omega
        have hj0 : ¬ ((j : Int) < 0) := by omega
        by_cases e0 : (i - j) % 15 = 0
        · have hkd : kindT true ((j % 15 : Nat) : Int) ((i % 15 : Nat) : Int) 14 = 3 := by unfold kindT; rw [if_pos rfl, hm, if_pos (by omega)]
          have hc : trust_Check.f true ((j % 15 : Nat) : Int) n2 n3 a (tsum a ((i % 15 : Nat) : Int) (l.getD i []) :: ((i % 15 : Nat) : Int) :: l.getD i []) 14 = some (true, ((i % 15 : Nat) : Int), 3, wrap64 (n3 + 1), [], 3) := by
            rw [check_eq _ _ _ _ _ _ _ (lost_U8 _ _ _ c0 c1 hE) (fun _ => by omega), lost_wrapped _ _ _ _ _ _ _ _ ha c0 c1 he, hkd, if_pos (.inl rfl)]
          have e0' : (((i - j) % 15 : Nat) : Int) = 0 := by omega
          refine Ev.step (f := fun k => phaetontop_TopLost.l0 k l keep a true (i : Int) ((i + 1 : Nat) : Int) true ((i % 15 : Nat) : Int) 3 (wrap64 (n3 + 1))) (fun k => ?_) (ih (i + 1) (by omega) _ _ _ _ _ (Last.taken i))
          simp only [phaetontop_TopLost.l0]
          rw [if_pos (by omega), if_pos (by omega), hr, if_neg g, HW.out, HT.out, hwr, Option.bind_some, if_pos rfl, if_pos (by omega), hb, if_pos rfl, hc, Option.bind_some]
          dsimp only
          rw [if_neg hj0, HD.out, if_pos e0', if_pos rfl, if_pos trivial, if_pos (show (([] : List Int).length : Int) = 0 from rfl), HS.out]
        · by_cases e1 : (i - j) % 15 = 1
          · have hkd : kindT true ((j % 15 : Nat) : Int) ((i % 15 : Nat) : Int) 14 = 1 := by unfold kindT; rw [if_pos rfl, hm, if_neg (by omega), if_pos (by omega)]
            have hc : trust_Check.f true ((j % 15 : Nat) : Int) n2 n3 a (tsum a ((i % 15 : Nat) : Int) (l.getD i []) :: ((i % 15 : Nat) : Int) :: l.getD i []) 14 = some (true, ((i % 15 : Nat) : Int), 1, 0, l.getD i [], 1) := by
              rw [check_eq _ _ _ _ _ _ _ (lost_U8 _ _ _ c0 c1 hE) (fun _ => by omega), lost_wrapped _ _ _ _ _ _ _ _ ha c0 c1 he, hkd, if_neg (by decide)]
            have e0' : ¬ (((i - j) % 15 : Nat) : Int) = 0 := by omega
            have e1' : (((i - j) % 15 : Nat) : Int) = 1 := by omega
            refine Ev.step (f := fun k => phaetontop_TopLost.l0 k l keep a true (i : Int) ((i + 1 : Nat) : Int) true ((i % 15 : Nat) : Int) 1 0) (fun k => ?_) (ih (i + 1) (by omega) _ _ _ _ _ (Last.taken i))
            simp only [phaetontop_TopLost.l0]
            rw [if_pos (by omega), if_pos (by omega), hr, if_neg g, HW.out, HT.out, hwr, Option.bind_some, if_pos rfl, if_pos (by omega), hb, if_pos rfl, hc, Option.bind_some]
            dsimp only
            rw [if_neg hj0, HD.out, if_neg e0', if_pos e1', if_pos rfl, if_neg (by decide), hsame, Option.bind_some, if_pos rfl, HS.out]
          · have hkd : kindT true ((j % 15 : Nat) : Int) ((i % 15 : Nat) : Int) 14 = 4 := by unfold kindT; rw [if_pos rfl, hm, if_neg (by omega), if_neg (by omega), if_pos (by omega)]
            have hc : trust_Check.f true ((j % 15 : Nat) : Int) n2 n3 a (tsum a ((i % 15 : Nat) : Int) (l.getD i []) :: ((i % 15 : Nat) : Int) :: l.getD i []) 14 = some (true, ((i % 15 : Nat) : Int), 4, 0, l.getD i [], 4) := by
              rw [check_eq _ _ _ _ _ _ _ (lost_U8 _ _ _ c0 c1 hE) (fun _ => by omega), lost_wrapped _ _ _ _ _ _ _ _ ha c0 c1 he, hkd, if_neg (by decide)]
            have e0' : ¬ (((i - j) % 15 : Nat) : Int) = 0 := by omega
            have e1' : ¬ (((i - j) % 15 : Nat) : Int) = 1 := by omega
            refine Ev.step (f := fun k => phaetontop_TopLost.l0 k l keep a true (i : Int) ((i + 1 : Nat) : Int) true ((i % 15 : Nat) : Int) 4 0) (fun k => ?_) (ih (i + 1) (by omega) _ _ _ _ _ (Last.taken i))
            simp only [phaetontop_TopLost.l0]
            rw [if_pos (by omega), if_pos (by omega), hr, if_neg g, HW.out, HT.out, hwr, Option.bind_some, if_pos rfl, if_pos (by omega), hb, if_pos rfl, hc, Option.bind_some]
            dsimp only
            rw [if_neg hj0, HD.out, if_neg e0', if_neg e1', if_pos rfl, if_neg (by decide), hsame, Option.bind_some, if_pos rfl, HS.out]
theorem TopLost : phaetontop_TopLost.Pure := by
  intro l keep a _ hl1 _ _ h0
  have hU : ∀ e ∈ l, ∀ x ∈ e, H.U8 x := fun e he x hx => H.of_wf8 (hl1 e he x hx)
  have ha : 0 ≤ a ∧ a < 65536 := by
    simp only [Lit.wf, IntKind.min, IntKind.max, IntKind.signed, IntKind.bits, Bool.and_eq_true] at h0
    simp at h0
    omega
  have hh : phaetontop_head16.f = some true := rfl
  have hj : phaetontop_TopLost.j0 1 l keep a true true = some true := by
    simp only [phaetontop_TopLost.j0]
    rw [if_pos trivial, if_pos trivial]
  by_cases c1 : (l.length : Int) > 30
  · refine ⟨1, ?_⟩
    unfold phaetontop_TopLost.f
    rw [hh, Option.bind_some, if_pos c1, hj]
  by_cases c2 : (keep.length : Int) < (l.length : Int)
  · refine ⟨1, ?_⟩
    unfold phaetontop_TopLost.f
    rw [hh, Option.bind_some, if_neg c1, decide_eq_true c2, hj]
  have hw : wrap64 a = a := by unfold wrap64; omega
  have HW := Aside0.mk hw
  clear hw
  obtain ⟨K1, k1⟩ := lost_l0 a l keep (by omega) HW (by omega) (by omega) hU l.length 0 (by omega) (-1) false 0 0 0 (.inl ⟨rfl, rfl⟩)
  refine ⟨K1 + 1, ?_⟩
  unfold phaetontop_TopLost.f
  rw [hh, Option.bind_some, if_neg c1, decide_eq_false c2]
  simp only [phaetontop_TopLost.j0]
  rw [if_neg (by simp), show trust_New.f = some (false, 0, 0, 0) from rfl, Option.bind_some]
  exact k1 _ (by omega)
end Go.Proofs.Ytfbmgflkfpppmaa.Pure
