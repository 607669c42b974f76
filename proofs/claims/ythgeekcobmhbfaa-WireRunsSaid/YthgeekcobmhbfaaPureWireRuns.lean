/- Within what is stuffed no six bits one behind the other are alike; how many bits a frame has. -/
import Derived.Test.YthgeekcobmhbfaaPx17
import Derived.Test.YthgeekcobmhbfaaPureSent
import Derived.Test.YthgeekcobmhbfaaPureFHRef
import Derived.Test.YthgeekcobmhbfaaHandStuffTell
set_option linter.unusedVariables false
set_option linter.unusedSimpArgs false
namespace Go.Proofs.Ythgeekcobmhbfaa.PB
open Go.RowKit Go.Proofs.Ythgeekcobmhbfaa.Px Go.Proofs.YthgeekcobmhbfaaW.PrintWords Go.Proofs.YthgeekcobmhbfaaW.PrintLast Go.Proofs.YthgeekcobmhbfaaW.PrintMore
open Go.Proofs.Ythgeekcobmhbfaa.H (IdOk rankF bitI bitsOf spreadB Bit runS tellS)
def mostI (e : Bool) (n : Nat) : Int := (if e = true then 54 else 34) + 8 * (n : Int) + ((if e = true then 54 else 34) + 8 * (n : Int) - 1) / 4 + 10
theorem most_k : ∀ (e : Bool) (n : Nat), n < 9 → wire_Most.f e (n : Int) = some (mostI e n) := by decide +kernel
theorem sent_most {e : Bool} {id : Int} {rm : Bool} {ln : Int} {d : List Int} (h : FRight e id rm ln d) : ((sentF (headF e id rm ln d)).length : Int) ≤ mostI e d.length := by
  have hb := H.rightB_mem (body_right (headF_right e id rm ln d))
  have hl := headF_len e id rm ln d
  have hbl := body_len (headF e id rm ln d)
  have h1 := H.stuff_most _ (-1, 0) hb H.Ok.start
  have h2 := H.stuffE_pos _ (-1, 0) hb H.Ok.start (.inr (by intro k; rw [k, List.length_nil] at hbl; omega))
  rw [sentF_len]
  unfold stuffF
  rw [H.stuffB_go hb]
  unfold mostI
  dsimp only at h1 h2
  cases e with
  | false => rw [if_neg (by simp)] at hl ⊢; omega
  | true => rw [if_pos rfl] at hl ⊢; omega
/-- Where a run stands, place by place. -/
theorem tell_step {S : List Int} (hb : ∀ x ∈ S, Bit x) (h5 : H.runsB S ≤ 5) (i : Nat) (hi : i < S.length) :
    tellS (S.take (i + 1)) = runS (tellS (S.take i)) (S.getD i 0) ∧ (runS (tellS (S.take i)) (S.getD i 0)).2 ≤ 5 ∧ (0 < i → (tellS (S.take i)).1 = S.getD (i - 1) 0) ∧ (i = 0 → tellS (S.take i) = (-1, 0)) := by
  have hs := H.take_snoc 0 S i hi
  refine ⟨by rw [hs, H.tellS_snoc], ?_, ?_, ?_⟩
  · have h1 := H.runsB_take S (i + 1)
    rw [hs, H.runsB_snoc] at h1
    have h2 := (H.maxStep_le (H.runsB (S.take i)) (runS (tellS (S.take i)) (S.getD i 0)).2).2
    omega
  · intro h0
    have hl : (S.take i).length = i := by rw [List.length_take]; omega
    have := H.tellS_last (S.take i) (by intro k; rw [k, List.length_nil] at hl; omega)
    rw [hl] at this
    rw [← this, List.getD_eq_getElem?_getD, List.getD_eq_getElem?_getD, List.getElem?_take_of_lt (by omega)]
  · intro h0; rw [h0, List.take_zero]; rfl
end Go.Proofs.Ythgeekcobmhbfaa.PB
namespace Go.Proofs.Ythgeekcobmhbfaa.Pure
open Go.RowKit Go.Proofs.Ythgeekcobmhbfaa.PB Go.Proofs.Ythgeekcobmhbfaa.Px Go.Proofs.YthgeekcobmhbfaaW.PrintWords Go.Proofs.YthgeekcobmhbfaaW.PrintLast Go.Proofs.YthgeekcobmhbfaaW.PrintMore
open Go.Proofs.Ythgeekcobmhbfaa.H (IdOk rankF bitI bitsOf spreadB Bit runS tellS)
theorem runs_l1 (w : List Int) (hl : w.length ≤ 4611686018427387904) (n : Nat) (h1 : ∀ i, n ≤ i → i < w.length → w.getD i 0 = 1) : ∀ m i : Nat, i + m = w.length → n ≤ i → Ev (fun k => phaetonlaw05_WireRuns.l1 k true w (i : Int)) true := by
  intro m
  induction m with
  | zero =>
    intro i hi _
    refine Ev.step (f := fun _ => some true) (fun k => ?_) (Ev.now _)
    simp only [phaetonlaw05_WireRuns.l1]
    rw [if_neg (by omega), if_pos trivial]
  | succ m ih =>
    intro i hi hn
    refine Ev.step (f := fun k => phaetonlaw05_WireRuns.l1 k true w ((i + 1 : Nat) : Int)) (fun k => ?_) (ih (i + 1) (by omega) (by omega))
    simp only [phaetonlaw05_WireRuns.l1]
    rw [if_pos (by omega), if_pos (by omega), fb_rd_nat, if_pos (h1 i hn (by omega)), H.wrap_succ (n := w.length) (by omega) hl]
theorem runs_l0 {S ones : List Int} (hb : ∀ x ∈ S, Bit x) (h5 : H.runsB S ≤ 5) (ho : ones.length = 10) (ho1 : ∀ i, i < 10 → ones.getD i 0 = 1) (hl : S.length ≤ 1000000) : ∀ m i : Nat, i + m = S.length → Ev (fun k => phaetonlaw05_WireRuns.l0 k true (S ++ ones) (tellS (S.take i)).2 (i : Int)) true := by
  have hwl : (S ++ ones).length = S.length + 10 := by rw [List.length_append, ho]
  have hw10 : wrap64 (((S ++ ones).length : Int) - 10) = (S.length : Int) := by rw [hwl]; unfold wrap64; omega
  intro m
  induction m with
  | zero =>
    intro i hi
    refine Ev.step (f := fun k => phaetonlaw05_WireRuns.l1 k true (S ++ ones) (S.length : Int)) (fun k => ?_) (runs_l1 (S ++ ones) (by omega) S.length (fun q h1 h2 => ?_) 10 S.length (by omega) (Nat.le_refl _))
    · simp only [phaetonlaw05_WireRuns.l0]
      rw [hw10, if_neg (by omega)]
    · obtain ⟨r, rfl⟩ : ∃ r, q = S.length + r := ⟨q - S.length, by omega⟩
      rw [getD_behind]; exact ho1 r (by omega)
  | succ m ih =>
    intro i hi
    have hlt : i < S.length := by omega
    obtain ⟨t1, t2, t3, t4⟩ := tell_step hb h5 i hlt
    have ih' := ih (i + 1) (by omega)
    rw [t1] at ih'
    have hf : ∀ q, q < S.length → (S ++ ones).getD q 0 = S.getD q 0 := fun q hq => by
      rw [List.getD_eq_getElem?_getD, List.getD_eq_getElem?_getD, List.getElem?_append_left hq]
    by_cases h0 : i = 0
    · have ht := t4 h0
      rw [ht] at ih' t2 ⊢
      have hbb := hb _ (fb_rd_mem hlt)
      have hr : runS (-1, 0) (S.getD i 0) = (S.getD i 0, 1) := H.run_ne (by rcases hbb with h | h <;> rw [h] <;> decide)
      rw [hr] at ih'
      refine Ev.step (f := fun k => phaetonlaw05_WireRuns.j3 k true (S ++ ones) 0 (i : Int) false) (fun k => ?_) (Ev.step (f := fun k => phaetonlaw05_WireRuns.l0 k true (S ++ ones) 1 ((i + 1 : Nat) : Int)) (fun k => ?_) ih')
      · simp only [phaetonlaw05_WireRuns.l0]
        rw [hw10, if_pos (by omega), if_neg (by omega)]
      · simp only [phaetonlaw05_WireRuns.j3]
        rw [if_neg (by simp), if_neg (by decide), H.wrap_succ hlt (by omega)]
    · have ht := t3 (by omega)
      have e1 : wrap64 ((i : Int) - 1) = ((i - 1 : Nat) : Int) := by unfold wrap64; omega
      have hA : ∀ k, phaetonlaw05_WireRuns.l0 (k + 1) true (S ++ ones) (tellS (S.take i)).2 (i : Int) = phaetonlaw05_WireRuns.j3 k true (S ++ ones) (tellS (S.take i)).2 (i : Int) (S.getD i 0 == S.getD (i - 1) 0) := fun k => by
        simp only [phaetonlaw05_WireRuns.l0]
        rw [hw10, if_pos (by omega), if_pos (by omega), if_pos (by omega), if_pos (by omega), e1, if_pos (by omega), if_pos (by omega), fb_rd_nat, fb_rd_nat, hf _ hlt, hf _ (by omega)]
      refine Ev.step (f := fun k => phaetonlaw05_WireRuns.j3 k true (S ++ ones) (tellS (S.take i)).2 (i : Int) (S.getD i 0 == S.getD (i - 1) 0)) hA ?_
      unfold runS at ih' t2
      by_cases hal : S.getD i 0 = S.getD (i - 1) 0
      · rw [if_pos (hal.trans ht.symm)] at ih' t2
        refine Ev.step (f := fun k => phaetonlaw05_WireRuns.l0 k true (S ++ ones) (wrap64 ((tellS (S.take i)).2 + 1)) ((i + 1 : Nat) : Int)) (fun k => ?_) ih'
        simp only [phaetonlaw05_WireRuns.j3]
        rw [if_pos (beq_iff_eq.mpr hal), if_neg (by dsimp only at t2; omega), H.wrap_succ hlt (by omega)]
      · rw [if_neg (fun k => hal (k.trans ht))] at ih' t2
        refine Ev.step (f := fun k => phaetonlaw05_WireRuns.l0 k true (S ++ ones) 1 ((i + 1 : Nat) : Int)) (fun k => ?_) ih'
        simp only [phaetonlaw05_WireRuns.j3]
        rw [if_neg (by rw [beq_eq_false_iff_ne.mpr hal]; exact Bool.false_ne_true), if_neg (by decide), H.wrap_succ hlt (by omega)]
theorem WireRuns : phaetonlaw05_WireRuns.Pure := by
  intro e id rm ln d _ _ _ hwd
  have hw := bytes_of hwd
  obtain ⟨K0, hh⟩ := head05_k
  by_cases hF : FRight e id rm ln d
  case neg =>
    refine ⟨K0 + 2, ?_⟩
    unfold phaetonlaw05_WireRuns.f
    rw [hh _ (by omega), Option.bind_some, great_eq, Option.bind_some]
    by_cases g : (d.length : Int) > 100
    · rw [decide_eq_true g, if_pos rfl, phaetonlaw05_WireRuns.j0.eq_2, if_pos rfl, if_pos rfl]
    · rw [decide_eq_false g, if_neg (by simp), r4right_k _ _ _ _ _ _ (by omega), Option.bind_some, decide_eq_false hF, Bool.not_false, phaetonlaw05_WireRuns.j0.eq_2, if_pos rfl, if_pos rfl]
  have hhr := headF_right e id rm ln d
  have hl2 := headF_len2 hF
  have hsl := stuffF_len hhr
  have hsn := sentF_len (headF e id rm ln d)
  have hsr := sentF_bits hhr
  have hsb := stuffF_bits hhr
  have h5 : H.runsB (stuffF (headF e id rm ln d)) ≤ 5 := H.runs_stuff_le _ (body_Bit e id rm ln d)
  have hmo := sent_most hF
  have hmk := most_k e d.length (by have := hF.dlen; omega)
  have hwq := wire_eq hF
  have hln : wire_Length.f e id rm ln d = some ((sentF (headF e id rm ln d)).length : Int) := by unfold wire_Length.f; rw [hwq, Option.bind_some]
  obtain ⟨K1, k1⟩ := r4head_k hF hw
  obtain ⟨K2, k2⟩ := rright_k (sentF (headF e id rm ln d)) (by omega)
  obtain ⟨K3, k3⟩ := runs_l0 (ones := bitsOf 1023 10) hsb h5 (by rw [ones_eq]; rfl) (by rw [ones_eq]; decide) (by omega) (stuffF (headF e id rm ln d)).length 0 (by omega)
  have hsf : stuffF (headF e id rm ln d) ++ bitsOf 1023 10 = sentF (headF e id rm ln d) := rfl
  rw [hsf] at k3
  have t0 : (tellS ((stuffF (headF e id rm ln d)).take 0)).2 = 0 := by rw [List.take_zero]; rfl
  rw [t0] at k3
  rw [hsr] at k2
  generalize sentF (headF e id rm ln d) = w at *
  generalize stuffF (headF e id rm ln d) = S at *
  generalize headF e id rm ln d = h at *
  have hww0 : wrap64 ((h.length : Int) + 25) = ((h.length + 25 : Nat) : Int) := by unfold wrap64; omega
  have hww := Aside0.mk hww0
  clear hww0
  refine ⟨K0 + K1 + K2 + K3 + 4, ?_⟩
  unfold phaetonlaw05_WireRuns.f
  rw [hh _ (by omega), Option.bind_some, great_eq, Option.bind_some, not_great hF, if_neg (by simp), r4right_k _ _ _ _ _ _ (by omega), Option.bind_some, decide_eq_true hF, Bool.not_true, phaetonlaw05_WireRuns.j0.eq_2, if_neg (by simp), hwq, Option.bind_some, k1 _ (by omega), Option.bind_some, hln, Option.bind_some, if_pos rfl, hww.out, if_neg (by omega), hmk, Option.bind_some, if_neg (by omega), k2 _ (by omega), Option.bind_some, Bool.not_true, phaetonlaw05_WireRuns.j1.eq_2, if_neg (by simp)]
  exact k3 _ (by omega)
end Go.Proofs.Ythgeekcobmhbfaa.Pure
