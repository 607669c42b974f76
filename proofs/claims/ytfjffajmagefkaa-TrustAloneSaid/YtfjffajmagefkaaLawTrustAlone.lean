-- Written by myprint.py, a program of this session's, over the kit's print.py; not a text of print.sh's own.
import Derived.Test.YtfjffajmagefkaaRows
import Derived.Test.YtfjffajmagefkaaPx12
import Derived.Test.YtfjffajmagefkaaPureTrustAlone
import Derived.Test.YtfjffajmagefkaaHandRow
import Derived.WalkKit
import Derived.ProofKit
import Derived.OpenShut
import Derived.ShutString
import Derived.ChangeOld
import Derived.Below
import Derived.SizedLaws
import Derived.Test.YtfjffajmagefkaaWSized
namespace Go.Proofs.Ytfjffajmagefkaa.trustAlone
open Go.ChangeShapes Go.WideShapes Go.ChangeAt Go.RowKit Go.Proofs.YtfjffajmagefkaaW.PrintWords Go.Proofs.Ytfjffajmagefkaa.Px
open Go.ChangeMaps (open_string shut_string)
set_option linter.unusedVariables false
theorem own : ownKnob Try.prog.godebug = none := by kernel_rfl
theorem laidOut : laidOutB Try.prog = true := by kernel_rfl
set_option maxRecDepth 100000 in
theorem lifted (os : Os) (started : os.Started) (H : Type) (enc : TypeId × Value → H) :
    ReturnsInHanded {} Try.checked os 9 .any (Rows.trustAloneSpec.pre6 enc Try.prog Try.f9 Rows.trustAloneRow.domain false) (Rows.trustAloneSpec.post enc Try.prog Try.f9 false true false false) := by
  refine returnsInHanded_of_change_sized (C := Try.checked) own started (by kernel_rfl) Try.func9
    (ChangeSpec.witness6 (enc := enc) (C := Try.checked) false ⟨#[], #[.agg #[.bool false, .int .i64 0, .int .i64 0, .int .i64 0], .int .i64 0, .slice none 0 0, .int .u8 0, .int .u8 0], []⟩ 8 (by kernel_rfl) (by kernel_rfl) (by kernel_rfl) (by kernel_rfl)) ?_
  intro W base args ds gs before hval0 hW hcnd hsz0 _
  have hsz : (DataW.weightsEach Try.prog (Try.f9.params.toList ++ Rows.trustAloneSpec.plain.varTypes Try.prog) (ds ++ gs)).all (· ≤ reachBytes) = true := hsz0
  have hval : ∀ (j : Nat) t v, Try.f9.params[j]? = some t → args[j]? = some v → Value.okWide Try.prog W .any base t v := hval0
  have hW' := hW
  obtain ⟨p, q, hA0, hV, rfl, hfz, hnd⟩ := hW
  have hA : DataW.TrodAll enc Try.prog W 0 (fun _ => true) true Try.f9.params.toList args.toList ds p := hA0
  rw [Try.params9] at hA hval hsz
  obtain ⟨v0, vs0, d0, ds0, p0, q0, hargs, rfl, rfl, h0, r0⟩ := trodAll_cons hA
  obtain ⟨v1, vs1, d1, ds1, p1, q1, rfl, rfl, rfl, h1, r1⟩ := trodAll_cons r0
  obtain ⟨v2, vs2, d2, ds2, p2, q2, rfl, rfl, rfl, h2, r2⟩ := trodAll_cons r1
  obtain ⟨v3, vs3, d3, ds3, p3, q3, rfl, rfl, rfl, h3, r3⟩ := trodAll_cons r2
  obtain ⟨v4, vs4, d4, ds4, p4, q4, rfl, rfl, rfl, h4, r4⟩ := trodAll_cons r3
  obtain ⟨rfl, rfl, rfl⟩ := trodAll_nil r4
  obtain rfl : args = #[v0, v1, v2, v3, v4] := by cases args; simp_all
  obtain ⟨rfl, rfl⟩ := trodVars_none hV
  have k0 := h0
  have lt0 : ∀ x ∈ p0, x.block < W.heap.size := by obtain ⟨m, hm⟩ := k0; exact DataW.trod_lt m _ _ _ hm
  obtain ⟨cs0, x0, rfl, K0, hw0⟩ := HR.arg_agg (d := k24) (Wf := (fun (x : S24) => (fun (_ : Bool) => True) x.f0 ∧ ((fun (x : Int) => (Lit.int .i64 x).wf = true) x.f1 ∧ ((fun (x : Int) => (Lit.int .i64 x).wf = true) x.f2 ∧ ((fun (x : Int) => (Lit.int .i64 x).wf = true) x.f3))))) (HR.opens_iso (fun x : S24 => (x.f0, x.f1, x.f2, x.f3)) (fun p => (⟨p.1, p.2.1, p.2.2.1, p.2.2.2⟩ : S24)) (fun _ => rfl) (HR.opens_struct Try.underlying24 (by kernel_rfl) (HR.opensF_cons rfl (by kernel_rfl) (HR.opens_bool Try.underlying4) (HR.opensF_cons rfl (by kernel_rfl) (HR.opens_int Try.underlying3) (HR.opensF_cons rfl (by kernel_rfl) (HR.opens_int Try.underlying3) (HR.opensF_last rfl (by kernel_rfl) (HR.opens_int Try.underlying3))))))) (HR.agg_struct Try.underlying24 (hval 0 24 v0 rfl rfl)) h0
  have hcs0 := k24_open K0
  obtain rfl : cs0 = #[.bool x0.f0, .int .i64 x0.f1, .int .i64 x0.f2, .int .i64 x0.f3] := Array.toList_inj.mp hcs0
  obtain ⟨a1, rfl, rfl, rfl, w1⟩ := open_int Try.underlying3 (hval 1 3 v1 rfl rfl) h1
  have k2 := h2
  have lt2 : ∀ x ∈ p2, x.block < W.heap.size := by obtain ⟨m, hm⟩ := k2; exact DataW.trod_lt m _ _ _ hm
  obtain ⟨A2, c2, l2, rfl, hc2, hr2, hw2⟩ := HR.arg_slice (d := (Kd.int .u8)) (Wf := (fun (l : List Int) => ∀ x ∈ l, (fun (x : Int) => (Lit.int .u8 x).wf = true) x)) (HR.opens_slice Try.underlying22 (by kernel_rfl) (HR.opens_int Try.underlying5)) Try.underlying22 (hval 2 22 v2 rfl rfl) h2
  have y2 : l2.length * 1 ≤ 140737488351232 := Go.Proofs.YtfjffajmagefkaaW.PrintWords.sized_ints hsz (j := 2) (t := 22) rfl rfl Try.underlying22 Try.underlying5 (by kernel_rfl) (by kernel_rfl) h2
  obtain ⟨a3, rfl, rfl, rfl, w3⟩ := open_int Try.underlying5 (hval 3 5 v3 rfl rfl) h3
  obtain ⟨a4, rfl, rfl, rfl, w4⟩ := open_int Try.underlying5 (hval 4 5 v4 rfl rfl) h4
  clear hA0 hval0 hsz0 hsz
  refine (Px.phaetonlaw16_TrustAlone.walk Pure.TrustAlone x0.f0 x0.f1 x0.f2 x0.f3 a1 A2 c2 l2 a3 a4 W hw0.2.1 hw0.2.2.1 hw0.2.2.2 w1 y2 hw2 hr2 hc2 w3 w4).mono fun e W' ⟨he, bel⟩ => ?_
  subst he
  exact ⟨_, rfl, _, _, _, [], _, [], hW', trodAll_mk1 (shut_bool Try.underlying4 _), (trodAll_cons_mk (Below.trod laidOut (by kernel_rfl) (of_decide_eq_true (by kernel_rfl)) k0 bel lt0) (trodAll_cons_mk (shut_int Try.underlying3 w1) (trodAll_cons_mk (Below.trod laidOut (by kernel_rfl) (of_decide_eq_true (by kernel_rfl)) k2 bel lt2) (trodAll_cons_mk (shut_int Try.underlying5 w3) (trodAll_cons_mk (shut_int Try.underlying5 w4) trodAll_mk0))))), rfl, bel.frame _, fun h => by cases h⟩
theorem over : Rows.trustAloneRow.holds Try.pinned (OpenSpec.ofChange Rows.trustAloneSpec) :=
  OpenClaim.holds_of_wide 9 Try.f9 rfl rfl rfl rfl rfl rfl rfl ⟨rfl, rfl, rfl, rfl, rfl⟩ rfl rfl rfl rfl rfl (by kernel_rfl) Try.func9 (by kernel_rfl)
    (of_decide_eq_true (by kernel_rfl)) (by unfold Func.isWrapper; first | (rw [if_pos (by decide +kernel)]; kernel_rfl) | (rw [if_neg (by decide +kernel)]; exact ⟨rfl, rfl⟩))
    (fun os started H enc _ => lifted os started H enc)
theorem proved : Rows.TrustAloneSaid := over
#print axioms proved
end Go.Proofs.Ytfjffajmagefkaa.trustAlone
namespace Go.Proofs.Ytfjffajmagefkaa
/-- The row, under a short name, for the claim. -/
theorem trustAlone_holds : Rows.TrustAloneSaid := trustAlone.proved
end Go.Proofs.Ytfjffajmagefkaa
