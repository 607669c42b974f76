-- Written by myprint.py, a program of this session's, over the kit's print.py; not a text of print.sh's own.
import Derived.Test.YtfgbcpdlhdgofaaRows
import Derived.Test.YtfgbcpdlhdgofaaPx9
import Derived.Test.YtfgbcpdlhdgofaaPureImageBurst
import Derived.Test.YtfgbcpdlhdgofaaHandRow
import Derived.WalkKit
import Derived.ProofKit
import Derived.OpenShut
import Derived.ShutString
import Derived.ChangeOld
import Derived.Below
import Derived.SizedLaws
import Derived.Test.YtfgbcpdlhdgofaaWSized
namespace Go.Proofs.Ytfgbcpdlhdgofaa.imageBurst
open Go.ChangeShapes Go.WideShapes Go.ChangeAt Go.RowKit Go.Proofs.YtfgbcpdlhdgofaaW.PrintWords Go.Proofs.Ytfgbcpdlhdgofaa.Px
open Go.ChangeMaps (open_string shut_string)
set_option linter.unusedVariables false
theorem own : ownKnob Try.prog.godebug = none := by kernel_rfl
theorem laidOut : laidOutB Try.prog = true := by kernel_rfl
set_option maxRecDepth 100000 in
theorem lifted (os : Os) (started : os.Started) (H : Type) (enc : TypeId × Value → H) :
    ReturnsInHanded {} Try.checked os 5 .any (Rows.imageBurstSpec.pre6 enc Try.prog Try.f5 Rows.imageBurstRow.domain false) (Rows.imageBurstSpec.post enc Try.prog Try.f5 false true false false) := by
  refine returnsInHanded_of_change_sized (C := Try.checked) own started (by kernel_rfl) Try.func5
    (ChangeSpec.witness6 (enc := enc) (C := Try.checked) false ⟨#[], #[.agg #[.int .i64 0, .slice none 0 0], .int .i64 0, .agg #[.int .u16 0, .int .u8 0, .int .u8 0, .int .u8 0, .int .u8 0]], []⟩ 8 (by kernel_rfl) (by kernel_rfl) (by kernel_rfl) (by kernel_rfl)) ?_
  intro W base args ds gs before hval0 hW hcnd hsz0 _
  have hsz : (DataW.weightsEach Try.prog (Try.f5.params.toList ++ Rows.imageBurstSpec.plain.varTypes Try.prog) (ds ++ gs)).all (· ≤ reachBytes) = true := hsz0
  have hval : ∀ (j : Nat) t v, Try.f5.params[j]? = some t → args[j]? = some v → Value.okWide Try.prog W .any base t v := hval0
  have hW' := hW
  obtain ⟨p, q, hA0, hV, rfl, hfz, hnd⟩ := hW
  have hA : DataW.TrodAll enc Try.prog W 0 (fun _ => true) true Try.f5.params.toList args.toList ds p := hA0
  rw [Try.params5] at hA hval hsz
  obtain ⟨v0, vs0, d0, ds0, p0, q0, hargs, rfl, rfl, h0, r0⟩ := trodAll_cons hA
  obtain ⟨v1, vs1, d1, ds1, p1, q1, rfl, rfl, rfl, h1, r1⟩ := trodAll_cons r0
  obtain ⟨v2, vs2, d2, ds2, p2, q2, rfl, rfl, rfl, h2, r2⟩ := trodAll_cons r1
  obtain ⟨rfl, rfl, rfl⟩ := trodAll_nil r2
  obtain rfl : args = #[v0, v1, v2] := by cases args; simp_all
  obtain ⟨rfl, rfl⟩ := trodVars_none hV
  have k0 := h0
  have lt0 : ∀ x ∈ p0, x.block < W.heap.size := by obtain ⟨m, hm⟩ := k0; exact DataW.trod_lt m _ _ _ hm
  obtain ⟨cs0, x0, rfl, K0, hw0⟩ := HR.arg_agg (d := k24) (Wf := (fun (x : S24) => (fun (x : Int) => (Lit.int .i64 x).wf = true) x.f0 ∧ ((fun (l : List Int) => ∀ x ∈ l, (fun (x : Int) => (Lit.int .u8 x).wf = true) x) x.f1))) (HR.opens_iso (fun x : S24 => (x.f0, x.f1)) (fun p => (⟨p.1, p.2⟩ : S24)) (fun _ => rfl) (HR.opens_struct Try.underlying24 (by kernel_rfl) (HR.opensF_cons rfl (by kernel_rfl) (HR.opens_int Try.underlying3) (HR.opensF_last rfl (by kernel_rfl) (HR.opens_slice Try.underlying22 (by kernel_rfl) (HR.opens_int Try.underlying5)))))) (HR.agg_struct Try.underlying24 (hval 0 24 v0 rfl rfl)) h0
  obtain ⟨A0_1, c0_1, hcs0, hc0_1, hr0_1⟩ := k24_open K0
  obtain rfl : cs0 = #[.int .i64 x0.f0, .slice A0_1 x0.f1.length c0_1] := Array.toList_inj.mp hcs0
  obtain ⟨a1, rfl, rfl, rfl, w1⟩ := open_int Try.underlying3 (hval 1 3 v1 rfl rfl) h1
  have k2 := h2
  have lt2 : ∀ x ∈ p2, x.block < W.heap.size := by obtain ⟨m, hm⟩ := k2; exact DataW.trod_lt m _ _ _ hm
  obtain ⟨cs2, x2, rfl, K2, hw2⟩ := HR.arg_agg (d := k43) (Wf := (fun (x : S43) => (fun (x : Int) => (Lit.int .u16 x).wf = true) x.f0 ∧ ((fun (x : S41) => (fun (x : Int) => (Lit.int .u8 x).wf = true) x.f0 ∧ ((fun (x : Int) => (Lit.int .u8 x).wf = true) x.f1 ∧ ((fun (x : Int) => (Lit.int .u8 x).wf = true) x.f2 ∧ ((fun (x : Int) => (Lit.int .u8 x).wf = true) x.f3)))) x.f1))) (HR.opens_iso (fun x : S43 => (x.f0, x.f1)) (fun p => (⟨p.1, p.2⟩ : S43)) (fun _ => rfl) (HR.opens_struct Try.underlying43 (by kernel_rfl) (HR.opensF_cons rfl (by kernel_rfl) (HR.opens_int Try.underlying40) (HR.opensF_last rfl (by kernel_rfl) (HR.opens_iso (fun x : S41 => (x.f0, x.f1, x.f2, x.f3)) (fun p => (⟨p.1, p.2.1, p.2.2.1, p.2.2.2⟩ : S41)) (fun _ => rfl) (HR.opens_array4 Try.underlying41 (by kernel_rfl) (by kernel_rfl) (HR.opens_int Try.underlying5))))))) (HR.agg_struct Try.underlying43 (hval 2 43 v2 rfl rfl)) h2
  have hcs2 := k43_open K2
  obtain rfl : cs2 = #[.int .u16 x2.f0, .int .u8 x2.f1.f0, .int .u8 x2.f1.f1, .int .u8 x2.f1.f2, .int .u8 x2.f1.f3] := Array.toList_inj.mp hcs2
  clear hA0 hval0 hsz0 hsz
  refine (Px.phaetonlaw24_ImageBurst.walk Pure.ImageBurst x0.f0 A0_1 c0_1 x0.f1 a1 x2.f0 x2.f1.f0 x2.f1.f1 x2.f1.f2 x2.f1.f3 W hw0.1 hw0.2 hr0_1 hc0_1 w1 hw2.1 hw2.2.1 hw2.2.2.1 hw2.2.2.2.1 hw2.2.2.2.2).mono fun e W' ⟨he, bel⟩ => ?_
  subst he
  exact ⟨_, rfl, _, _, _, [], _, [], hW', trodAll_mk1 (shut_bool Try.underlying4 _), (trodAll_cons_mk (Below.trod laidOut (by kernel_rfl) (of_decide_eq_true (by kernel_rfl)) k0 bel lt0) (trodAll_cons_mk (shut_int Try.underlying3 w1) (trodAll_cons_mk (Below.trod laidOut (by kernel_rfl) (of_decide_eq_true (by kernel_rfl)) k2 bel lt2) trodAll_mk0))), rfl, bel.frame _, fun h => by cases h⟩
theorem over : Rows.imageBurstRow.holds Try.pinned (OpenSpec.ofChange Rows.imageBurstSpec) :=
  OpenClaim.holds_of_wide 5 Try.f5 rfl rfl rfl rfl rfl rfl rfl ⟨rfl, rfl, rfl, rfl, rfl⟩ rfl rfl rfl rfl rfl (by kernel_rfl) Try.func5 (by kernel_rfl)
    (of_decide_eq_true (by kernel_rfl)) (by unfold Func.isWrapper; first | (rw [if_pos (by decide +kernel)]; kernel_rfl) | (rw [if_neg (by decide +kernel)]; exact ⟨rfl, rfl⟩))
    (fun os started H enc _ => lifted os started H enc)
theorem proved : Rows.ImageBurstSaid := over
#print axioms proved
end Go.Proofs.Ytfgbcpdlhdgofaa.imageBurst
namespace Go.Proofs.Ytfgbcpdlhdgofaa
/-- The row, under a short name, for the claim. -/
theorem imageBurst_holds : Rows.ImageBurstSaid := imageBurst.proved
end Go.Proofs.Ytfgbcpdlhdgofaa
