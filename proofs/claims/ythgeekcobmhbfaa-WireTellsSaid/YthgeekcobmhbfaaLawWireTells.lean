-- Written by myprint.py, a program of this session's, over the kit's print.py; not a text of print.sh's own.
import Derived.Test.YthgeekcobmhbfaaRows
import Derived.Test.YthgeekcobmhbfaaPx14
import Derived.Test.YthgeekcobmhbfaaPureWireTells
import Derived.Test.YthgeekcobmhbfaaHandRow
import Derived.WalkKit
import Derived.ProofKit
import Derived.OpenShut
import Derived.ShutString
import Derived.ChangeOld
import Derived.Below
import Derived.SizedLaws
import Derived.Test.YthgeekcobmhbfaaWSized
namespace Go.Proofs.Ythgeekcobmhbfaa.wireTells
open Go.ChangeShapes Go.WideShapes Go.ChangeAt Go.RowKit Go.Proofs.YthgeekcobmhbfaaW.PrintWords Go.Proofs.Ythgeekcobmhbfaa.Px
open Go.ChangeMaps (open_string shut_string)
set_option linter.unusedVariables false
theorem own : ownKnob Try.prog.godebug = none := by kernel_rfl
theorem laidOut : laidOutB Try.prog = true := by kernel_rfl
set_option maxRecDepth 100000 in
theorem lifted (os : Os) (started : os.Started) (H : Type) (enc : TypeId × Value → H) :
    ReturnsInHanded {} Try.checked os 3 .any (Rows.wireTellsSpec.pre6 enc Try.prog Try.f3 Rows.wireTellsRow.domain false) (Rows.wireTellsSpec.post enc Try.prog Try.f3 false true false false) := by
  refine returnsInHanded_of_change_sized (C := Try.checked) own started (by kernel_rfl) Try.func3
    (ChangeSpec.witness6 (enc := enc) (C := Try.checked) false ⟨#[], #[.agg #[.bool false, .int .i64 0, .bool false, .int .i64 0, .slice none 0 0], .slice none 0 0, .bool false, .int .u8 0], []⟩ 8 (by kernel_rfl) (by kernel_rfl) (by kernel_rfl) (by kernel_rfl)) ?_
  intro W base args ds gs before hval0 hW hcnd hsz0 _
  have hsz : (DataW.weightsEach Try.prog (Try.f3.params.toList ++ Rows.wireTellsSpec.plain.varTypes Try.prog) (ds ++ gs)).all (· ≤ reachBytes) = true := hsz0
  have hval : ∀ (j : Nat) t v, Try.f3.params[j]? = some t → args[j]? = some v → Value.okWide Try.prog W .any base t v := hval0
  have hW' := hW
  obtain ⟨p, q, hA0, hV, rfl, hfz, hnd⟩ := hW
  have hA : DataW.TrodAll enc Try.prog W 0 (fun _ => true) true Try.f3.params.toList args.toList ds p := hA0
  rw [Try.params3] at hA hval hsz
  obtain ⟨v0, vs0, d0, ds0, p0, q0, hargs, rfl, rfl, h0, r0⟩ := trodAll_cons hA
  obtain ⟨v1, vs1, d1, ds1, p1, q1, rfl, rfl, rfl, h1, r1⟩ := trodAll_cons r0
  obtain ⟨v2, vs2, d2, ds2, p2, q2, rfl, rfl, rfl, h2, r2⟩ := trodAll_cons r1
  obtain ⟨v3, vs3, d3, ds3, p3, q3, rfl, rfl, rfl, h3, r3⟩ := trodAll_cons r2
  obtain ⟨rfl, rfl, rfl⟩ := trodAll_nil r3
  obtain rfl : args = #[v0, v1, v2, v3] := by cases args; simp_all
  obtain ⟨rfl, rfl⟩ := trodVars_none hV
  have k0 := h0
  have lt0 : ∀ x ∈ p0, x.block < W.heap.size := by obtain ⟨m, hm⟩ := k0; exact DataW.trod_lt m _ _ _ hm
  obtain ⟨cs0, x0, rfl, K0, hw0⟩ := HR.arg_agg (d := k24) (Wf := (fun (x : S24) => (fun (_ : Bool) => True) x.f0 ∧ ((fun (x : Int) => (Lit.int .i64 x).wf = true) x.f1 ∧ ((fun (_ : Bool) => True) x.f2 ∧ ((fun (x : Int) => (Lit.int .i64 x).wf = true) x.f3 ∧ ((fun (l : List Int) => ∀ x ∈ l, (fun (x : Int) => (Lit.int .u8 x).wf = true) x) x.f4)))))) (HR.opens_iso (fun x : S24 => (x.f0, x.f1, x.f2, x.f3, x.f4)) (fun p => (⟨p.1, p.2.1, p.2.2.1, p.2.2.2.1, p.2.2.2.2⟩ : S24)) (fun _ => rfl) (HR.opens_struct Try.underlying24 (by kernel_rfl) (HR.opensF_cons rfl (by kernel_rfl) (HR.opens_bool Try.underlying4) (HR.opensF_cons rfl (by kernel_rfl) (HR.opens_int Try.underlying3) (HR.opensF_cons rfl (by kernel_rfl) (HR.opens_bool Try.underlying4) (HR.opensF_cons rfl (by kernel_rfl) (HR.opens_int Try.underlying3) (HR.opensF_last rfl (by kernel_rfl) (HR.opens_slice Try.underlying22 (by kernel_rfl) (HR.opens_int Try.underlying5))))))))) (HR.agg_struct Try.underlying24 (hval 0 24 v0 rfl rfl)) h0
  obtain ⟨A0_4, c0_4, hcs0, hc0_4, hr0_4⟩ := k24_open K0
  obtain rfl : cs0 = #[.bool x0.f0, .int .i64 x0.f1, .bool x0.f2, .int .i64 x0.f3, .slice A0_4 x0.f4.length c0_4] := Array.toList_inj.mp hcs0
  have k1 := h1
  have lt1 : ∀ x ∈ p1, x.block < W.heap.size := by obtain ⟨m, hm⟩ := k1; exact DataW.trod_lt m _ _ _ hm
  obtain ⟨A1, c1, l1, rfl, hc1, hr1, hw1⟩ := HR.arg_slice (d := (Kd.int .i64)) (Wf := (fun (l : List Int) => ∀ x ∈ l, (fun (x : Int) => (Lit.int .i64 x).wf = true) x)) (HR.opens_slice Try.underlying25 (by kernel_rfl) (HR.opens_int Try.underlying3)) Try.underlying25 (hval 1 25 v1 rfl rfl) h1
  have y1 : l1.length * 8 ≤ 140737488351232 := Go.Proofs.YthgeekcobmhbfaaW.PrintWords.sized_ints hsz (j := 1) (t := 25) rfl rfl Try.underlying25 Try.underlying3 (by kernel_rfl) (by kernel_rfl) h1
  obtain ⟨a2, rfl, rfl, rfl⟩ := open_bool Try.underlying4 (hval 2 4 v2 rfl rfl) h2
  obtain ⟨a3, rfl, rfl, rfl, w3⟩ := open_int Try.underlying5 (hval 3 5 v3 rfl rfl) h3
  clear hA0 hval0 hsz0 hsz
  refine (Px.phaetonlaw05_WireTells.walk Pure.WireTells x0.f0 x0.f1 x0.f2 x0.f3 A0_4 c0_4 x0.f4 A1 c1 l1 a2 a3 W hw0.2.1 hw0.2.2.2.1 hw0.2.2.2.2 hr0_4 hc0_4 y1 hw1 hr1 hc1 w3).mono fun e W' ⟨he, bel⟩ => ?_
  subst he
  exact ⟨_, rfl, _, _, _, [], _, [], hW', trodAll_mk1 (shut_bool Try.underlying4 _), (trodAll_cons_mk (Below.trod laidOut (by kernel_rfl) (of_decide_eq_true (by kernel_rfl)) k0 bel lt0) (trodAll_cons_mk (Below.trod laidOut (by kernel_rfl) (of_decide_eq_true (by kernel_rfl)) k1 bel lt1) (trodAll_cons_mk (shut_bool Try.underlying4 _) (trodAll_cons_mk (shut_int Try.underlying5 w3) trodAll_mk0)))), rfl, bel.frame _, fun h => by cases h⟩
theorem over : Rows.wireTellsRow.holds Try.pinned (OpenSpec.ofChange Rows.wireTellsSpec) :=
  OpenClaim.holds_of_wide 3 Try.f3 rfl rfl rfl rfl rfl rfl rfl ⟨rfl, rfl, rfl, rfl, rfl⟩ rfl rfl rfl rfl rfl (by kernel_rfl) Try.func3 (by kernel_rfl)
    (of_decide_eq_true (by kernel_rfl)) (by unfold Func.isWrapper; first | (rw [if_pos (by decide +kernel)]; kernel_rfl) | (rw [if_neg (by decide +kernel)]; exact ⟨rfl, rfl⟩))
    (fun os started H enc _ => lifted os started H enc)
theorem proved : Rows.WireTellsSaid := over
#print axioms proved
end Go.Proofs.Ythgeekcobmhbfaa.wireTells
namespace Go.Proofs.Ythgeekcobmhbfaa
/-- The row, under a short name, for the claim. -/
theorem wireTells_holds : Rows.WireTellsSaid := wireTells.proved
end Go.Proofs.Ythgeekcobmhbfaa
