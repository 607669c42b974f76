/- Layer 5: what is read of bits that were sent. -/
import Derived.Test.YthgeekcobmhbfaaPureEar
set_option linter.unusedVariables false
set_option linter.unusedSimpArgs false
namespace Go.Proofs.Ythgeekcobmhbfaa.PB
open Go.RowKit Go.Proofs.Ythgeekcobmhbfaa.Px Go.Proofs.YthgeekcobmhbfaaW.PrintWords Go.Proofs.YthgeekcobmhbfaaW.PrintLast Go.Proofs.YthgeekcobmhbfaaW.PrintMore
open Go.Proofs.Ythgeekcobmhbfaa.H (IdOk rankF bitI bitsOf spreadB Bit)
theorem wread_eq (R : List Int) (hl : R.length ≤ 1000000) (hr : H.rightB R = true) : wire_Read.f R = some ((wire_readF R).1, (wire_readF R).2.1, (wire_readF R).2.2.1, (wire_readF R).2.2.2.1, (wire_readF R).2.2.2.2, (wire_readB R).2.1, (wire_readB R).2.2) := by
  unfold wire_Read.f
  rw [if_pos hl, if_pos]
  exact List.all_eq_true.mpr fun x hx => decide_eq_true (right_W64 hr x hx)
section
variable {e : Bool} {id : Int} {rm : Bool} {ln : Int} {d more : List Int}
theorem sent_full (h : FRight e id rm ln d) (hw : ∀ x ∈ d, H.U8 x) : (sumH (stuffF (headF e id rm ln d) ++ more) ear_s0).2.2.2.1 = headF e id rm ln d ∧ wire_readB (stuffF (headF e id rm ln d) ++ more) = (match tenT (stuffF (headF e id rm ln d) ++ more) (stuffF (headF e id rm ln d)).length 10 with
     | some p => (false, p.1, p.2)
     | none => if (stuffF (headF e id rm ln d) ++ more).getD ((stuffF (headF e id rm ln d)).length + 1) 0 = 1 then (true, 5, ((stuffF (headF e id rm ln d)).length + 1 : Nat)) else (true, 0, -1)) := by
  rcases sent_D h hw (R := stuffF (headF e id rm ln d) ++ more) (U := []) (more := more) (List.append_nil _) with ⟨hU, _⟩ | ⟨en, h1, h2, h3, h4⟩
  · exact absurd rfl hU
  · have hl := congrArg List.length h2
    rw [List.append_nil, List.length_drop, List.length_append] at hl
    rw [List.length_append] at h1
    have he : en = (stuffF (headF e id rm ln d)).length := by omega
    rw [he] at h4
    exact ⟨h3, h4⟩
theorem readF_of (h : FRight e id rm ln d) (hw : ∀ x ∈ d, H.U8 x) {R : List Int} (hh : (sumH R ear_s0).2.2.2.1 = headF e id rm ln d) (h1 : (wire_readB R).1 = true) : wire_readF R = (e, id, rm, ln, d) := by
  have := read_head h hw []
  rw [List.append_nil] at this
  unfold wire_readF
  rw [if_pos h1, hh, this]
theorem readF_no {R : List Int} (h1 : (wire_readB R).1 = false) : wire_readF R = (false, 0, false, 0, []) := by
  unfold wire_readF
  rw [if_neg (by rw [h1]; exact Bool.false_ne_true)]
theorem sent_right (hm : H.rightB more = true) : H.rightB (stuffF (headF e id rm ln d) ++ more) = true := by
  rw [H.rightB_append, hm, H.rightB_of (stuffF_bits (headF_right e id rm ln d))]; rfl
theorem sent_size (h : FRight e id rm ln d) (hl : more.length ≤ 900000) : (stuffF (headF e id rm ln d) ++ more).length ≤ 1000000 := by
  have h1 := (stuffF_len (headF_right e id rm ln d)).2
  have h2 := headF_len2 h
  rw [List.length_append]; omega
theorem ten_ok {S : List Int} (h10 : 10 ≤ more.length) (ht : ∀ i, i < 10 → i = 1 ∨ more.getD i 0 ≠ 0) : ∀ i, i < 10 → S.length + i < (S ++ more).length ∧ (i = 1 ∨ (S ++ more).getD (S.length + i) 0 ≠ 0) := fun i hi =>
  ⟨by rw [List.length_append]; omega, by rw [getD_behind]; exact ht i hi⟩
/-- Ten ones behind it: read, not acknowledged. -/
theorem read_ok5 (h : FRight e id rm ln d) (hw : ∀ x ∈ d, H.U8 x) (hm : H.rightB more = true) (hl : more.length ≤ 900000) (h10 : 10 ≤ more.length) (ht : ∀ i, i < 10 → i = 1 ∨ more.getD i 0 ≠ 0) (h1 : more.getD 1 0 = 1) :
    wire_Read.f (stuffF (headF e id rm ln d) ++ more) = some (e, id, rm, ln, d, 5, (((stuffF (headF e id rm ln d)).length + 1 : Nat) : Int)) := by
  obtain ⟨a, b⟩ := sent_full h hw (more := more)
  rw [ten_none (ten_ok h10 ht)] at b
  dsimp only at b
  rw [getD_behind, if_pos h1] at b
  rw [wread_eq _ (sent_size h hl) (sent_right hm), readF_of h hw a (by rw [b]), b]
theorem read_ok0 (h : FRight e id rm ln d) (hw : ∀ x ∈ d, H.U8 x) (hm : H.rightB more = true) (hl : more.length ≤ 900000) (h10 : 10 ≤ more.length) (ht : ∀ i, i < 10 → i = 1 ∨ more.getD i 0 ≠ 0) (h1 : more.getD 1 0 ≠ 1) :
    wire_Read.f (stuffF (headF e id rm ln d) ++ more) = some (e, id, rm, ln, d, 0, -1) := by
  obtain ⟨a, b⟩ := sent_full h hw (more := more)
  rw [ten_none (ten_ok h10 ht)] at b
  dsimp only at b
  rw [getD_behind, if_neg h1] at b
  rw [wread_eq _ (sent_size h hl) (sent_right hm), readF_of h hw a (by rw [b]), b]
theorem read_form (h : FRight e id rm ln d) (hw : ∀ x ∈ d, H.U8 x) (hm : H.rightB more = true) (hl : more.length ≤ 900000) (h10 : 10 ≤ more.length) {j : Nat} (hj : j < 10) (ht : ∀ i, i < j → i = 1 ∨ more.getD i 0 ≠ 0) (h1 : j ≠ 1) (hz : more.getD j 0 = 0) :
    wire_Read.f (stuffF (headF e id rm ln d) ++ more) = some (false, 0, false, 0, [], 3, (((stuffF (headF e id rm ln d)).length + j : Nat) : Int)) := by
  obtain ⟨a, b⟩ := sent_full h hw (more := more)
  rw [ten_form hj (fun i hi => ⟨by rw [List.length_append]; omega, by rw [getD_behind]; exact ht i hi⟩) (by rw [List.length_append]; omega) h1 (by rw [getD_behind]; exact hz)] at b
  dsimp only at b
  rw [wread_eq _ (sent_size h hl) (sent_right hm), readF_no (by rw [b]), b]
theorem set_behind (S more : List Int) (i : Nat) (x : Int) : (S ++ more).set (S.length + i) x = S ++ more.set i x := by
  rw [List.set_append_right _ _ (by omega), Nat.add_sub_cancel_left]
end
end Go.Proofs.Ythgeekcobmhbfaa.PB
