/- Layer 5: what a right frame has on the wire. -/
import Derived.Test.YthgeekcobmhbfaaPx2
import Derived.Test.YthgeekcobmhbfaaPx5
import Derived.Test.YthgeekcobmhbfaaPureFrame
import Derived.Test.YthgeekcobmhbfaaHandCrc
import Derived.Test.YthgeekcobmhbfaaHandStuffLaw
import Derived.Test.YthgeekcobmhbfaaPx9
import Derived.Test.YthgeekcobmhbfaaPureBase
import Derived.Test.YthgeekcobmhbfaaHandStuffMore
set_option linter.unusedVariables false
set_option linter.unusedSimpArgs false
namespace Go.Proofs.Ythgeekcobmhbfaa.PB
open Go.RowKit Go.Proofs.Ythgeekcobmhbfaa.Px Go.Proofs.YthgeekcobmhbfaaW.PrintWords Go.Proofs.YthgeekcobmhbfaaW.PrintLast Go.Proofs.YthgeekcobmhbfaaW.PrintMore
open Go.Proofs.Ythgeekcobmhbfaa.H (IdOk rankF bitI bitsOf spreadB Bit)
theorem head05_k : ∃ K, ∀ k, K ≤ k → phaetonlaw05_head.f k = some true := ⟨0, fun _ _ => rfl⟩
/-- A head, and its sum's bits. -/
def bodyF (h : List Int) : List Int := h ++ bitsOf ((H.crcB h).toNat : Int) 15
theorem body_right {h : List Int} (hr : H.rightB h = true) : H.rightB (bodyF h) = true := by unfold bodyF; rw [H.rightB_append, hr, H.bitsOf_right]; rfl
/-- What goes out on the wire: stuffed bits, and ten ones. -/
def stuffF (h : List Int) : List Int := H.stuffB (bodyF h)
def sentF (h : List Int) : List Int := stuffF h ++ bitsOf 1023 10
theorem wire_eq {e : Bool} {id : Int} {rm : Bool} {ln : Int} {d : List Int} (h : FRight e id rm ln d) : wire_Bits.f e id rm ln d = some (sentF (headF e id rm ln d)) := by
  have hs := (H.crcB (headF e id rm ln d)).isLt
  have hl : (headF e id rm ln d).length ≤ 200 := by have := h.dlen; rw [headF_len]; split <;> omega
  have p15 : H.putB ((H.crcB (headF e id rm ln d)).toNat : Int) 15 = (bitsOf ((H.crcB (headF e id rm ln d)).toNat : Int) 15, true) := H.putB_yes (m := 15) (by omega) (by omega) (by omega)
  have p10 : H.putB 1023 10 = (bitsOf 1023 10, true) := H.putB_yes (m := 10) (by omega) (by omega) (by omega)
  have l15 := H.bitsOf_length ((H.crcB (headF e id rm ln d)).toNat : Int) 15
  have l10 := H.bitsOf_length 1023 10
  have hbl : (bodyF (headF e id rm ln d)).length ≤ 300 := by unfold bodyF; rw [List.length_append, l15]; omega
  have hsl := H.stuffS_len (bodyF (headF e id rm ln d))
  have e1 : crc_Bits.f (headF e id rm ln d) = some ((H.crcB (headF e id rm ln d)).toNat : Int) := rfl
  have e2 : bits_Put.f ((H.crcB (headF e id rm ln d)).toNat : Int) 15 = some (H.putB ((H.crcB (headF e id rm ln d)).toNat : Int) 15) := rfl
  have e3 : bits_Put.f 1023 10 = some (H.putB 1023 10) := rfl
  have e4 : stuff_Stuff.f (bodyF (headF e id rm ln d)) = some (stuffF (headF e id rm ln d)) := if_pos (by omega)
  have hb : (headF e id rm ln d) ++ bitsOf ((H.crcB (headF e id rm ln d)).toNat : Int) 15 = bodyF (headF e id rm ln d) := rfl
  unfold wire_Bits.f
  rw [fhead_eq h, Option.bind_some, e1, Option.bind_some, e2, p15, Option.bind_some, e3, p10, Option.bind_some]
  dsimp only
  rw [if_pos (by omega), hb, e4, Option.bind_some, if_pos (by unfold stuffF H.stuffB; omega)]
  rfl
theorem body_Bit (e : Bool) (id : Int) (rm : Bool) (ln : Int) (d : List Int) : ∀ b ∈ bodyF (headF e id rm ln d), Bit b := H.rightB_mem (body_right (headF_right e id rm ln d))
theorem body_len (h : List Int) : (bodyF h).length = h.length + 15 := by unfold bodyF; rw [List.length_append, H.bitsOf_length]
theorem stuffF_bits {h : List Int} (hr : H.rightB h = true) : ∀ b ∈ stuffF h, Bit b := by
  have hb := H.rightB_mem (body_right hr)
  unfold stuffF; rw [H.stuffB_go hb]; exact H.stuffGo_bits _ _ hb
theorem stuffF_len {h : List Int} (hr : H.rightB h = true) : h.length + 15 ≤ (stuffF h).length ∧ (stuffF h).length ≤ 2 * (h.length + 15) := by
  have hb := H.rightB_mem (body_right hr)
  have h1 : (bodyF h).length ≤ (stuffF h).length := by unfold stuffF; rw [H.stuffB_go hb]; exact H.stuffGo_len _ _
  have h2 : (stuffF h).length ≤ 2 * (bodyF h).length := H.stuffS_len (bodyF h)
  have h3 := body_len h
  omega
theorem ones_eq : bitsOf 1023 10 = [1, 1, 1, 1, 1, 1, 1, 1, 1, 1] := by decide
theorem sentF_len (h : List Int) : (sentF h).length = (stuffF h).length + 10 := by unfold sentF; rw [List.length_append, ones_eq]; rfl
theorem sentF_bits {h : List Int} (hr : H.rightB h = true) : H.rightB (sentF h) = true := by
  unfold sentF; rw [H.rightB_append, H.rightB_of (stuffF_bits hr), H.bitsOf_right]; rfl
theorem headF_len2 {e : Bool} {id : Int} {rm : Bool} {ln : Int} {d : List Int} (h : FRight e id rm ln d) : 19 ≤ (headF e id rm ln d).length ∧ (headF e id rm ln d).length ≤ 103 := by
  have := h.dlen; rw [headF_len]; split <;> omega
theorem great_eq (e : Bool) (id : Int) (rm : Bool) (ln : Int) (d : List Int) : phaetonlaw04_Great.f e id rm ln d = some (decide ((d.length : Int) > 100)) := rfl
theorem not_great {e : Bool} {id : Int} {rm : Bool} {ln : Int} {d : List Int} (h : FRight e id rm ln d) : decide ((d.length : Int) > 100) = false := decide_eq_false (by have := h.dlen; omega)
section
variable {e : Bool} {id : Int} {rm : Bool} {ln : Int} {d : List Int}
theorem bytes_of (hwd : ∀ x ∈ d, (fun (x : Int) => (Lit.int .u8 x).wf = true) x) : ∀ x ∈ d, H.U8 x := fun x hx => H.of_wf8 (hwd x hx)
theorem r4same_k (hd : ∀ x ∈ d, H.U8 x) : phaetonref04_Same.f e id rm ln d e id rm ln d = some true := by
  rw [r4same_eq _ _ _ _ _ _ _ _ _ _ hd hd, decide_eq_true ⟨rfl, rfl, rfl, rfl, rfl⟩]
end
theorem getD_behind (S more : List Int) (i : Nat) : (S ++ more).getD (S.length + i) 0 = more.getD i 0 := by
  rw [List.getD_eq_getElem?_getD, List.getD_eq_getElem?_getD, List.getElem?_append_right (by omega), Nat.add_sub_cancel_left]
end Go.Proofs.Ythgeekcobmhbfaa.PB
