/- What a frame has on the wire, ahead of the last ten bits, stripped of what is stuffed, is its head, and its sum's fifteen bits; stuffed again it is what it was; its sum with its own bits behind it is 0. -/
import Derived.Test.YtechlakahpkdpaaPx7
import Derived.Test.YtechlakahpkdpaaPureFrame
import Derived.Test.YtechlakahpkdpaaPureBits
import Derived.Test.YtechlakahpkdpaaHandCrc
import Derived.Test.YtechlakahpkdpaaHandStuffLaw
set_option linter.unusedVariables false
set_option linter.unusedSimpArgs false
namespace Go.Proofs.Ytechlakahpkdpaa.PB
open Go.RowKit Go.Proofs.Ytechlakahpkdpaa.Px Go.Proofs.YtechlakahpkdpaaW.PrintWords Go.Proofs.YtechlakahpkdpaaW.PrintLast Go.Proofs.YtechlakahpkdpaaW.PrintMore
open Go.Proofs.Ytechlakahpkdpaa.H (IdOk rankF bitI bitsOf spreadB)
theorem headT_k : ∃ K, ∀ k, K ≤ k → phaetontop_head06.f k = some true := by
  refine ⟨40, fun k hk => at_rounds (g := fun k => phaetontop_head06.f k) phaetontop_head06.mono hk ?_⟩
  decide +kernel
/-- What goes out on the wire: stuffed bits, and ten ones. -/
def bodyF (h : List Int) : List Int := h ++ bitsOf ((H.crcB h).toNat : Int) 15
theorem wire_eq {e : Bool} {id : Int} {rm : Bool} {ln : Int} {d : List Int} (h : FRight e id rm ln d) : wire_Bits.f e id rm ln d = some (H.stuffB (bodyF (headF e id rm ln d)) ++ bitsOf 1023 10) := by
  have hs := (H.crcB (headF e id rm ln d)).isLt
  have hl : (headF e id rm ln d).length ≤ 200 := by have := h.dlen; rw [headF_len]; split <;> omega
  have p15 : H.putB ((H.crcB (headF e id rm ln d)).toNat : Int) 15 = (bitsOf ((H.crcB (headF e id rm ln d)).toNat : Int) 15, true) := H.putB_yes (m := 15) (by omega) (by omega) (by omega)
  have p10 : H.putB 1023 10 = (bitsOf 1023 10, true) := H.putB_yes (m := 10) (by omega) (by omega) (by omega)
  have l15 := H.bitsOf_length ((H.crcB (headF e id rm ln d)).toNat : Int) 15
  have l10 := H.bitsOf_length 1023 10
  have hbl : (bodyF (headF e id rm ln d)).length ≤ 300 := by unfold bodyF; rw [List.length_append, l15]; omega
  have hsl := H.stuffS_len (bodyF (headF e id rm ln d))
  have e1 : crc_Bits.f (headF e id rm ln d) = some ((H.crcB (headF e id rm ln d)).toNat : Int) := rfl
  have e2 : bits_Put.f ((H.crcB (headF e id rm ln d)).toNat : Int) 15 = some (H.putB ((H.crcB (headF e id rm ln d)).toNat : Int) 15) := rfl
  have e3 : bits_Put.f 1023 10 = some (H.putB 1023 10) := rfl
  have e4 : stuff_Stuff.f (bodyF (headF e id rm ln d)) = some (H.stuffB (bodyF (headF e id rm ln d))) := if_pos (by omega)
  have hb : (headF e id rm ln d) ++ bitsOf ((H.crcB (headF e id rm ln d)).toNat : Int) 15 = bodyF (headF e id rm ln d) := rfl
  unfold wire_Bits.f
  rw [fhead_eq h, Option.bind_some, e1, Option.bind_some, e2, p15, Option.bind_some, e3, p10, Option.bind_some]
  dsimp only
  rw [if_pos (by omega), hb, e4, Option.bind_some, if_pos (by unfold H.stuffB; omega)]
theorem body_right (h : List Int) (hr : H.rightB h = true) : H.rightB (bodyF h) = true := by unfold bodyF; rw [H.rightB_append, hr, H.bitsOf_right]; rfl
theorem right_Bit {l : List Int} (h : H.rightB l = true) : ∀ x ∈ l, H.Bit x := H.rightB_mem h
end Go.Proofs.Ytechlakahpkdpaa.PB
namespace Go.Proofs.Ytechlakahpkdpaa.Pure
open Go.RowKit Go.Proofs.Ytechlakahpkdpaa.PB Go.Proofs.Ytechlakahpkdpaa.Px Go.Proofs.YtechlakahpkdpaaW.PrintWords Go.Proofs.YtechlakahpkdpaaW.PrintLast Go.Proofs.YtechlakahpkdpaaW.PrintMore
open Go.Proofs.Ytechlakahpkdpaa.H (IdOk rankF bitI bitsOf spreadB)
theorem TopBare : phaetontop_TopBare.Pure := by
  intro e id rm ln d _ _ _ hwd
  obtain ⟨K0, hh⟩ := headT_k
  by_cases g : (d.length : Int) > 8
  · refine ⟨K0 + 1, ?_⟩
    unfold phaetontop_TopBare.f
    rw [hh _ (by omega), Option.bind_some, if_pos g, phaetontop_TopBare.j0.eq_2, if_pos rfl, if_pos rfl]
  by_cases hF : FRight e id rm ln d
  case neg =>
    refine ⟨K0 + 2, ?_⟩
    unfold phaetontop_TopBare.f
    rw [hh _ (by omega), Option.bind_some, if_neg g, r4right_k _ _ _ _ _ _ (by omega), Option.bind_some, decide_eq_false hF, Bool.not_false, phaetontop_TopBare.j0.eq_2, if_pos rfl, if_pos rfl]
  have hhr := headF_right e id rm ln d
  have hhl : (headF e id rm ln d).length ≤ 200 := by have := hF.dlen; rw [headF_len]; split <;> omega
  have hh0 : 19 ≤ (headF e id rm ln d).length := by rw [headF_len]; split <;> omega
  have hw := wire_eq hF
  have hf := fhead_eq hF
  generalize headF e id rm ln d = h at *
  have hs := (H.crcB h).isLt
  have l15 := H.bitsOf_length ((H.crcB h).toNat : Int) 15
  have l10 := H.bitsOf_length 1023 10
  have hbr := body_right h hhr
  have hbb := right_Bit hbr
  have hbl : (bodyF h).length = h.length + 15 := by unfold bodyF; rw [List.length_append, l15]
  have hsl : (H.stuffB (bodyF h)).length ≤ 2 * (bodyF h).length := H.stuffS_len (bodyF h)
  have hsg : (bodyF h).length ≤ (H.stuffB (bodyF h)).length := by rw [H.stuffB_go hbb]; exact H.stuffGo_len _ _
  have hst := H.strip_back hbb
  obtain ⟨w, hwe⟩ : ∃ w, w = H.stuffB (bodyF h) ++ bitsOf 1023 10 := ⟨_, rfl⟩
  rw [← hwe] at hw
  have hwl : w.length = (H.stuffB (bodyF h)).length + 10 := by rw [hwe, List.length_append, l10]
  have hwt : w.take (H.stuffB (bodyF h)).length = H.stuffB (bodyF h) := by rw [hwe, List.take_left' rfl]
  have hww0 : wrap64 ((w.length : Int) - 10) = ((H.stuffB (bodyF h)).length : Int) := by unfold wrap64; omega
  have hww := Aside0.mk hww0
  clear hww0
  have hwh0 : wrap64 ((h.length : Int) + 15) = ((h.length + 15 : Nat) : Int) := by unfold wrap64; omega
  have hwh := Aside0.mk hwh0
  clear hwh0
  have e1 : stuff_Strip.f (H.stuffB (bodyF h)) = some (bodyF h, -1) := by
    have : stuff_Strip.f (H.stuffB (bodyF h)) = some (H.stripB (H.stuffB (bodyF h))) := if_pos (by omega)
    rw [this, hst]
  have e2 : (bodyF h).take h.length = h := List.take_left' rfl
  have e3 : (bodyF h).drop h.length = bitsOf ((H.crcB h).toNat : Int) 15 := List.drop_left' rfl
  have e4 : crc_Bits.f h = some ((H.crcB h).toNat : Int) := rfl
  have e5 : crc_Bits.f (bodyF h) = some 0 := by
    show some ((H.crcB (bodyF h)).toNat : Int) = some 0
    unfold bodyF
    rw [H.crcB_own hhr]; rfl
  have e6 : stuff_Stuff.f (bodyF h) = some (H.stuffB (bodyF h)) := if_pos (by omega)
  obtain ⟨K1, k1⟩ := same2_k h h (by omega)
  obtain ⟨K2, k2⟩ := same2_k (H.stuffB (bodyF h)) (H.stuffB (bodyF h)) (by omega)
  rw [decide_eq_true rfl] at k1 k2
  obtain ⟨K3, k3⟩ := get_k (bitsOf ((H.crcB h).toNat : Int) 15) (by omega) (fun x hx => by
    have := H.rightB_mem (H.bitsOf_right _ _) x hx
    unfold H.W64; omega)
  have hg : H.getB (bitsOf ((H.crcB h).toNat : Int) 15) = (((H.crcB h).toNat : Int), true) := by
    rw [H.getB_right (H.bitsOf_right _ _) (by omega), H.valB_bitsOf 15 _ (by omega) (by omega)]
  rw [hg] at k3
  refine ⟨K0 + K1 + K2 + K3 + 4, ?_⟩
  unfold phaetontop_TopBare.f
  rw [hh _ (by omega), Option.bind_some, if_neg g, r4right_k _ _ _ _ _ _ (by omega), Option.bind_some, decide_eq_true hF, Bool.not_true, phaetontop_TopBare.j0.eq_2, if_neg (by simp), hw, Option.bind_some, if_neg (by omega), hww.out, if_pos (by omega), if_pos (by omega), Int.toNat_natCast, hwt, e1, Option.bind_some, hf, Option.bind_some]
  dsimp only
  rw [if_pos rfl, hwh.out, hbl, if_pos rfl, if_pos (by omega), if_pos (by omega), Int.toNat_natCast, e2, k1 _ (by omega), Option.bind_some, Bool.not_true, phaetontop_TopBare.j1.eq_2, if_neg (by simp), if_pos (by omega), if_pos (by omega), Int.toNat_natCast, e3, k3 _ (by omega), Option.bind_some, if_pos rfl, if_pos rfl, e4, Option.bind_some, if_pos rfl, e5, Option.bind_some, if_pos rfl, e6, Option.bind_some, hww.out, if_pos (by omega), if_pos (by omega), Int.toNat_natCast, hwt, k2 _ (by omega), Option.bind_some, if_pos rfl]
end Go.Proofs.Ytechlakahpkdpaa.Pure
