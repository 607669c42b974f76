/- Ranks: what the printed functions, and the document's answer to layer 4, come to. -/
import Derived.Test.YtechlakahpkdpaaHandOrder
import Derived.Test.YtechlakahpkdpaaPureBase
import Derived.Test.YtechlakahpkdpaaPx1
set_option linter.unusedVariables false
set_option linter.unusedSimpArgs false
namespace Go.Proofs.Ytechlakahpkdpaa.PB
open Go.RowKit Go.Proofs.Ytechlakahpkdpaa.Px Go.Proofs.YtechlakahpkdpaaW.PrintWords Go.Proofs.YtechlakahpkdpaaW.PrintLast Go.Proofs.YtechlakahpkdpaaW.PrintMore
theorem put_small {n : Int} {m : Nat} (hm : m ≤ 32) (h0 : 0 ≤ n) (h1 : n < 2 ^ m) : (H.putB n (m : Int)).1 = H.bitsOf n m := by rw [H.putB_yes hm h0 h1]
theorem put_bit (b : Bool) : (H.putB (frame_bit b) 1).1 = [H.bitI b] := by cases b <;> decide
theorem rankB_eq {e : Bool} {id : Int} (rm : Bool) (h : H.IdOk e id) : frame_rankB e id rm = H.rankF e id rm := by
  obtain ⟨h0, h1⟩ := h
  unfold frame_rankB H.rankF
  rw [put_bit]
  cases e with
  | false =>
    rw [if_neg (by simp)] at h1
    rw [if_neg (by simp), if_neg (by simp), show (H.putB id 11).1 = H.bitsOf id 11 from put_small (m := 11) (by decide) h0 h1, show (H.putB 0 1).1 = [0] by decide, List.append_assoc]
  | true =>
    rw [if_pos rfl] at h1
    rw [if_pos rfl, if_pos rfl, show (H.putB (id / 262144) 11).1 = H.bitsOf (id / 262144) 11 from put_small (m := 11) (by decide) (by omega) (by omega), show (H.putB 3 2).1 = [1, 1] by decide, H.and_262143,
      show (H.putB (id % 262144) 18).1 = H.bitsOf (id % 262144) 18 from put_small (m := 18) (by decide) (by omega) (by omega), List.append_assoc, List.append_assoc]
end Go.Proofs.Ytechlakahpkdpaa.PB
