/- The document's opposites: the same plain word. -/
import Derived.Test.YtlggjgabefjjoaaPureRef03
import Derived.Test.YtlggjgabefjjoaaHandStuffMore
import Derived.Test.YtlggjgabefjjoaaPx5
set_option linter.unusedVariables false
namespace Go.Proofs.Ytlggjgabefjjoaa.PB
open Go.RowKit Go.Proofs.Ytlggjgabefjjoaa.Px Go.Proofs.YtlggjgabefjjoaaW.PrintWords Go.Proofs.YtlggjgabefjjoaaW.PrintLast Go.Proofs.YtlggjgabefjjoaaW.PrintMore
theorem rturn_l0 (l : List Int) (hl : l.length ≤ 1099511627) : ∀ d i : Nat, i + d = l.length → Ev (fun k => phaetonref03_Turned.l0 k l ((H.turn l).take i) (i : Int)) (H.turn l) := by
  have hle : (H.turn l).length = l.length := by unfold H.turn; rw [List.length_map]
  intro d
  induction d with
  | zero =>
    intro i hi
    refine Ev.step (f := fun _ => some (H.turn l)) (fun k => ?_) (Ev.now _)
    rw [phaetonref03_Turned.l0.eq_2, if_neg (by omega), List.take_of_length_le (by omega)]
  | succ d ih =>
    intro i hi
    have hlt : i < l.length := by omega
    have hg : (H.turn l).getD i 0 = wrap64 (1 - l.getD i 0) := by
      unfold H.turn
      rw [List.getD_eq_getElem?_getD, List.getD_eq_getElem?_getD, List.getElem?_map, List.getElem?_eq_getElem hlt]; rfl
    refine Ev.step (f := fun k => phaetonref03_Turned.l0 k l ((H.turn l).take (i + 1)) ((i + 1 : Nat) : Int)) (fun k => ?_) (ih (i + 1) (by omega))
    rw [phaetonref03_Turned.l0.eq_2, if_pos (by omega), if_pos (by omega), if_pos (by rw [List.length_take]; omega), rd_nat, H.take_snoc 0 _ i (by omega), hg, H.wrap_succ hlt (by omega)]
theorem rturn_k (l : List Int) (hl : l.length ≤ 1099511627) : ∃ K, ∀ k, K ≤ k → phaetonref03_Turned.f k l = some (H.turn l) := by
  have := rturn_l0 l hl l.length 0 (by omega)
  rw [List.take_zero] at this
  exact this
end Go.Proofs.Ytlggjgabefjjoaa.PB
