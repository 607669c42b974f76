/- What is stuffed of a row's beginning is the beginning of what is stuffed of the row; so it is with what is stripped, up to the first fault. -/
import Derived.Test.YtlggjgabefjjoaaPx5
import Derived.Test.YtlggjgabefjjoaaPureHead03
import Derived.Test.YtlggjgabefjjoaaHandStuffMore
set_option linter.unusedVariables false
namespace Go.Proofs.Ytlggjgabefjjoaa.Pure
open Go.RowKit Go.Proofs.Ytlggjgabefjjoaa.PB Go.Proofs.Ytlggjgabefjjoaa.Px Go.Proofs.YtlggjgabefjjoaaW.PrintWords Go.Proofs.YtlggjgabefjjoaaW.PrintLast Go.Proofs.YtlggjgabefjjoaaW.PrintMore
theorem StuffParts : phaetonlaw03_StuffParts.Pure := by
  intro l0 a1 _ hl hw h1
  obtain ⟨u0, u1⟩ := H.of_wfu16 h1
  obtain ⟨n, rfl⟩ := Int.eq_ofNat_of_zero_le u0
  obtain ⟨K0, hh⟩ := head03_k
  obtain ⟨K1, k1⟩ := bits03_k l0
  have hb := bits03_bit l0
  have hlen := bits03_len l0
  generalize bits03 l0 = l at k1 hb hlen
  have e1 : wrap64 ((l.length : Int) + 1) = ((l.length + 1 : Nat) : Int) := by unfold wrap64; omega
  have e2 : Int.tmod (wrap64 (n : Int)) ((l.length + 1 : Nat) : Int) = ((n % (l.length + 1) : Nat) : Int) := by
    rw [show wrap64 (n : Int) = (n : Int) by unfold wrap64; omega, Int.tmod_eq_emod_of_nonneg (by omega)]; rfl
  have hlt : n % (l.length + 1) < l.length + 1 := Nat.mod_lt _ (by omega)
  generalize n % (l.length + 1) = m at e2 hlt
  have hbt : ∀ x ∈ l.take m, H.Bit x := fun x hx => hb x (List.mem_of_mem_take hx)
  have hml : (l.take m).length = m := by rw [List.length_take]; omega
  have hsl : (H.stuffB l).length ≤ 2 * l.length := H.stuffS_len l
  have hpl := H.strip_len l
  have p1 : H.stuffB (l.take m) <+: H.stuffB l := by
    rw [H.stuffB_go hbt, H.stuffB_go hb]
    conv => rhs; rw [← List.take_append_drop m l, H.stuffGo_append]
    exact List.prefix_append _ _
  have p2 : (H.stripB (l.take m)).1 <+: (H.stripB l).1 := by
    have := H.strip_app (l.take m) (l.drop m) 0 [] (-1, 0)
    rw [List.take_append_drop] at this
    exact this
  have q1 := List.prefix_iff_eq_take.mp p1
  have q2 := List.prefix_iff_eq_take.mp p2
  have g1 := p1.length_le
  have g2 := p2.length_le
  obtain ⟨K2, k2⟩ := ints_k (H.stuffB (l.take m)) (by omega)
  obtain ⟨K3, k3⟩ := ints_k (H.stripB (l.take m)).1 (by omega)
  refine ⟨K0 + K1 + K2 + K3, ?_⟩
  unfold phaetonlaw03_StuffParts.f
  rw [hh _ (by omega), Option.bind_some, k1 _ (by omega), Option.bind_some, e1, if_neg (by omega), stuffStuff_eq l (by omega), Option.bind_some, e2, if_pos (by omega), if_pos (by omega), Int.toNat_natCast, stuffStuff_eq _ (by omega), Option.bind_some, stuffStrip_eq l (by omega), Option.bind_some, stuffStrip_eq _ (by omega), Option.bind_some, if_pos (by omega), if_pos (by omega), Int.toNat_natCast, ← q1, k2 _ (by omega), Option.bind_some, if_pos rfl, if_pos (by omega), if_pos (by omega), Int.toNat_natCast, ← q2, k3 _ (by omega), Option.bind_some, if_pos rfl, if_pos rfl]
end Go.Proofs.Ytlggjgabefjjoaa.Pure
