/- At most a quarter of the bits less one are put in, and so many are, if each run that comes out has five. -/
import Derived.Test.YtlggjgabefjjoaaPx4
import Derived.Test.YtlggjgabefjjoaaPureHead03
import Derived.Test.YtlggjgabefjjoaaHandStuffMore
set_option linter.unusedVariables false
namespace Go.Proofs.Ytlggjgabefjjoaa.Pure
open Go.RowKit Go.Proofs.Ytlggjgabefjjoaa.PB Go.Proofs.Ytlggjgabefjjoaa.Px Go.Proofs.YtlggjgabefjjoaaW.PrintWords Go.Proofs.YtlggjgabefjjoaaW.PrintLast Go.Proofs.YtlggjgabefjjoaaW.PrintMore
/-- 1 1 1 1 1 0 0 0 0 1 1 1 1 .. -/
def worst (m : Nat) : List Int := (List.range m).map fun i => (((i - 1) / 4 + 1) % 2 : Nat)
theorem worst_len (m : Nat) : (worst m).length = m := by simp [worst]
theorem worst_bits (m : Nat) : ∀ x ∈ worst m, H.Bit x := fun x hx => by
  obtain ⟨i, _, rfl⟩ := List.mem_map.mp hx
  unfold H.Bit; omega
theorem worst_most : ∀ m, m < 301 → (H.stuffGo (-1, 0) (worst m)).length = m + (m - 1) / 4 := by decide +kernel
theorem most_l0 (n : Nat) (hn : n ≤ 65535) : ∀ d i : Nat, i + d = 1 + n % 300 → Ev (fun k => phaetonlaw03_StuffMost.l0 k (n : Int) true (worst i) (i : Int)) true := by
  have ew : wrap64 (1 + Int.tmod (wrap64 (n : Int)) 300) = ((1 + n % 300 : Nat) : Int) := by
    rw [show wrap64 (n : Int) = (n : Int) by unfold wrap64; omega, Int.tmod_eq_emod_of_nonneg (by omega)]; unfold wrap64; omega
  intro d
  induction d with
  | zero =>
    intro i hi
    have hm := worst_most i (by omega)
    rw [← H.stuffB_go (worst_bits i)] at hm
    have e1 : wrap64 (((worst i).length : Int) + wrap64 (Int.tdiv (wrap64 (((worst i).length : Int) - 1)) 4)) = ((i + (i - 1) / 4 : Nat) : Int) := by
      rw [worst_len, show wrap64 ((i : Int) - 1) = ((i - 1 : Nat) : Int) by unfold wrap64; omega, Int.tdiv_eq_ediv_of_nonneg (by omega)]; unfold wrap64; omega
    refine Ev.step (f := fun _ => some true) (fun k => ?_) (Ev.now _)
    rw [phaetonlaw03_StuffMost.l0.eq_2, ew, if_neg (by omega), stuffStuff_eq _ (by rw [worst_len]; omega), Option.bind_some, e1, if_pos (by rw [hm]), if_pos rfl]
  | succ d ih =>
    intro i hi
    have e1 : Int.tmod (wrap64 (wrap64 (mx 0 (wrap64 ((i : Int) - 1)) / 4) + 1)) 2 = (((i - 1) / 4 + 1) % 2 : Nat) := by
      have : mx 0 (wrap64 ((i : Int) - 1)) = ((i - 1 : Nat) : Int) := by unfold mx wrap64; split <;> omega
      rw [this, show wrap64 (((i - 1 : Nat) : Int) / 4) = (((i - 1) / 4 : Nat) : Int) by unfold wrap64; omega, show wrap64 ((((i - 1) / 4 : Nat) : Int) + 1) = (((i - 1) / 4 + 1 : Nat) : Int) by unfold wrap64; omega, Int.tmod_eq_emod_of_nonneg (by omega)]; omega
    have e2 : worst (i + 1) = worst i ++ [((((i - 1) / 4 + 1) % 2 : Nat) : Int)] := by unfold worst; rw [List.range_succ, List.map_append]; rfl
    refine Ev.step (f := fun k => phaetonlaw03_StuffMost.l0 k (n : Int) true (worst (i + 1)) ((i + 1 : Nat) : Int)) (fun k => ?_) (ih (i + 1) (by omega))
    rw [phaetonlaw03_StuffMost.l0.eq_2, ew, if_pos (by omega), if_pos (by rw [worst_len]; omega), e1, H.wrap_succ (n := 1 + n % 300) (by omega) (by omega), e2]
theorem StuffMost : phaetonlaw03_StuffMost.Pure := by
  intro l0 a1 _ hl hw h1
  obtain ⟨u0, u1⟩ := H.of_wfu16 h1
  obtain ⟨n, rfl⟩ := Int.eq_ofNat_of_zero_le u0
  obtain ⟨K0, hh⟩ := head03_k
  obtain ⟨K1, k1⟩ := bits03_k l0
  have hb := bits03_bit l0
  have hlen := bits03_len l0
  generalize bits03 l0 = l at k1 hb hlen
  have hsl : (H.stuffB l).length ≤ 2 * l.length := H.stuffS_len l
  have hge : l.length ≤ (H.stuffB l).length := by rw [H.stuffB_go hb]; exact H.stuffGo_len l _
  have hm := H.stuff_most l (-1, 0) hb H.Ok.start
  rw [← H.stuffB_go hb] at hm
  replace hm : 4 * (((H.stuffB l).length : Int) - l.length) + (H.stuffE (-1, 0) l).2 ≤ 0 + l.length := hm
  have hE : l ≠ [] → 1 ≤ (H.stuffE (-1, 0) l).2 := fun hne => H.stuffE_pos l _ hb H.Ok.start (.inr hne)
  have hno : ¬ wrap64 (((H.stuffB l).length : Int) - (l.length : Int)) > wrap64 (mx 0 (wrap64 ((l.length : Int) - 1)) / 4) := by
    by_cases hne : l = []
    · subst hne; decide +kernel
    · have h2 := hE hne
      have hpos := List.length_pos_iff.mpr hne
      have : mx 0 (wrap64 ((l.length : Int) - 1)) = (l.length : Int) - 1 := by unfold mx wrap64; split <;> omega
      rw [this]
      unfold wrap64
      omega
  obtain ⟨K2, k2⟩ := most_l0 n (by omega) (1 + n % 300) 0 (by omega)
  refine ⟨K0 + K1 + K2, ?_⟩
  unfold phaetonlaw03_StuffMost.f
  rw [hh _ (by omega), Option.bind_some, k1 _ (by omega), Option.bind_some, stuffStuff_eq l (by omega), Option.bind_some, if_neg hno]
  exact k2 _ (by omega)
end Go.Proofs.Ytlggjgabefjjoaa.Pure
