/- The place of a fault is that of a bit behind five that it is alike to; ahead of it all is right but that the opposite is missing. -/
import Derived.Test.YtlggjgabefjjoaaPx4
import Derived.Test.YtlggjgabefjjoaaPureHead03
import Derived.Test.YtlggjgabefjjoaaHandStuffMore
set_option linter.unusedVariables false
namespace Go.Proofs.Ytlggjgabefjjoaa.Pure
open Go.RowKit Go.Proofs.Ytlggjgabefjjoaa.PB Go.Proofs.Ytlggjgabefjjoaa.Px Go.Proofs.YtlggjgabefjjoaaW.PrintWords Go.Proofs.YtlggjgabefjjoaaW.PrintLast Go.Proofs.YtlggjgabefjjoaaW.PrintMore
theorem place_l0 (l a : List Int) (p : Nat) (v : Int) (hp5 : 5 ≤ p) (hp : p ≤ l.length) (hl : l.length ≤ 300) (hv : ∀ i, p - 5 ≤ i → i < p → l.getD i 0 = v) (hv2 : p < l.length → l.getD p 0 = v) (hs : H.stripB (l.take p) = (a, (p : Int))) (ha : a.length ≤ 300) :
    ∀ d i : Nat, i + d = p → p - 5 ≤ i → Ev (fun k => phaetonlaw03_StuffPlace.l0 k l true a (p : Int) (i : Int)) true := by
  obtain ⟨K, hK⟩ := ints_k a (by omega)
  intro d
  induction d with
  | zero =>
    intro i hi _
    refine ⟨K + 1, fun k hk => ?_⟩
    obtain ⟨k, rfl⟩ : ∃ m, k = m + 1 := ⟨k - 1, by omega⟩
    show phaetonlaw03_StuffPlace.l0 (k + 1) l true a (p : Int) (i : Int) = _
    rw [phaetonlaw03_StuffPlace.l0.eq_2, if_neg (by omega), if_pos (by omega), if_pos (by omega), Int.toNat_natCast, stuffStrip_eq _ (by rw [List.length_take]; omega), Option.bind_some, hs, hK _ (by omega), Option.bind_some, if_pos rfl, if_pos rfl, if_pos rfl]
  | succ d ih =>
    intro i hi h5
    have e1 : wrap64 ((p : Int) - 1) = ((p - 1 : Nat) : Int) := by unfold wrap64; omega
    have v1 := hv i h5 (by omega)
    have v2 := hv (p - 1) (by omega) (by omega)
    refine Ev.step (f := fun k => phaetonlaw03_StuffPlace.l0 k l true a (p : Int) ((i + 1 : Nat) : Int)) (fun k => ?_) (ih (i + 1) (by omega) (by omega))
    rw [phaetonlaw03_StuffPlace.l0.eq_2, if_pos (by omega), if_pos (by omega), if_pos (by omega), e1, if_pos (by omega), if_pos (by omega), rd_nat, rd_nat, v1, v2, if_pos rfl, H.wrap_succ (n := p) (by omega) (by omega)]
    by_cases c : p < l.length
    · rw [if_pos (by omega), if_pos (by omega), rd_nat, hv2 c, if_pos rfl]
    · rw [if_neg (by omega)]
theorem StuffPlace : phaetonlaw03_StuffPlace.Pure := by
  intro l0 _ hl hw
  obtain ⟨K0, hh⟩ := head03_k
  obtain ⟨K1, k1⟩ := bits03_k l0
  have hb := bits03_bit l0
  have hlen := bits03_len l0
  generalize bits03 l0 = l at k1 hb hlen
  have hpl := H.strip_len l
  obtain ⟨a, f, he⟩ : ∃ a f, H.stripB l = (a, f) := ⟨_, _, rfl⟩
  rw [he] at hpl
  replace hpl : a.length ≤ l.length := hpl
  by_cases c : f = -1
  · refine ⟨K0 + K1, ?_⟩
    unfold phaetonlaw03_StuffPlace.f
    rw [hh _ (by omega), Option.bind_some, k1 _ (by omega), Option.bind_some, stuffStrip_eq l (by omega), Option.bind_some, he, if_pos c, if_pos (by show (a.length : Int) ≤ _; omega), if_pos rfl]
  · obtain ⟨_, hf⟩ := H.strip_place l 0 [] (-1, 0) a f hb (.inl rfl) (by decide) (by decide) he (fun x hx => by simp at hx)
    obtain ⟨h5, m, e1, e2, e3, e4, e5, e6⟩ := hf c
    obtain rfl : f = (m : Int) := by omega
    have hbt : ∀ x ∈ l.take m, H.Bit x := fun x hx => hb x (List.mem_of_mem_take hx)
    have hml : (l.take m).length = m := by rw [List.length_take]; omega
    have hall := H.tell_ge (l.take m) hbt (by omega) 5 (by omega) (by omega)
    have h5' : (H.tellS (l.take m)).2 = 5 := e5
    rw [decide_eq_true (by omega), hml] at hall
    have hv : ∀ i, m - 5 ≤ i → i < m → l.getD i 0 = (H.tellS (l.take m)).1 := fun i i1 i2 => by
      have hmem : l.getD i 0 ∈ (l.take m).drop (m - 5) := by
        rw [List.getD_eq_getElem?_getD, List.getElem?_eq_getElem (by omega), Option.getD_some]
        refine List.mem_drop_iff_getElem.mpr ⟨i - (m - 5), by omega, ?_⟩
        rw [List.getElem_take]
        congr 1; omega
      simpa using List.all_eq_true.mp hall _ hmem
    obtain ⟨K2, k2⟩ := place_l0 l a m (H.tellS (l.take m)).1 (by omega) e2 hlen hv (fun hm => e6 hm) e4 (by omega) 5 (m - 5) (by omega) (by omega)
    have ew : wrap64 ((m : Int) - 5) = ((m - 5 : Nat) : Int) := by unfold wrap64; omega
    refine ⟨K0 + K1 + K2 + 1, ?_⟩
    unfold phaetonlaw03_StuffPlace.f
    rw [hh _ (by omega), Option.bind_some, k1 _ (by omega), Option.bind_some, stuffStrip_eq l (by omega), Option.bind_some, he, if_neg c, if_neg (by show ¬ (m : Int) < 5; omega), decide_eq_false (by show ¬ (m : Int) > _; omega), phaetonlaw03_StuffPlace.j0.eq_2, if_neg (by decide), ew]
    exact k2 _ (by omega)
end Go.Proofs.Ytlggjgabefjjoaa.Pure
