/- Bits of which none is wrong are just what is stuffed of what they are stripped to: at most 300 bits. -/
import Derived.Test.YtlggjgabefjjoaaPx3
import Derived.Test.YtlggjgabefjjoaaPureHead03
set_option linter.unusedVariables false
namespace Go.Proofs.Ytlggjgabefjjoaa.Pure
open Go.RowKit Go.Proofs.Ytlggjgabefjjoaa.PB Go.Proofs.Ytlggjgabefjjoaa.Px Go.Proofs.YtlggjgabefjjoaaW.PrintWords Go.Proofs.YtlggjgabefjjoaaW.PrintLast Go.Proofs.YtlggjgabefjjoaaW.PrintMore
theorem StuffOnce : phaetonlaw03_StuffOnce.Pure := by
  intro l0 _ hl hw
  obtain ⟨K0, hh⟩ := head03_k
  obtain ⟨K1, k1⟩ := bits03_k l0
  have hb := bits03_bit l0
  have hlen := bits03_len l0
  generalize bits03 l0 = l at k1 hb hlen
  have hpl := H.strip_len l
  obtain ⟨a, f, he⟩ : ∃ a f, H.stripB l = (a, f) := ⟨_, _, rfl⟩
  rw [he] at hpl
  replace hpl : a.length ≤ l.length := hpl
  have hsl : (H.stuffB a).length ≤ 2 * a.length := H.stuffS_len a
  by_cases c : f = -1
  · subst c
    obtain ⟨e1, _⟩ := H.stuff_once hb he
    obtain ⟨K2, k2⟩ := ints_k l (by omega)
    refine ⟨K0 + K1 + K2, ?_⟩
    unfold phaetonlaw03_StuffOnce.f
    rw [hh _ (by omega), Option.bind_some, k1 _ (by omega), Option.bind_some, stuffStrip_eq l (by omega), Option.bind_some, he, if_pos rfl, stuffStuff_eq _ (by show a.length ≤ _; omega), Option.bind_some, e1, k2 _ (by omega), Option.bind_some, if_pos rfl, if_pos rfl]
  · obtain ⟨⟨ha, _⟩, hf⟩ := H.strip_place l 0 [] (-1, 0) a f hb (.inl rfl) (by decide) (by decide) he (fun x hx => by simp at hx)
    obtain ⟨h5, m, e1, e2, e3, _⟩ := hf c
    have hne : H.stuffB a ≠ l := fun e => by
      have := H.strip_back ha
      rw [e, he] at this
      exact c (congrArg Prod.snd this)
    obtain ⟨K2, k2⟩ := ints_ne_k hne (by omega)
    refine ⟨K0 + K1 + K2, ?_⟩
    unfold phaetonlaw03_StuffOnce.f
    rw [hh _ (by omega), Option.bind_some, k1 _ (by omega), Option.bind_some, stuffStrip_eq l (by omega), Option.bind_some, he, if_neg c, if_pos (by show f ≥ 5; omega), if_pos (by show f ≤ _; omega), if_pos (by show (a.length : Int) ≤ f; simp at e3; omega), stuffStuff_eq _ (by show a.length ≤ _; omega), Option.bind_some, k2 _ (by omega), Option.bind_some, if_neg (by decide), if_pos rfl]
end Go.Proofs.Ytlggjgabefjjoaa.Pure
