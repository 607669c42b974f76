/- Arguments of a law opened to the print's kinds: what reads as data of a type is a value of its kind, nested as it may be. -/
import Derived.Test.YtfbmgflkfpppmaaWWords
import Derived.ChangeShapes
import Derived.ChangeSlices
import Derived.ChangeArms
import Derived.Deep.Slices
import Derived.OpenShut
import Derived.DataReads
set_option linter.unusedVariables false
set_option linter.unusedSimpArgs false
namespace Go.Proofs.Ytfbmgflkfpppmaa.HR
open Go.RowKit Go.Proofs.YtfbmgflkfpppmaaW.PrintWords Go.ChangeShapes Go.WideShapes
section
variable {H : Type} {enc : TypeId × Value → H} {P : Program} {w : World} {base : Nat} {spare : Nat → Bool} {held : Bool}
/-- What reads as data of type t is of kind d; of its parts holds Wf. -/
def Opens {H : Type} (enc : TypeId × Value → H) (P : Program) (w : World) (base : Nat) (spare : Nat → Bool) (held : Bool) {α : Type} (t : TypeId) (d : Kd α) (Wf : α → Prop) : Prop :=
  ∀ fuel cs x, DataW.trod enc P w base spare held fuel t cs = some x → ∃ a, d.K w a cs ∧ Wf a
theorem opens_int {t : TypeId} {k : IntKind} (ht : P.underlying t = some (.int k)) : Opens enc P w base spare held t (Kd.int k) (fun a => (Lit.int k a).wf = true) := fun fuel cs x h => by
  obtain ⟨n, rfl, _, hw⟩ := DataW.trod_int ht h
  exact ⟨n, rfl, hw⟩
theorem opens_bool {t : TypeId} (ht : P.underlying t = some .bool) : Opens enc P w base spare held t Kd.bool (fun _ => True) := fun fuel cs x h => by
  obtain ⟨n, rfl, _⟩ := DataW.trod_bool ht h
  exact ⟨n, rfl, trivial⟩
theorem opens_slice {α : Type} {t e : TypeId} {d : Kd α} {Wf : α → Prop} (ht : P.underlying t = some (.slice e)) (hC : P.cellsOf e = d.sz) (he : Opens enc P w base spare held e d Wf) :
    Opens enc P w base spare held t (Kd.slice e d) (fun l => ∀ x ∈ l, Wf x) := fun fuel cs x h => by
  rcases Go.Deep.open_slice ht h with ⟨rfl, _⟩ | ⟨a, len, cap, m, n, D, Pl, rfl, hb, hl, hm, hmm, _, hi⟩
  · exact ⟨[], ⟨none, 0, rfl, Nat.le_refl _, rfl, by simp, fun h => absurd h (Nat.lt_irrefl 0)⟩, fun x hx => by cases hx⟩
  · have hlm : len ≤ m := by rw [hmm]; split <;> omega
    have hcell : ∀ i, i < len → ∃ (y : α) (c : List Value), c.length = d.sz ∧ d.K w y c ∧ Wf y ∧ ∀ j u, c[j]? = some u → w.cell? (a.add (i * d.sz + j)) = some u := fun i hil => by
      obtain ⟨cs', hc, ht'⟩ := hi i (by omega)
      obtain ⟨y, hK, hW⟩ := he _ _ _ ht'
      obtain ⟨_, hcl, hat⟩ := World.cells?_some hc
      refine ⟨y, cs', d.K_len hK, hK, hW, fun j u hu => ?_⟩
      have hj : j < cs'.length := (List.getElem?_eq_some_iff.mp hu).1
      rw [hC] at hat
      rw [← add_add, hat j (by rw [← d.K_len hK]; exact hj), hu]
    have : ∃ f : Nat → Option α, ∀ i, i < len → ∃ y, f i = some y ∧ ∃ c : List Value, c.length = d.sz ∧ d.K w y c ∧ Wf y ∧ ∀ j u, c[j]? = some u → w.cell? (a.add (i * d.sz + j)) = some u := by
      refine ⟨fun i => if h : i < len then some (Classical.choose (hcell i h)) else none, fun i hil => ⟨Classical.choose (hcell i hil), by simp [hil], Classical.choose_spec (hcell i hil)⟩⟩
    obtain ⟨f, hf⟩ := this
    have hmap : ∀ n, n ≤ len → ∃ xs : List α, xs.length = n ∧ ∀ i, i < n → ∃ y, xs[i]? = some y ∧ f i = some y := fun n => by
      induction n with
      | zero => intro _; exact ⟨[], rfl, fun i hi => by omega⟩
      | succ n ih =>
        intro hn
        obtain ⟨xs, hxl, hxs⟩ := ih (by omega)
        obtain ⟨y, hy, _⟩ := hf n (by omega)
        refine ⟨xs ++ [y], by simp [hxl], fun i hi => ?_⟩
        by_cases hin : i < n
        · obtain ⟨z, hz, hfz⟩ := hxs i hin
          exact ⟨z, by rw [List.getElem?_append_left (by omega)]; exact hz, hfz⟩
        · obtain rfl : i = n := by omega
          exact ⟨y, by rw [List.getElem?_append_right (by omega), hxl, Nat.sub_self]; rfl, hy⟩
    obtain ⟨xs, hxl, hxs⟩ := hmap len (Nat.le_refl _)
    have hall : ∀ j p, xs[j]? = some p → ∃ c : List Value, c.length = d.sz ∧ d.K w p c ∧ Wf p ∧ ∀ i u, c[i]? = some u → w.cell? (a.add (j * d.sz + i)) = some u := fun j p hj => by
      have hjl : j < len := by rw [← hxl]; exact (List.getElem?_eq_some_iff.mp hj).1
      obtain ⟨y, h1, h2⟩ := hxs j hjl
      obtain ⟨z, h3, c, h4⟩ := hf j hjl
      rw [h2] at h3; rw [hj] at h1
      cases h3; cases h1
      exact ⟨c, h4⟩
    refine ⟨xs, ⟨some a, cap, by rw [hxl], by omega, rfl, by rw [hxl]; unfold maxLen at hm; omega, fun _ => ⟨a, rfl, fun j p hj => ?_⟩⟩, fun p hp => ?_⟩
    · obtain ⟨c, h1, h2, _, h3⟩ := hall j p hj
      exact ⟨c, h1, h2, h3⟩
    · obtain ⟨j, hj, rfl⟩ := List.getElem_of_mem hp
      obtain ⟨c, _, _, h3, _⟩ := hall j _ (List.getElem?_eq_getElem hj)
      exact h3
theorem opens_iso {α β : Type} {t : TypeId} {d : Kd α} {Wf : α → Prop} (f : β → α) (g : α → β) (hfg : ∀ a, f (g a) = a) (h : Opens enc P w base spare held t d Wf) : Opens enc P w base spare held t (Kd.iso d f) (fun b => Wf (f b)) := fun fuel cs x ht => by
  obtain ⟨a, hK, hW⟩ := h fuel cs x ht
  exact ⟨g a, by show d.K w (f (g a)) cs; rw [hfg]; exact hK, by show Wf (f (g a)); rw [hfg]; exact hW⟩
/-- A struct's fields from one on, whose cells begin at 'off'. -/
def OpensF {H : Type} (enc : TypeId × Value → H) (P : Program) (w : World) (base : Nat) (spare : Nat → Bool) (held : Bool) {α : Type} (fs : List Field) (off : Nat) (d : Kd α) (Wf : α → Prop) : Prop :=
  ∀ cs : List Value, cs.length = off + d.sz → (∀ f ∈ fs, ∃ n y, DataW.trod enc P w base spare held n f.type ((cs.drop f.offset).take (P.cellsOf f.type)) = some y) → ∃ a, d.K w a (cs.drop off) ∧ Wf a
theorem opensF_last {α : Type} {f : Field} {off : Nat} {d : Kd α} {Wf : α → Prop} (ho : f.offset = off) (hC : P.cellsOf f.type = d.sz) (h : Opens enc P w base spare held f.type d Wf) : OpensF enc P w base spare held [f] off d Wf := fun cs hl hf => by
  obtain ⟨n, y, hy⟩ := hf f (by simp)
  rw [ho, hC, List.take_of_length_le (by rw [List.length_drop]; omega)] at hy
  exact h _ _ _ hy
theorem opensF_cons {α β : Type} {f : Field} {fs : List Field} {off : Nat} {d : Kd α} {d2 : Kd β} {Wf : α → Prop} {Wf2 : β → Prop} (ho : f.offset = off) (hC : P.cellsOf f.type = d.sz) (h : Opens enc P w base spare held f.type d Wf)
    (hs : OpensF enc P w base spare held fs (off + d.sz) d2 Wf2) : OpensF enc P w base spare held (f :: fs) off (Kd.pair d d2) (fun p => Wf p.1 ∧ Wf2 p.2) := fun cs hl hf => by
  obtain ⟨n, y, hy⟩ := hf f (by simp)
  rw [ho, hC] at hy
  have hsz : (Kd.pair d d2).sz = d.sz + d2.sz := rfl
  obtain ⟨a, hK, hW⟩ := h _ _ _ hy
  obtain ⟨b, hK2, hW2⟩ := hs cs (by rw [hl, hsz]; omega) (fun f' hf' => hf f' (by simp [hf']))
  refine ⟨(a, b), ⟨_, _, ?_, hK, hK2⟩, hW, hW2⟩
  rw [← List.drop_drop, List.take_append_drop]
theorem opens_struct {α : Type} {t : TypeId} {fs : Array Field} {d : Kd α} {Wf : α → Prop} (ht : P.underlying t = some (.struct fs)) (hC : P.cellsOf t = d.sz) (h : OpensF enc P w base spare held fs.toList 0 d Wf) : Opens enc P w base spare held t d Wf := fun fuel cs x hx => by
  obtain ⟨xs, n, _, _, hl, hlen, hf⟩ := DataW.trod_struct ht hx
  obtain ⟨a, hK, hW⟩ := h cs (by rw [hl, hC]; omega) (fun f hfm => by
    obtain ⟨i, hi, rfl⟩ := List.getElem_of_mem hfm
    rw [Array.length_toList] at hi
    refine ⟨n, xs[i]'(by omega), ?_⟩
    rw [hf i (fs.toList[i]) (by simp [hi])]
    exact List.getElem?_eq_getElem (by omega))
  exact ⟨a, by simpa using hK, hW⟩
/-- An array of two. -/
theorem opens_array2 {α : Type} {t e : TypeId} {d : Kd α} {Wf : α → Prop} (ht : P.underlying t = some (.array 2 e)) (hC : P.cellsOf e = d.sz) (hC2 : P.cellsOf t = d.sz + d.sz) (h : Opens enc P w base spare held e d Wf) :
    Opens enc P w base spare held t (Kd.pair d d) (fun p => Wf p.1 ∧ Wf p.2) := fun fuel cs x hx => by
  obtain ⟨xs, m, _, _, hl, hlen, hf⟩ := DataW.trod_array ht hx
  have h0 := hf 0 (by omega)
  have h1 := hf 1 (by omega)
  rw [List.getElem?_eq_getElem (by omega)] at h0 h1
  rw [hC, Nat.zero_mul, List.drop_zero] at h0
  rw [hC, Nat.one_mul, List.take_of_length_le (by rw [List.length_drop]; omega)] at h1
  obtain ⟨a, hK, hW⟩ := h _ _ _ h0
  obtain ⟨b, hK2, hW2⟩ := h _ _ _ h1
  exact ⟨(a, b), ⟨_, _, (List.take_append_drop _ _).symm, hK, hK2⟩, hW, hW2⟩
/-- An array of four. -/
theorem opens_array4 {α : Type} {t e : TypeId} {d : Kd α} {Wf : α → Prop} (ht : P.underlying t = some (.array 4 e)) (hC : P.cellsOf e = d.sz) (hC2 : P.cellsOf t = d.sz + (d.sz + (d.sz + d.sz))) (h : Opens enc P w base spare held e d Wf) :
    Opens enc P w base spare held t (Kd.pair d (Kd.pair d (Kd.pair d d))) (fun p => Wf p.1 ∧ Wf p.2.1 ∧ Wf p.2.2.1 ∧ Wf p.2.2.2) := fun fuel cs x hx => by
  obtain ⟨xs, m, _, _, hl, hlen, hf⟩ := DataW.trod_array ht hx
  have h0 := hf 0 (by omega)
  have h1 := hf 1 (by omega)
  have h2 := hf 2 (by omega)
  have h3 := hf 3 (by omega)
  rw [List.getElem?_eq_getElem (by omega)] at h0 h1 h2 h3
  rw [hC, Nat.zero_mul, List.drop_zero] at h0
  rw [hC, Nat.one_mul] at h1
  rw [hC, show 2 * d.sz = d.sz + d.sz by omega] at h2
  rw [hC, show 3 * d.sz = d.sz + (d.sz + d.sz) by omega, List.take_of_length_le (by rw [List.length_drop]; omega)] at h3
  obtain ⟨a0, hK0, hW0⟩ := h _ _ _ h0
  obtain ⟨a1, hK1, hW1⟩ := h _ _ _ h1
  obtain ⟨a2, hK2, hW2⟩ := h _ _ _ h2
  obtain ⟨a3, hK3, hW3⟩ := h _ _ _ h3
  refine ⟨(a0, a1, a2, a3), ⟨_, _, ?_, hK0, _, _, rfl, hK1, _, _, rfl, hK2, hK3⟩, hW0, hW1, hW2, hW3⟩
  have e2 : (cs.drop (d.sz + d.sz)).take d.sz ++ cs.drop (d.sz + (d.sz + d.sz)) = cs.drop (d.sz + d.sz) := by
    have e3 : cs.drop (d.sz + (d.sz + d.sz)) = (cs.drop (d.sz + d.sz)).drop d.sz := by rw [List.drop_drop, Nat.add_assoc]
    rw [e3, List.take_append_drop]
  have e4 : cs.drop (d.sz + d.sz) = (cs.drop d.sz).drop d.sz := by rw [List.drop_drop]
  rw [e2, e4, List.take_append_drop, List.take_append_drop]
/-- An argument that is a slice. -/
theorem arg_slice {α : Type} {r : Reach} {b0 : Nat} {t e : TypeId} {d : Kd α} {Wf : List α → Prop} {v : Value} {dd : DataW H} {p : List MemPlace} (ho : Opens enc P w base spare held t (Kd.slice e d) Wf) (ht : P.underlying t = some (.slice e))
    (hv : Value.okWide P w r b0 t v) (h : DataW.Trod enc P w base spare held t v dd p) : ∃ (A : Option Addr) (c : Nat) (l : List α), v = .slice A l.length c ∧ l.length ≤ c ∧ d.C w A l.length l ∧ Wf l := by
  obtain ⟨a, len, cap, rfl⟩ := okWide_slice ht hv
  obtain ⟨fuel, hf⟩ := h
  obtain ⟨l, ⟨A, c, he, hc, hC⟩, hW⟩ := ho _ _ _ hf
  simp [Value.cells] at he
  obtain ⟨rfl, rfl, rfl⟩ := he
  exact ⟨a, cap, l, rfl, hc, hC, hW⟩
/-- An argument that is a struct or an array. -/
theorem arg_agg {α : Type} {t : TypeId} {d : Kd α} {Wf : α → Prop} {v : Value} {dd : DataW H} {p : List MemPlace} (ho : Opens enc P w base spare held t d Wf) (hs : ∃ cs, v = .agg cs)
    (h : DataW.Trod enc P w base spare held t v dd p) : ∃ (cs : Array Value) (a : α), v = .agg cs ∧ d.K w a cs.toList ∧ Wf a := by
  obtain ⟨cs, rfl⟩ := hs
  obtain ⟨fuel, hf⟩ := h
  obtain ⟨a, hK, hW⟩ := ho _ _ _ hf
  exact ⟨cs, a, rfl, hK, hW⟩
theorem agg_struct {r : Reach} {b0 : Nat} {t : TypeId} {fs : Array Field} {v : Value} (ht : P.underlying t = some (.struct fs)) (hv : Value.okWide P w r b0 t v) : ∃ cs, v = .agg cs := by
  obtain ⟨cs, h, _⟩ := okWide_struct ht hv
  exact ⟨cs, h⟩
theorem agg_array {r : Reach} {b0 : Nat} {t : TypeId} {n : Nat} {e : TypeId} {v : Value} (ht : P.underlying t = some (.array n e)) (hv : Value.okWide P w r b0 t v) : ∃ cs, v = .agg cs := by
  simp only [Value.okWide, ht] at hv
  obtain ⟨cs, h, _⟩ := hv
  exact ⟨cs, h⟩
end
end Go.Proofs.Ytfbmgflkfpppmaa.HR
