/- Words of this session's own over the print's words: a constant's bytes, which are read (the row bears the run-time's mark, so it is no row of the call's own). -/
import Derived.Test.YtfbmgflkfpppmaaWWords
import Derived.Test.YtfbmgflkfpppmaaWLast
import Derived.Test.YtfbmgflkfpppmaaWMore
import Derived.Test.YtfbmgflkfpppmaaHand
import Derived.Lib.SlBytesConst
import Derived.Maps.AppendAt
import Derived.OwnWalk
import Derived.Lib.SliceRun
set_option linter.unusedVariables false
set_option linter.unusedSimpArgs false
namespace Go.Proofs.Ytfbmgflkfpppmaa.HW
open Go.RowKit Go.Proofs.YtfbmgflkfpppmaaW.PrintWords

def RdV (w : World) (v : Value) (xs : List Int) : Prop := ∃ A c, v = .slice A xs.length c ∧ xs.length ≤ c ∧ Kd.C (Kd.int .u8) w A xs.length xs
theorem RdV.slice {w : World} {v : Value} {xs : List Int} (h : RdV w v xs) : ∃ A c, v = .slice A xs.length c := by
  obtain ⟨A, c, h, _⟩ := h
  exact ⟨A, c, h⟩
theorem RdV.reads {w : World} {A : Option Addr} {n c : Nat} {xs : List Int} (h : RdV w (.slice A n c) xs) : n = xs.length ∧ n ≤ c ∧ Kd.C (Kd.int .u8) w A xs.length xs := by
  obtain ⟨A', c', he, hc, hr⟩ := h
  injection he with h1 h2 h3
  subst h1 h2 h3
  exact ⟨rfl, hc, hr⟩
theorem RdV.below {w w1 : World} {v : Value} {xs : List Int} (h : RdV w v xs) (hb : Below w.heap.size w w1) : RdV w1 v xs := by
  obtain ⟨A, c, h, hc, hr⟩ := h
  exact ⟨A, c, h, hc, Kd.C_below hr hb⟩
theorem RdV.drew {w : World} {v : Value} {xs : List Int} (h : RdV w v xs) : RdV w.drew v xs := h.below (below_drew (Below.refl _ _))
theorem RdV.const (w : World) (e : TypeId) (n m : Nat) (xs : List Int) (cs : Array Value) (hcs : cs = (xs.map fun x => Value.int .u8 x).toArray) (hn : xs.length = n) (hm : n ≤ 9223372036854775807) (f : Nat × Nat) :
    RdV (w.alloc (.cells cs e f)) (.slice (some ⟨w.heap.size, 0, none⟩) n n) xs := by
  subst hn
  refine ⟨_, _, rfl, Nat.le_refl _, rfl, hm, fun _ => ⟨_, rfl, fun j p hj => ⟨[.int .u8 p], rfl, rfl, fun i u hu => ?_⟩⟩⟩
  have h1 : (w.alloc (.cells cs e f)).heap[w.heap.size]? = some (.cells cs e f) := heap_alloc_new w _
  have hi : i = 0 := by
    rcases Nat.eq_zero_or_pos i with h | h
    · exact h
    · rw [List.getElem?_eq_none (by simp; omega)] at hu; cases hu
  subst hi
  have hu' : u = .int .u8 p := by simpa using hu.symm
  subst hu'
  show (w.alloc _).cell? _ = _
  rw [show ((⟨w.heap.size, 0, none⟩ : Addr).add (j * (Kd.int .u8).sz + 0)) = ⟨w.heap.size, j, none⟩ by rw [add_plain]; congr 1; show j * 1 + 0 = j; omega]
  rw [cell_of_row _ _ j cs e f h1, hcs]
  simp [hj]
theorem len_as {P : Program} {f : Nat} {A : Option Addr} {c n m : Nat} {w : World} {Q : Ending → World → Prop} (h : m = n) (k : Calls P f #[.slice A m c] w Q) : Calls P f #[.slice A n c] w Q := h ▸ k
section
variable {P : Program} {ops : Array Oper} {rest : List Oper} {o : Oper} {a : Act} {Q : Exit → Act → World → Prop}
/-- A whole struct is stored into its own block. -/
theorem store_box {W : World} (hN : o.dst = none) (hgd : o.guard = none) (t : TypeId) (p x : Operand) (ho : o.op = .store t p x) {g tb : Nat} {cur cs : Array Value} (haddr : a.eval p = .pointer (some ⟨g, 0, none⟩)) (hx : a.eval x = .agg cs)
    (hb : W.heap[g]? = some (.cells cur tb (0, 0))) (hsz : cs.size = cur.size) (ht : (P.info? t).map (·.size) = some cs.size) (h1 : ∀ q ∈ cs.toList, q.oneCell' = true)
    (h : ∀ w1, w1 = W.setCells g 0 cs.toList → wpList P ops Q rest a w1) : wpList P ops Q (o :: rest) a W := by
  have hrun := run_store_run (P := P) (o := 0) t (.agg cs) cs.toList hb rfl (by rw [ht, Array.length_toList]) (by rw [Array.length_toList]; omega) h1
  refine wpList_plain hgd fun K hK => ?_
  unfold Oper.wp execOp
  simp only [ho, haddr, hx, Sem.run_bind, Sem.run_pure, Result.andThen_ok, hrun]
  show K (a.put o.dst undef) _
  rw [hN]
  exact hK _ _ (h _ rfl)
end
/-- append(v, ys...) of rows of numbers, at a step of a region that draws its order ('go_region_law'). -/
theorem step_append_ints {P : Program} {o : Oper} {ops : Array Oper} {a : Act} {Q : Exit → Act → World → Prop} {Kc : Act → World → Prop} (k : IntKind) {w0 W : World} (base : Nat) (hw : Region.wanted o (yielded ops a.tmps) = true) (s x : Operand) (t e : TypeId) (bytes : Nat)
    (ho : o.op = .call { callee := .builtin .append, args := #[s, x], argTypes := #[t, t] }) (ht : P.underlying t = some (.slice e)) (hinfo : (P.info? e).map (fun i => (i.zero, i.size, i.bytes)) = some (some (.int k 0), 1, bytes)) (hb0 : 0 < bytes)
    (v : Value) (xs ys : List Int) (A : Option Addr) (m c : Nat) (hs : a.eval s = v) (hx : a.eval x = .slice A m c)
    (HO : (Kd.int k).R e W base (fun _ => True) v xs) (HR : (Kd.int k).C W A m ys) (HB : Below base w0 W) (hbase : base ≤ W.heap.size) (hl : (xs.length + m) * bytes ≤ 140737488355328)
    (h : ∀ v1 w1, (Kd.int k).R e w1 base (fun _ => True) v1 (xs ++ ys) → Below base w0 w1 → W.grownBy w1 v.ownBlock → Kc (a.put o.dst v1) w1) :
    if Region.wanted o (yielded ops a.tmps) = true then Oper.wp P o a W Kc Q else Kc (a.put o.dst undef) W := by
  obtain ⟨i0, hi, hzz⟩ := Option.map_eq_some_iff.1 hinfo
  simp only [Prod.mk.injEq] at hzz
  obtain ⟨hz0, hz1, hz2⟩ := hzz
  have hown := Kd.own_of_R HO
  have hm : ys.length = m := HR.1
  have hlen : xs.length + m ≤ 140737488355328 := Nat.le_trans (Nat.le_mul_of_pos_right _ hb0) hl
  have hrun : ∃ v1 w1, (Builtin.append_ #[t, t] o.type #[v, .slice A m c]).run P W = .ok v1 w1 ∧ (Kd.int k).R e w1 base (fun _ => True) v1 (xs ++ ys) ∧ W.grownBy w1 v.ownBlock := by
    cases A with
    | none =>
      have h0 : m = 0 := by
        rcases Nat.eq_zero_or_pos m with h0 | h0
        · exact h0
        · obtain ⟨ad, h, _⟩ := HR.2.2 h0
          cases h
      subst h0
      obtain rfl : ys = [] := List.eq_nil_of_length_eq_zero hm
      rcases hown.2 with ⟨rfl, hn⟩ | ⟨g, cap, cur, rfl, _, _, hnc, _⟩
      · refine ⟨_, W, ?_, by rw [List.append_nil]; exact HO, World.grownBy.refl W _⟩
        simp [Builtin.append_, run_underlying ht, sizeOf, typeInfo, hi, Builtin.lenOf, Builtin.firstCells]
      · refine ⟨_, W, ?_, by rw [List.append_nil]; exact HO, World.grownBy.refl W _⟩
        simp [Builtin.append_, run_underlying ht, sizeOf, typeInfo, hi, Builtin.lenOf, Builtin.firstCells, hnc, storeCells]
    | some ad =>
      have hr := (Kd.reads_of_C (d := (0 : Int)) HR)
      have hnews : ∀ j u, (encs (Value.int k) ys)[j]? = some u → W.cell? (ad.add j) = some u := fun j u hj => by
        have hjl : j < ys.length := by have := (List.getElem?_eq_some_iff.mp hj).1; rwa [encs_length] at this
        obtain ⟨_, _, hq⟩ := hr
        obtain ⟨ad', he, hc⟩ := hq (by omega)
        cases he
        rw [hc j (by omega), ← hj, encs_get (d := (0 : Int)) ys j hjl]
      obtain ⟨v1, w1, hrun, h2, hg, _, _⟩ := run_append_own_at (P := P) W base t o.type e i0 (.int k 0) 1 bytes ht hi hz0 hz1 hz2 rfl (by decide) v xs.length (encs (Value.int k) xs) hown ad m c (encs (Value.int k) ys) (by rw [encs_length, hm, Nat.mul_one]) hnews (fun u hu => by unfold encs at hu; obtain ⟨y, _, rfl⟩ := List.mem_map.mp hu; rfl) (by simp only [maxLen]; omega) hl hbase
      refine ⟨v1, w1, hrun, Kd.R_of_own ?_ (fun _ _ => trivial), hg⟩
      rw [List.length_append, hm, encs_append]
      exact h2
  obtain ⟨v1, w1, hr1, h1, hg⟩ := hrun
  rw [if_pos hw]
  unfold Oper.wp execOp
  simp only [ho, resolve, invoke, builtin, Sem.run_bind, Sem.run_pure, Result.andThen_ok, List.map_toArray, List.map_cons, List.map_nil, hs, hx, hr1]
  exact h v1 w1 h1 (HB.grown hg hbase (own_base hown)) hg
/-- A row of rows, at a place. -/
theorem at_rows {α : Type} {e : Nat} {d : Kd α} {w : World} {A : Option Addr} {n : Nat} {xs : List (List α)} (h : (Kd.slice e d).C w A n xs) (i : Nat) (h1 : i < n) : ∃ ad A0 c0, A = some ad ∧ w.cell? (ad.add i) = some (.slice A0 (xs.getD i []).length c0) ∧ (xs.getD i []).length ≤ c0 ∧ d.C w A0 (xs.getD i []).length (xs.getD i []) := by
  obtain ⟨ad, c, e1, _, hK, hc⟩ := Kd.C_get h ([] : List α) (i : Int) (by omega) (by omega)
  rw [Int.toNat_natCast] at hK hc
  obtain ⟨A0, c0, rfl, l0, g0⟩ := hK
  refine ⟨ad, A0, c0, e1, ?_, l0, g0⟩
  have hq := hc 0 _ rfl
  rw [show i * (Kd.slice e d).sz + 0 = i by show i * 1 + 0 = i; omega] at hq
  exact hq
section
variable {P : Program} {ops : Array Oper} {rest : List Oper} {o : Oper} {a : Act} {Q : Exit → Act → World → Prop}
theorem setCells_grown {W : World} {g : Nat} {cs : List Value} : W.grownBy (W.setCells g 0 cs) (some g) := by
  obtain ⟨h1, h2, h3, h4⟩ := setCells_same g cs 0 W
  exact ⟨h1, h2, h3, by omega, fun k hk hne => setCells_far cs 0 k (fun he => hne (by rw [he]))⟩
theorem setCells_all (g tb : Nat) (fr : Nat × Nat) : ∀ (cs pre post : List Value) {W : World} (_ : W.heap[g]? = some (.cells (pre ++ post).toArray tb fr)) (_ : post.length = cs.length), (W.setCells g pre.length cs).heap[g]? = some (.cells (pre ++ cs).toArray tb fr)
  | [], pre, post, W, h, hl => by
    have : post = [] := List.eq_nil_of_length_eq_zero hl
    subst this
    exact h
  | c :: cs, pre, [], W, h, hl => by simp at hl
  | c :: cs, pre, p :: post, W, h, hl => by
    have h1 : (W.setCell ⟨g, pre.length, none⟩ c).heap[g]? = some (.cells ((pre ++ [c]) ++ post).toArray tb fr) := by
      simp only [World.setCell, Array.getElem?_modify, if_true, h, Option.map_some]
      simp
    have h2 := setCells_all g tb fr cs (pre ++ [c]) post h1 (by simpa using hl)
    rw [World.setCells]
    rw [List.length_append, List.length_singleton] at h2
    rw [h2]
    simp
/-- A whole struct is stored into its own block; the world behind it is a letter. -/
theorem store_box' {W : World} (hN : o.dst = none) (hgd : o.guard = none) (t : TypeId) (p x : Operand) (ho : o.op = .store t p x) {g tb : Nat} {cur cs : Array Value} (haddr : a.eval p = .pointer (some ⟨g, 0, none⟩)) (hx : a.eval x = .agg cs)
    (hb : W.heap[g]? = some (.cells cur tb (0, 0))) (hsz : cs.size = cur.size) (ht : (P.info? t).map (·.size) = some cs.size) (h1 : ∀ q ∈ cs.toList, q.oneCell' = true)
    (h : ∀ w1, w1.heap[g]? = some (.cells cs tb (0, 0)) → W.grownBy w1 (some g) → wpList P ops Q rest a w1) : wpList P ops Q (o :: rest) a W := by
  refine store_box hN hgd t p x ho haddr hx hb hsz ht h1 fun w1 hw1 => ?_
  subst hw1
  have := setCells_all g tb (0, 0) cs.toList [] cur.toList (W := W) (by simpa using hb) (by rw [Array.length_toList, Array.length_toList]; omega)
  exact h _ (by simpa using this) setCells_grown
/-- A field of one cell is stored; the world behind it is a letter. -/
theorem store_field {W : World} (hN : o.dst = none) (hgd : o.guard = none) (t : TypeId) (p x : Operand) (ho : o.op = .store t p x) {g j tb : Nat} {cur : Array Value} {v : Value} (haddr : a.eval p = .pointer (some ⟨g, j, none⟩)) (hx : a.eval x = v) (hv : v.cells = #[v])
    (hb : W.heap[g]? = some (.cells cur tb (0, 0))) (hj : j < cur.size) (ht : (P.info? t).map (·.size) = some 1) (h1 : v.oneCell' = true)
    (h : ∀ w1, w1.heap[g]? = some (.cells (cur.setIfInBounds j v) tb (0, 0)) → W.grownBy w1 (some g) → wpList P ops Q rest a w1) : wpList P ops Q (o :: rest) a W := by
  have hrun := run_store_run (P := P) (o := j) t v [v] hb (by rw [hv]) (by rw [ht]; rfl) (by simp only [List.length_singleton]; omega) (fun q hq => by rw [List.mem_singleton.1 hq]; exact h1)
  refine wpList_plain hgd fun K hK => ?_
  unfold Oper.wp execOp
  simp only [ho, haddr, hx, Sem.run_bind, Sem.run_pure, Result.andThen_ok, hrun]
  show K (a.put o.dst undef) _
  rw [hN]
  exact hK _ _ (h _ (blk_set hb j v) ⟨rfl, rfl, rfl, by simp [World.setCells, World.setCell], fun k _ hk => Below.heap_setCell _ _ _ k (fun e => hk (by rw [e]))⟩)
end
section
variable {P : Program} {ops : Array Oper} {rest : List Oper} {o : Oper} {a : Act} {Q : Exit → Act → World → Prop}
/-- Cells of a row of numbers are set, one by one: it is still a row, as long. -/
theorem row_setCells {k : IntKind} {e : TypeId} {base : Nat} {ok : Nat → Prop} {g n cap : Nat} (z : Int) : ∀ (m o : Nat) {W : World} {xs : List Int}, (Kd.int k).R e W base ok (.slice (some ⟨g, 0, none⟩) n cap) xs →
    ∃ ys : List Int, ys.length = xs.length ∧ (Kd.int k).R e (W.setCells g o (List.replicate m (.int k z))) base ok (.slice (some ⟨g, 0, none⟩) n cap) ys
  | 0, o, W, xs, h => ⟨xs, rfl, h⟩
  | m + 1, o, W, xs, h => by
    have h1 := Kd.R_putn h (o : Int) z
    rw [Int.toNat_natCast] at h1
    obtain ⟨ys, hl, hy⟩ := row_setCells z m (o + 1) h1
    exact ⟨ys, by rw [hl, List.length_set], by rw [List.replicate_succ, World.setCells]; exact hy⟩
/-- 'clear(xs)' of a row of numbers of the call's own. -/
theorem clear_row (k : IntKind) {base : Nat} {ok : Nat → Prop} {W : World} (hgd : o.guard = none) (s : Operand) (t e : TypeId) (ho : o.op = .call { callee := .builtin .clear, args := #[s], argTypes := #[t] }) (ht : P.underlying t = some (.slice e)) (hv : ∀ w, (zeroValue e).run P w = .ok (.int k 0) w)
    {g n c : Nat} (hs : a.eval s = .slice (some ⟨g, 0, none⟩) n c) {xs : List Int} (HO : (Kd.int k).R e W base ok (.slice (some ⟨g, 0, none⟩) n c) xs)
    (h : ∀ w1 ys, ys.length = xs.length → (Kd.int k).R e w1 base ok (.slice (some ⟨g, 0, none⟩) n c) ys → W.grownBy w1 (some g) → wpList P ops Q rest (a.put o.dst (.tuple #[])) w1) : wpList P ops Q (o :: rest) a W := by
  have hrun : ∃ w1 ys, (Builtin.clear_ #[t] o.type #[.slice (some ⟨g, 0, none⟩) n c]).run P W = .ok (.tuple #[]) w1 ∧ ys.length = xs.length ∧ (Kd.int k).R e w1 base ok (.slice (some ⟨g, 0, none⟩) n c) ys ∧ W.grownBy w1 (some g) := by
    cases n with
    | zero => exact ⟨W, xs, by simp [Builtin.clear_, run_underlying ht], rfl, HO, World.grownBy.refl W _⟩
    | succ m =>
      have hc : ∀ j, j < m + 1 → W.cell? ⟨g, 0 + j, none⟩ = some (.int k (rdOf 0 xs (j : Int))) ∧ W.frozen? ⟨g, 0 + j, none⟩ = false := fun j hj => by
        have h1 := Kd.R_celln (0 : Int) HO (j : Int) (by omega) (by omega)
        rw [Int.toNat_natCast] at h1
        rw [Nat.zero_add]; exact h1
      obtain ⟨ys, hl, hy⟩ := row_setCells 0 (m + 1) 0 HO
      exact ⟨_, ys, Lib.run_clear_slice W t e o.type (.int k 0) ht hv rfl rfl g 0 (m + 1) c (by omega) (fun j hj => by rw [(hc j hj).1]; rfl) (fun j hj => (hc j hj).2), hl, hy, setCells_grown⟩
  obtain ⟨w1, ys, hr, hl, hy, hg⟩ := hrun
  refine wpList_plain hgd fun K hK => ?_
  unfold Oper.wp execOp
  simp only [ho, resolve, invoke, builtin, Sem.run_bind, Sem.run_pure, Result.andThen_ok, List.map_toArray, List.map_cons, List.map_nil, hs, hr]
  exact hK _ _ (h w1 ys hl hy hg)
end
end Go.Proofs.Ytfbmgflkfpppmaa.HW
