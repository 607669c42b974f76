/- '[]byte("..")' within a region that draws its order, and an append to a row that is read, as long as it may be. -/
import Derived.Test.YtfgbcpdlhdgofaaHandW
import Derived.ArgAppend
set_option linter.unusedVariables false
set_option linter.unusedSimpArgs false
namespace Go.Proofs.Ytfgbcpdlhdgofaa.HW
open Go.RowKit Go.Proofs.YtfgbcpdlhdgofaaW.PrintWords Go.Proofs.YtfgbcpdlhdgofaaW.PrintLast
theorem C_marked {W : World} {e : TypeId} {g n : Nat} {f : Nat × Nat} {cs : Array Value} (xs : List Int) (h : W.heap[g]? = some (.cells cs e f)) (hcs : cs = (xs.map fun x => Value.int .u8 x).toArray) (hn : xs.length = n) (hm : n ≤ 9223372036854775807) : Kd.C (Kd.int .u8) W (some ⟨g, 0, none⟩) n xs := by
  subst hn
  refine ⟨rfl, hm, fun _ => ⟨_, rfl, fun j p hj => ⟨[.int .u8 p], rfl, rfl, fun i u hu => ?_⟩⟩⟩
  have hi : i = 0 := by
    rcases Nat.eq_zero_or_pos i with h | h
    · exact h
    · rw [List.getElem?_eq_none (by simp; omega)] at hu; cases hu
  subst hi
  have hu' : u = .int .u8 p := by simpa using hu.symm
  subst hu'
  rw [show ((⟨g, 0, none⟩ : Addr).add (j * (Kd.int .u8).sz + 0)) = ⟨g, j, none⟩ by rw [add_plain]; congr 1; show j * 1 + 0 = j; omega]
  rw [cell_of_row _ _ j cs e f h, hcs]
  simp [hj]
section
variable {P : Program} {ops : Array Oper} {o : Oper} {a : Act} {Q : Exit → Act → World → Prop} {Kc : Act → World → Prop}
theorem lit_step {w0 W : World} (base : Nat) (hw : Region.wanted o (yielded ops a.tmps) = true) {n : Nat} {cs : Array Value} {e : TypeId}
    (hrun : (execOp a.eval o).run P W = .ok (.value (.slice (some ⟨W.heap.size, 0, none⟩) n n)) (W.alloc (.cells cs e))) (HB : Below base w0 W) (hbase : base ≤ W.heap.size)
    (h : ∀ g w1, W.heap.size = g → w1.heap[g]? = some (.cells cs e (0, 0)) → Below base w0 w1 → W.grownBy w1 none → Kc (a.put o.dst (.slice (some ⟨g, 0, none⟩) n n)) w1) : if Region.wanted o (yielded ops a.tmps) = true then Oper.wp P o a W Kc Q else Kc (a.put o.dst undef) W :=
  event_step hw hrun (h _ _ rfl (heap_alloc_new W _) (HB.alloc hbase _) (World.grownBy_alloc W _ none))
theorem freeze_grown (W : World) (g k : Nat) {cs : Array Value} {e : TypeId} (hg : W.heap[g]? = some (.cells cs e (0, 0))) : W.grownBy (W.freeze ⟨g, k, none⟩ 1) (some g) ∧ (W.freeze ⟨g, k, none⟩ 1).heap[g]? = some (.cells cs e (k, k + 1)) := by
  unfold World.freeze
  rw [if_neg (by decide)]
  refine ⟨⟨rfl, rfl, rfl, by simp, fun i hi hne => ?_⟩, ?_⟩
  · show (W.heap.modify _ _)[i]? = _
    rw [Array.getElem?_modify, if_neg (fun e => hne (congrArg some e.symm))]
  · show (W.heap.modify _ _)[g]? = _
    rw [Array.getElem?_modify, if_pos rfl, hg]; rfl
theorem mark_step {w0 W : World} (base : Nat) (hw : Region.wanted o (yielded ops a.tmps) = true) (t e : TypeId) (x : Operand) (ho : o.op = .convert t t x) (ht : P.underlying t = some (.slice e)) (he : P.underlying e = some (.int .u8)) {g n c : Nat} {cs : Array Value}
    (hx : a.eval x = .slice (some ⟨g, 0, none⟩) n c) (hg : W.heap[g]? = some (.cells cs e (0, 0))) (HB : Below base w0 W) (hbase : base ≤ W.heap.size) (hgb : base ≤ g)
    (h : ∀ w1, w1.heap[g]? = some (.cells cs e (cs.size, cs.size + 1)) → Below base w0 w1 → W.grownBy w1 (some g) → Kc (a.put o.dst (.slice (some ⟨g, 0, none⟩) n c)) w1) : if Region.wanted o (yielded ops a.tmps) = true then Oper.wp P o a W Kc Q else Kc (a.put o.dst undef) W := by
  have hsh : W.shape? g = some (e, cs.size) := by unfold World.shape?; rw [hg]
  obtain ⟨h1, h2⟩ := freeze_grown W g cs.size hg
  have hrun : (execOp a.eval o).run P W = .ok (.value (.slice (some ⟨g, 0, none⟩) n c)) (W.freeze ⟨g, cs.size, none⟩ 1) := by
    unfold execOp
    simp [ho, hx, convert, run_underlying ht, run_underlying he, markStringish, hsh]
  exact event_step hw hrun (h _ h2 (HB.grown h1 hbase (fun k hk => by injection hk with hk; omega)) h1)
end
section
variable {P : Program} {ops : Array Oper} {rest : List Oper} {o : Oper} {a : Act} {Q : Exit → Act → World → Prop}
theorem append_read (k : IntKind) {w0 W : World} (base : Nat) (hgd : o.guard = none) (s x : Operand) (t e : TypeId) (bytes : Nat)
    (ho : o.op = .call { callee := .builtin .append, args := #[s, x], argTypes := #[t, t] }) (ht : P.underlying t = some (.slice e)) (hinfo : (P.info? e).map (fun i => (i.zero, i.size, i.bytes)) = some (some (.int k 0), 1, bytes)) (hb0 : 0 < bytes)
    (ad : Addr) (n : Nat) (xs ys : List Int) (A : Option Addr) (m c : Nat) (hs : a.eval s = .slice (some ad) n n) (hx : a.eval x = .slice A m c)
    (HS : (Kd.int k).C W (some ad) n xs) (HR : (Kd.int k).C W A m ys) (hm0 : 0 < m) (HB : Below base w0 W) (hbase : base ≤ W.heap.size) (hl : (n + m) * bytes ≤ 140737488355328)
    (h : ∀ v1 w1, (Kd.int k).R e w1 base (fun _ => True) v1 (xs ++ ys) → Below base w0 w1 → W.grownBy w1 none → wpList P ops Q rest (a.put o.dst v1) w1) : wpList P ops Q (o :: rest) a W := by
  obtain ⟨i0, hi, hzz⟩ := Option.map_eq_some_iff.1 hinfo
  simp only [Prod.mk.injEq] at hzz
  obtain ⟨hz0, hz1, hz2⟩ := hzz
  have hn : xs.length = n := HS.1
  have hm : ys.length = m := HR.1
  have hlen : n + m ≤ 140737488355328 := Nat.le_trans (Nat.le_mul_of_pos_right _ hb0) hl
  obtain ⟨ad2, rfl, _⟩ := HR.2.2 hm0
  have news : ∀ (A : Addr) (q : Nat) (l : List Int), (Kd.int k).C W (some A) q l → ∀ j u, (encs (Value.int k) l)[j]? = some u → W.cell? (A.add j) = some u := fun A q l hC j u hj => by
    have hr := (Kd.reads_of_C (d := (0 : Int)) hC)
    have hq1 : l.length = q := hC.1
    have hjl : j < l.length := by have := (List.getElem?_eq_some_iff.mp hj).1; rwa [encs_length] at this
    obtain ⟨_, _, hq⟩ := hr
    obtain ⟨ad', he, hc⟩ := hq (by omega)
    cases he
    rw [hc j (by omega), ← hj, encs_get (d := (0 : Int)) l j hjl]
  obtain ⟨v1, w1, hrun, h2, hg⟩ := run_append_arg_grows (P := P) W t o.type e i0 (.int k 0) 1 bytes ht hi hz0 hz1 hz2 rfl (by decide) ad n n (encs (Value.int k) xs) (by rw [encs_length, hn, Nat.mul_one]) (news ad n xs HS) ad2 m c (encs (Value.int k) ys) (by rw [encs_length, hm, Nat.mul_one]) (news ad2 m ys HR) (by omega) (by simp only [maxLen]; omega) hl
  refine wpList_plain hgd fun K hK => ?_
  unfold Oper.wp execOp
  simp only [ho, resolve, invoke, builtin, Sem.run_bind, Sem.run_pure, Result.andThen_ok, List.map_toArray, List.map_cons, List.map_nil, hs, hx, hrun]
  refine hK _ _ (h v1 w1 (Kd.R_lower (Kd.R_of_own ?_ (fun _ _ => trivial)) hbase) (HB.grown hg hbase (by simp)) hg)
  rw [List.length_append, hn, hm, encs_append]
  exact h2
end
end Go.Proofs.Ytfgbcpdlhdgofaa.HW
