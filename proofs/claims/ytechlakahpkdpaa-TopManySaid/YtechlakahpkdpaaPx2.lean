-- Written by myprint.py, a program of this session's, over the kit's print.py; not a text of print.sh's own.
import Derived.Test.YtechlakahpkdpaaPx0
import Derived.Test.YtechlakahpkdpaaPx1
namespace Go.Proofs.Ytechlakahpkdpaa.Px
open Go.RowKit Go.Proofs.YtechlakahpkdpaaW.PrintWords Go.Proofs.YtechlakahpkdpaaW.PrintLast Go.Proofs.YtechlakahpkdpaaW.PrintMore
attribute [local go_sem] max2_int min2_int max_two min_two max_three min_three max_four min_four   -- for this text's walks alone
set_option linter.unusedVariables false
set_option linter.unusedSimpArgs false

/-! ### arb_race_step: helper -/
/-- A race: its variable's block; the ranks, who is in, where each was lost, what the line had. -/
def arb_At (w : World) (g B : Nat) (rs : List (List Int)) (ins : List Bool) (ls ln : List Int) : Prop :=
 B ≤ g ∧ ∃ vR vI vL vN, w.heap[g]? = some (.cells #[vR, vI, vL, vN] 45 (0, 0)) ∧ (Kd.slice 3 (Kd.int .i64)).R 30 w B (fun k => some k ≠ (vL : Value).ownBlock ∧ some k ≠ (vN : Value).ownBlock) vR rs ∧
  Kd.bool.R 4 w B (fun _ => True) vI ins ∧ (Kd.int .i64).R 3 w B (fun k => some k ≠ (vN : Value).ownBlock) vL ls ∧ (Kd.int .i64).R 3 w B (fun k => some k ≠ (vL : Value).ownBlock) vN ln
def arb_bitB (rs : List (List Int)) (ins : List Bool) (i at_ : Nat) : Int × Bool := if ins.getD i false = true ∧ at_ < (rs.getD i []).length then ((rs.getD i []).getD at_ 0, true) else (1, false)
set_option maxHeartbeats 1600000 in
set_option maxRecDepth 100000 in
theorem arb_bit (g B : Nat) (rs : List (List Int)) (ins : List Bool) (ls ln : List Int) (i at_ : Nat) (w : World) (hA : arb_At w g B rs ins ls ln) (hi : i < ins.length) (hr : rs.length = ins.length) (ha : at_ ≤ 1099511627776) :
  Calls Try.prog 39 #[.pointer (some ⟨g, 0, none⟩), .int .i64 (i : Int), .int .i64 (at_ : Int)] w fun e w' => e = .returned (.tuple #[.int .i64 (arb_bitB rs ins i at_).1, .bool (arb_bitB rs ins i at_).2]) ∧ w' = w := by
 obtain ⟨hB, vR, vI, vL, vN, hblk, hR, hI, hL, hN⟩ := hA
 have HN := Aside0.mk hN
 obtain ⟨AR, cR, rfl, _, hCR⟩ := Kd.R_reads hR
 obtain ⟨AI, cI, rfl, _, hCI⟩ := Kd.R_reads hI
 have p0 : (0 : Int) ≤ (i : Int) := by omega
 have q0 : (i : Int) < (ins.length : Int) := by omega
 have q1 : (i : Int) < (rs.length : Int) := by omega
 have q2 : i < ins.length := hi
 have q3 : i < rs.length := by omega
 obtain ⟨adI, eI, hI0⟩ := Kd.at_bool hCI i p0 q0
 obtain ⟨adR, A0, c0, eR, hR0, hc0, hC0⟩ := HW.at_rows hCR i q3
 cases eI
 cases eR
 have c0_ : w.cell? ⟨g, 0, none⟩ = some (.slice (some adR) rs.length cR) := (blk_cell hblk 0).trans rfl
 have c1_ : w.cell? ⟨g, 1, none⟩ = some (.slice (some adI) ins.length cI) := (blk_cell hblk 1).trans rfl
 rw [Int.toNat_natCast] at hI0
 have hb : arb_bitB rs ins i at_ = if ins.getD i false = true ∧ at_ < (rs.getD i []).length then ((rs.getD i []).getD at_ 0, true) else (1, false) := rfl
 have hrd : rdOf false ins (i : Int) = ins.getD i false := by unfold rdOf; rw [Int.toNat_natCast]
 rw [hrd] at hI0
 generalize ins.getD i false = b at hI0 hb
 generalize rs.getD i [] = row at hR0 hc0 hC0 hb
 generalize arb_bitB rs ins i at_ = res at hb ⊢
 have HBE := Aside0.mk hb
 have HC0 := Aside0.mk hC0
 have HH := Aside0.mk hr
 clear hb hC0 hblk hR hI hL hN hCR hCI hrd hr hi HN
 cases b with
 | false =>
  rw [if_neg (fun h => by cases h.1)] at HBE
  have hres := HBE.out
  subst hres
  go_enter Try.func39, Try.ntmps39
  go_wp2_with fail
  go_ret2
  exact ⟨rfl, rfl⟩
 | true =>
  by_cases hlt : at_ < row.length
  ·rw [if_pos ⟨rfl, hlt⟩] at HBE
   have hres := HBE.out
   subst hres
   have p2 : (0 : Int) ≤ (at_ : Int) := by omega
   have q4 : (at_ : Int) < (row.length : Int) := by omega
   obtain ⟨ad0, e0, hx⟩ := Kd.at_int HC0.out at_ p2 q4
   cases e0
   have hrd : rd row (at_ : Int) = row.getD at_ 0 := by unfold rd; rw [Int.toNat_natCast]
   rw [hrd, Int.toNat_natCast] at hx
   have hd : decide (row.length ≤ at_) = false := decide_eq_false (by omega)
   clear hrd
   go_enter Try.func39, Try.ntmps39
   go_wp2_with fail
   go_ret2
   exact ⟨rfl, rfl⟩
  ·rw [if_neg (fun h => hlt h.2)] at HBE
   have hres := HBE.out
   subst hres
   have hd : decide (row.length ≤ at_) = true := decide_eq_true (by omega)
   go_enter Try.func39, Try.ntmps39
   go_wp2_with fail
   go_ret2
   exact ⟨rfl, rfl⟩
/-- The bits that those who are in have at a place, of the first j. -/
def arb_bits (rs : List (List Int)) (ins : List Bool) (at_ : Nat) : Nat → List Int
 | 0 => []
 | j + 1 => if (arb_bitB rs ins j at_).2 = true then arb_bits rs ins at_ j ++ [(arb_bitB rs ins j at_).1] else arb_bits rs ins at_ j
theorem arb_bits_len (rs : List (List Int)) (ins : List Bool) (at_ : Nat) : ∀ j, (arb_bits rs ins at_ j).length ≤ j
 | 0 => Nat.le_refl _
 | j + 1 => by
  have := arb_bits_len rs ins at_ j
  unfold arb_bits
  split
  ·rw [List.length_append, List.length_singleton]; omega
  ·omega
def arb_and (l : List Int) : Int := l.foldl (fun a b => mn a b) 1
/-- Who is in, and where each was lost, behind the first j. -/
def arb_outs (rs : List (List Int)) (ins : List Bool) (ls : List Int) (at_ : Nat) (line : Int) : Nat → List Bool × List Int
 | 0 => (ins, ls)
 | j + 1 => if (arb_bitB rs (arb_outs rs ins ls at_ line j).1 j at_).2 = true ∧ line < (arb_bitB rs (arb_outs rs ins ls at_ line j).1 j at_).1 then
   ((arb_outs rs ins ls at_ line j).1.set j false, (arb_outs rs ins ls at_ line j).2.set j (at_ : Int)) else arb_outs rs ins ls at_ line j
theorem arb_outs_len (rs : List (List Int)) (ins : List Bool) (ls : List Int) (at_ : Nat) (line : Int) : ∀ j, (arb_outs rs ins ls at_ line j).1.length = ins.length ∧ (arb_outs rs ins ls at_ line j).2.length = ls.length
 | 0 => ⟨rfl, rfl⟩
 | j + 1 => by
  have := arb_outs_len rs ins ls at_ line j
  unfold arb_outs
  split
  ·exact ⟨by rw [List.length_set]; exact this.1, by rw [List.length_set]; exact this.2⟩
  ·exact this
/-- One place of a race: whether anybody has a bit there, and the race behind it. -/
def arb_stepB (rs : List (List Int)) (ins : List Bool) (ls ln : List Int) (at_ : Nat) : Bool × List Bool × List Int × List Int :=
 if (arb_bits rs ins at_ ins.length).length = 0 then (false, ins, ls, ln)
 else (true, (arb_outs rs ins ls at_ (arb_and (arb_bits rs ins at_ ins.length)) ins.length).1, (arb_outs rs ins ls at_ (arb_and (arb_bits rs ins at_ ins.length)) ins.length).2, ln ++ [arb_and (arb_bits rs ins at_ ins.length)])
theorem arb_At.below {w w' : World} {g B : Nat} {rs : List (List Int)} {ins : List Bool} {ls ln : List Int} (h : arb_At w g B rs ins ls ln) (hb : Below w.heap.size w w') : arb_At w' g B rs ins ls ln := by
 obtain ⟨hB, vR, vI, vL, vN, hblk, hR, hI, hL, hN⟩ := h
 exact ⟨hB, vR, vI, vL, vN, blk_below hblk hb, Kd.R_below hR hb, Kd.R_below hI hb, Kd.R_below hL hb, Kd.R_below hN hb⟩
theorem arb_At.lt {w : World} {g B : Nat} {rs : List (List Int)} {ins : List Bool} {ls ln : List Int} (h : arb_At w g B rs ins ls ln) : g < w.heap.size := by
 obtain ⟨hB, vR, vI, vL, vN, hblk, _⟩ := h
 exact blk_lt hblk
theorem arb_row_after {α : Type} {d : Kd α} {e : Nat} {W w1 : World} {B : Nat} {ok : Nat → Prop} {u : Value} {xs : List α} (h : d.R e W B ok u xs) {vold vnew : Value} (hne : ∀ k, ok k → some k ≠ vold.ownBlock) (hg : W.grownBy w1 vold.ownBlock)
  (hat : vnew.ownBlock = vold.ownBlock ∨ ∃ b, vnew.ownBlock = some b ∧ W.heap.size ≤ b) : d.R e w1 B (fun k => ok k ∧ some k ≠ vnew.ownBlock) u xs := by
 refine Kd.R_grown (Kd.R_mono (Kd.R_bound h) (fun k hk => ⟨hk.1, fun he => ?_⟩)) hg (fun k hk => hne k hk.1)
 rcases hat with hat | ⟨b, hb, hle⟩
 ·exact hne k hk.1 (he.trans hat)
 ·rw [hb] at he
  injection he with he
  have := hk.2.2.1
  omega
theorem arb_And_l0 (l : List Int) (hl : l.length ≤ 4611686018427387904) : ∀ d i : Nat, i + d = l.length → ∀ k, d < k → arb_And.l0 k (arb_and (l.take i)) l (l.length : Int) (i : Int) = some (arb_and l) := by
 intro d
 induction d with
 | zero =>
  intro i hi k hk
  obtain ⟨k, rfl⟩ : ∃ m, k = m + 1 := ⟨k - 1, by omega⟩
  rw [arb_And.l0.eq_2, if_neg (by omega), List.take_of_length_le (by omega)]
 | succ d ih =>
  intro i hi k hk
  obtain ⟨k, rfl⟩ : ∃ m, k = m + 1 := ⟨k - 1, by omega⟩
  have hlt : i < l.length := by omega
  rw [arb_And.l0.eq_2, if_pos (by omega), if_pos (by omega), if_pos (by omega), show wrap64 ((i : Int) + 1) = ((i + 1 : Nat) : Int) by unfold wrap64; omega]
  have h := ih (i + 1) (by omega) k (by omega)
  rw [H.take_snoc 0 l i hlt] at h
  have e : arb_and (l.take i ++ [l.getD i 0]) = mn (arb_and (l.take i)) (rd l (i : Int)) := by
   unfold arb_and rd
   rw [List.foldl_append, Int.toNat_natCast]; rfl
  rw [e] at h
  exact h
theorem arb_And_eq (l : List Int) (hl : l.length ≤ 4611686018427387904) : arb_And.f (l.length + 1) l = some (arb_and l) := arb_And_l0 l hl l.length 0 (by omega) _ (by omega)
set_option maxHeartbeats 3200000 in
set_option maxRecDepth 100000 in
theorem arb_step (g B : Nat) (rs : List (List Int)) (ins : List Bool) (ls ln : List Int) (at_ : Nat) (w0 w : World) (hA : arb_At w g B rs ins ls ln) (hB : Below B w0 w) (hr : rs.length = ins.length) (hs : ls.length = ins.length) (hi : ins.length ≤ 1099511627776) (hn : ln.length ≤ 1099511627776) (ha : at_ ≤ 1099511627776) :
  Calls Try.prog 34 #[.pointer (some ⟨g, 0, none⟩), .int .i64 (at_ : Int)] w fun e w' => e = .returned (.bool (arb_stepB rs ins ls ln at_).1) ∧ arb_At w' g B rs (arb_stepB rs ins ls ln at_).2.1 (arb_stepB rs ins ls ln at_).2.2.1 (arb_stepB rs ins ls ln at_).2.2.2 ∧ Below B w0 w' := by
 have hmf : ∀ (fn : Fn) (first cap : Array Value) (w : World), (Instr.makeFunc fn first cap).run Try.prog w = .ok (.func fn first cap) w := fun _ _ _ _ => rfl
 have HA := Aside0.mk hA
 have HB := Aside0.mk hB
 have HR := Aside0.mk hr
 have HS := Aside0.mk hs
 have HI := Aside0.mk hi
 have HN := Aside0.mk hn
 have HT := Aside0.mk ha
 have HW := Aside0.mk (Below.refl w.heap.size w)
 have c1 : ∃ AI cI, w.cell? ⟨g, 1, none⟩ = some (.slice AI ins.length cI) := by
  obtain ⟨_, vR, vI, vL, vN, hblk, _, hI, _, _⟩ := hA
  obtain ⟨AI, cI, rfl⟩ := Kd.R_slice hI
  exact ⟨AI, cI, (blk_cell hblk 1).trans rfl⟩
 obtain ⟨AI, cI, c1⟩ := c1
 have hmx : (ins.length : Int) ≤ 1099511627776 := by omega
 clear hA hB hr hs hn ha hi
 go_enter Try.func34, Try.ntmps34
 go_wp2
 go_loopw [6, 21] (fun u v wr => ∃ j : Nat, j ≤ ins.length ∧ v = .int .i64 j ∧ Aside0 ((Kd.int .i64).R 3 wr w.heap.size (fun _ => True) u (arb_bits rs ins at_ j)) ∧ Aside0 (Below w.heap.size w wr)) (fun _ v _ => ins.length - (intOf v).toNat)
 case atStart => exact ⟨0, Nat.zero_le _, rfl, ⟨Kd.R_nil _ _ _ _ _⟩, HW⟩
 case round =>
  clear HW
  obtain ⟨j, hj, rfl, HO, HW⟩ := hrel
  by_cases hlt : j < ins.length
  ·go_wp2_with fail
   refine (arb_bit g B rs ins ls ln j at_ _ (HA.out.below HW.out) hlt HR.out HT.out).mono ?_
   rintro e w1 ⟨rfl, rfl⟩
   have hsz := below_size HW.out
   have hbl := arb_bits_len rs ins at_ j
   have hb2_ : arb_bits rs ins at_ (j + 1) = if (arb_bitB rs ins j at_).2 = true then arb_bits rs ins at_ j ++ [(arb_bitB rs ins j at_).1] else arb_bits rs ins at_ j := rfl
   generalize arb_bitB rs ins j at_ = p at hb2_ ⊢
   generalize arb_bits rs ins at_ j = bs at HO hbl hb2_
   obtain ⟨p1, p2⟩ := p
   cases p2 with
   | true =>
    rw [if_pos rfl] at hb2_
    have HB2 := Aside0.mk hb2_
    have hl8 : (bs.length + 1) * 8 ≤ 140737488355328 := by have := HI.out; omega
    clear hb2_ hbl
    go_wp2_with (first | ((with_reducible refine gate_builtin (b := .append) (xs := #[.tmp 32, .tmp 34]) rfl ?_); at_builtin; refine Kd.R_append (Kd.int .i64) (w0 := w) w.heap.size rfl (.tmp 32) (.tmp 34) 30 3 (.int .i64 0) 8 rfl Try.underlying30 info3 rfl (by decide) (by omega) u6 bs p1 [.int .i64 p1] (fun _ => True) (fun _ => False) rfl rfl rfl (fun _ hk => hk.elim) (fun _ _ => trivial) HO.out HW.out hsz hl8 ?_; intro v1 w2 ho2 hb2 hg2 hat2; have HO2 := Aside0.mk ho2; have HW2 := Aside0.mk hb2; clear ho2 hb2 hg2 hat2))
    go_roundw
    case rel => exact ⟨j + 1, by omega, by go_num, ⟨by rw [HB2.out]; exact HO2.out⟩, HW2⟩
    case measure => simp [intOf]; omega
   | false =>
    rw [if_neg (by simp)] at hb2_
    have HB2 := Aside0.mk hb2_
    clear hb2_ hbl
    go_wp2_with fail
    go_roundw
    case rel => exact ⟨j + 1, by omega, by go_num, ⟨by rw [HB2.out]; exact HO.out⟩, HW⟩
    case measure => simp [intOf]; omega
  ·obtain rfl : j = ins.length := by omega
   have hsb : arb_stepB rs ins ls ln at_ = if (arb_bits rs ins at_ ins.length).length = 0 then (false, ins, ls, ln)
     else (true, (arb_outs rs ins ls at_ (arb_and (arb_bits rs ins at_ ins.length)) ins.length).1, (arb_outs rs ins ls at_ (arb_and (arb_bits rs ins at_ ins.length)) ins.length).2, ln ++ [arb_and (arb_bits rs ins at_ ins.length)]) := rfl
   have hbl := arb_bits_len rs ins at_ ins.length
   generalize arb_bits rs ins at_ ins.length = bs at HO hbl hsb
   obtain ⟨A6, c6, rfl, hc6, hC6⟩ := Kd.R_reads HO.out
   by_cases c0 : bs.length = 0
   ·rw [if_pos c0] at hsb
    have HSB := Aside0.mk hsb
    clear hsb
    have cb : ((bs.length : Int) == 0) = true := beq_iff_eq.mpr (by omega)
    go_wp2_with fail
    go_ret
    exact ⟨by rw [HSB.out]; rfl, by rw [HSB.out]; exact HA.out.below HW.out, HB.out.trans (HW.out.mono (by have := HA.out.lt; have := HA.out.1; omega))⟩
   ·rw [if_neg c0] at hsb
    have cb : ((bs.length : Int) == 0) = false := beq_eq_false_iff_ne.mpr (by omega)
    have HC6 := Aside0.mk hC6
    have hAnd := arb_And_eq bs (by have := HI.out; omega)
    generalize arb_and bs = line at hsb hAnd
    have HSB := Aside0.mk hsb
    clear hsb
    have HAnd := Aside0.mk hAnd
    have HCC := Aside0.mk hc6
    clear hAnd hC6 hc6 hbl c0
    go_wp2_with fail
    refine (arb_And.calls (bs.length + 1) A6 c6 bs line _ HC6.out HCC.out HAnd.out).mono ?_
    rintro e w2 ⟨rfl, hb2⟩
    have HW2 := Aside0.mk (below_step HW.out hb2)
    clear hb2 HW HO HC6
    have hA2 := HA.out.below HW2.out
    have hB2 := HB.out.trans (HW2.out.mono (show B ≤ w.heap.size by have := HA.out.lt; have := HA.out.1; omega))
    obtain ⟨hBg, vR, vI, vL, vN, hblk, hR, hI, hL, hN⟩ := hA2
    have hszB : B ≤ w2.heap.size := by have := blk_lt hblk; omega
    obtain ⟨AN, cN, rfl⟩ := Kd.R_slice hN
    obtain ⟨AI2, cI2, rfl⟩ := Kd.R_slice hI
    have c3 : w2.cell? ⟨g, 3, none⟩ = some (.slice AN ln.length cN) := (blk_cell hblk 3).trans rfl
    have hl8 : (ln.length + 1) * 8 ≤ 140737488355328 := by have := HN.out; omega
    have HLT := Aside0.mk (Kd.R_lt hL)
    have HBLK := Aside0.mk hblk
    have HR2 := Aside0.mk hR
    have HI2 := Aside0.mk hI
    have HL2 := Aside0.mk hL
    have HN2 := Aside0.mk hN
    have HB2 := Aside0.mk hB2
    clear hblk hR hI hL hN hB2
    go_wp2_with (first | ((with_reducible refine gate_builtin (b := .append) (xs := #[.tmp 46, .tmp 48]) rfl ?_); at_builtin; refine Kd.R_append (Kd.int .i64) (w0 := w0) B rfl (.tmp 46) (.tmp 48) 30 3 (.int .i64 0) 8 rfl Try.underlying30 info3 rfl (by decide) (by omega) (.slice AN ln.length cN) ln line [.int .i64 line] (fun k => some k ≠ (vL : Value).ownBlock) (fun _ => False) rfl rfl rfl (fun _ hk => hk.elim) (fun k hk he => by have := HLT.out k he.symm; omega) HN2.out HB2.out hszB hl8 ?_; intro v1 w3 ho3 hb3 hg3 hat3; obtain ⟨A7, c7, hv7⟩ := Kd.R_slice ho3; rw [List.length_append, List.length_singleton] at hv7; subst hv7; have hne3 : some g ≠ (Value.slice AN ln.length cN).ownBlock := Kd.R_ne HN2.out HBLK.out (by decide); have hblk3 := blk_grown HBLK.out hg3 hne3; have hfr3 := blk_frozen hblk3 3; have hc3 : w3.cell? ⟨g, 3, none⟩ = some (.slice AN ln.length cN) := (blk_cell hblk3 3).trans rfl; have hc31 : w3.cell? ⟨g, 1, none⟩ = some (.slice AI2 ins.length cI2) := (blk_cell hblk3 1).trans rfl; have HBLK3 := Aside0.mk hblk3; have HO3 := Aside0.mk ho3; have HB3 := Aside0.mk hb3; have HG3 : Aside0 (w2.grownBy w3 (Value.slice AN ln.length cN).ownBlock) := ⟨hg3⟩; have HAT3 : Aside0 ((Value.slice A7 (ln.length + 1) c7).ownBlock = (Value.slice AN ln.length cN).ownBlock ∨ ∃ b, (Value.slice A7 (ln.length + 1) c7).ownBlock = some b ∧ w2.heap.size ≤ b) := ⟨hat3⟩; clear hblk3 ho3 hb3 hg3 hat3 hne3))
    have hA4 : arb_At (w3.setCell ⟨g, 3, none⟩ (.slice A7 (ln.length + 1) c7)) g B rs ins ls (ln ++ [line]) :=
     ⟨hBg, _, _, _, _, blk_set HBLK3.out 3 _, Kd.R_set (Kd.R_mono (arb_row_after HR2.out (fun k hk => hk.2) HG3.out HAT3.out) (fun k hk => ⟨hk.1.1, hk.2⟩)) HBLK3.out (by decide) 3 _,
      Kd.R_set (Kd.R_over' HI2.out (Kd.R_typed HN2.out) (by decide) HG3.out) HBLK3.out (by decide) 3 _, Kd.R_set (Kd.R_mono (arb_row_after HL2.out (fun k hk => hk) HG3.out HAT3.out) (fun k hk => hk.2)) HBLK3.out (by decide) 3 _,
      Kd.R_set HO3.out HBLK3.out (by decide) 3 _⟩
    have HA4 := Aside0.mk hA4
    have HB4 := Aside0.mk (HB3.out.setCell (p := ⟨g, 3, none⟩) hBg (.slice A7 (ln.length + 1) c7))
    clear hA4 HBLK3 HO3 HB3 HG3 HAT3 HR2 HI2 HL2 HN2 HB2 HBLK HLT hc3 hc31 hfr3 c3 hszB hl8
    go_loopw [57] (fun v wr => ∃ j : Nat, j ≤ ins.length ∧ v = .int .i64 j ∧ Aside0 (arb_At wr g B rs (arb_outs rs ins ls at_ line j).1 (arb_outs rs ins ls at_ line j).2 (ln ++ [line])) ∧ Aside0 (Below B w0 wr)) (fun v _ => ins.length - (intOf v).toNat)
    case atStart => exact ⟨0, Nat.zero_le _, rfl, HA4, HB4⟩
    case round =>
     clear HA4 HB4
     obtain ⟨j, hj, rfl, HA5, HB5⟩ := hrel
     by_cases hlt : j < ins.length
     ·obtain ⟨hol1, hol2⟩ := arb_outs_len rs ins ls at_ line j
      have hoj : arb_outs rs ins ls at_ line (j + 1) = if (arb_bitB rs (arb_outs rs ins ls at_ line j).1 j at_).2 = true ∧ line < (arb_bitB rs (arb_outs rs ins ls at_ line j).1 j at_).1 then
       ((arb_outs rs ins ls at_ line j).1.set j false, (arb_outs rs ins ls at_ line j).2.set j (at_ : Int)) else arb_outs rs ins ls at_ line j := rfl
      generalize arb_outs rs ins ls at_ line j = o at HA5 hol1 hol2 hoj
      obtain ⟨o1, o2⟩ := o
      have HOJ := Aside0.mk hoj
      have HO1 : Aside0 (o1.length = ins.length) := ⟨hol1⟩
      have HO2 : Aside0 (o2.length = ls.length) := ⟨hol2⟩
      clear hoj hol1 hol2
      go_wp2_with fail
      refine (arb_bit g B rs o1 o2 (ln ++ [line]) j at_ _ HA5.out (by rw [HO1.out]; exact hlt) (by rw [HO1.out]; exact HR.out) HT.out).mono ?_
      rintro e w5 ⟨rfl, rfl⟩
      have hoj : arb_outs rs ins ls at_ line (j + 1) = if (arb_bitB rs o1 j at_).2 = true ∧ line < (arb_bitB rs o1 j at_).1 then (o1.set j false, o2.set j (at_ : Int)) else (o1, o2) := HOJ.out
      clear HOJ
      generalize arb_bitB rs o1 j at_ = p at hoj ⊢
      obtain ⟨p1, p2⟩ := p
      have HOJ := Aside0.mk hoj
      clear hoj
      cases p2 with
      | false =>
       go_wp2_with fail
       go_roundw
       case rel => exact ⟨j + 1, by omega, by go_num, ⟨by rw [HOJ.out, if_neg (fun h => by simp at h)]; exact HA5.out⟩, HB5⟩
       case measure => simp [intOf]; omega
      | true =>
       by_cases hlp : line < p1
       ·have hd : decide (line < p1) = true := decide_eq_true hlp
        obtain ⟨hBg5, vR5, vI5, vL5, vN5, hblk5, hR5, hI5, hL5, hN5⟩ := HA5.out
        obtain ⟨gi, ci, rfl, hgi0, hgi1, hgi2⟩ := Kd.R_form hI5 (by have := HO1.out; omega)
        obtain ⟨gl, cl, rfl, hgl0, hgl1, hgl2⟩ := Kd.R_form hL5 (by have := HO2.out; have := HS.out; omega)
        have d1 : w5.cell? ⟨g, 1, none⟩ = some (.slice (some ⟨gi, 0, none⟩) o1.length ci) := (blk_cell hblk5 1).trans rfl
        have d2 : w5.cell? ⟨g, 2, none⟩ = some (.slice (some ⟨gl, 0, none⟩) o2.length cl) := (blk_cell hblk5 2).trans rfl
        obtain ⟨ci1, fi1⟩ := Kd.R_celln false hI5 (j : Int) (by omega) (by have := HO1.out; omega)
        obtain ⟨cl1, fl1⟩ := Kd.R_celln (0 : Int) hL5 (j : Int) (by omega) (by have := HO2.out; have := HS.out; omega)
        rw [Int.toNat_natCast] at ci1 fi1 cl1 fl1
        have hgl : gl ≠ gi := by
         obtain ⟨x1, hx1⟩ := hgi2
         obtain ⟨x2, hx2⟩ := hgl2
         intro he
         subst he
         rw [hx1] at hx2
         injection hx2 with hx2
         injection hx2 with _ h2 _
         exact absurd h2 (by decide)
        have hgli : gi ≠ gl := fun h => hgl h.symm
        have ei1 : (w5.setCell ⟨gl, j, none⟩ (.int .i64 (at_ : Int))).cell? ⟨gi, j, none⟩ = _ := (cell_far (p := ⟨gl, j, none⟩) (a := ⟨gi, j, none⟩) hgli _).trans ci1
        have el1 : (w5.setCell ⟨gi, j, none⟩ (.bool false)).cell? ⟨gl, j, none⟩ = _ := (cell_far (p := ⟨gi, j, none⟩) (a := ⟨gl, j, none⟩) hgl _).trans cl1
        have q1 : (j : Int) < (o1.length : Int) := by have := HO1.out; omega
        have q2 : (j : Int) < (o2.length : Int) := by have := HO2.out; have := HS.out; omega
        have q3 : j < o1.length := by omega
        have q4 : j < o2.length := by omega
        go_wp2_with fail
        go_region
        obtain ⟨xi, hxi⟩ := hgi2
        obtain ⟨xl, hxl⟩ := hgl2
        have hggi : g ≠ gi := blk_ne hblk5 hxi (by decide)
        have hggl : g ≠ gl := blk_ne hblk5 hxl (by decide)
        have hxl2 := blk_far hxl (p := ⟨gi, j, none⟩) hgl (.bool false)
        have hN6 := Kd.R_far (p := ⟨gl, j, none⟩) (Kd.R_set hN5 hxi (by decide) j (.bool false)) (fun k hk he => hk (by rw [he]; rfl)) (.int .i64 (at_ : Int))
        have hR6 := Kd.R_far (p := ⟨gl, j, none⟩) (Kd.R_set hR5 hxi (by decide) j (.bool false)) (fun k hk he => hk.1 (by rw [he]; rfl)) (.int .i64 (at_ : Int))
        have hI6 := Kd.R_set (Kd.R_putn hI5 (j : Int) false) (t := 3) (g := gl) (cells := xl) (by rw [Int.toNat_natCast]; exact hxl2) (by decide) j (.int .i64 (at_ : Int))
        have hL6 := Kd.R_putn (Kd.R_set hL5 hxi (by decide) j (.bool false)) (j : Int) (at_ : Int)
        rw [Int.toNat_natCast] at hI6 hL6
        have hB6 := (HB5.out.setCell (p := ⟨gi, j, none⟩) (by show B ≤ gi; omega) (.bool false)).setCell (p := ⟨gl, j, none⟩) (by show B ≤ gl; omega) (.int .i64 (at_ : Int))
        have hA6 : arb_At ((w5.setCell ⟨gi, j, none⟩ (.bool false)).setCell ⟨gl, j, none⟩ (.int .i64 (at_ : Int))).drew g B rs (o1.set j false) (o2.set j (at_ : Int)) (ln ++ [line]) :=
         ⟨hBg5, _, _, _, _, blk_far (blk_far hblk5 (p := ⟨gi, j, none⟩) hggi (.bool false)) (p := ⟨gl, j, none⟩) hggl (.int .i64 (at_ : Int)), Kd.R_drew hR6, Kd.R_drew hI6, Kd.R_drew hL6, Kd.R_drew hN6⟩
        have HA6 := Aside0.mk hA6
        have HB6 := Aside0.mk (below_drew1 hB6)
        clear hA6 hB6 hL6 hI6 hR6 hN6 hxl2 hggi hggl hxi hxl hblk5 hR5 hI5 hL5 hN5 ei1 el1 ci1 fi1 cl1 fl1 d1 d2 hgl hgli
        go_wp2_with fail
        go_roundw
        case rel => exact ⟨j + 1, by omega, by go_num, ⟨by rw [HOJ.out, if_pos (by first | exact ⟨rfl, hlp⟩ | exact ⟨trivial, hlp⟩)]; exact HA6.out⟩, HB6⟩
        case measure => simp [intOf]; omega
       ·have hd : decide (line < p1) = false := decide_eq_false hlp
        go_wp2_with fail
        go_roundw
        case rel => exact ⟨j + 1, by omega, by go_num, ⟨by rw [HOJ.out, if_neg (fun h => by have := h.2; omega)]; exact HA5.out⟩, HB5⟩
        case measure => simp [intOf]; omega
     ·obtain rfl : j = ins.length := by omega
      go_wp2_with fail
      go_ret
      exact ⟨by rw [HSB.out]; rfl, by rw [HSB.out]; exact HA5.out, HB5.out⟩

/-! ### arb_run: helper -/
theorem arb_infoB : (Try.prog.info? 4).map (fun i => (i.zero, i.size, i.bytes)) = some (some (.bool false), 1, 1) := by kernel_rfl
theorem arb_infoR : (Try.prog.info? 30).map (fun i => (i.zero, i.size, i.bytes)) = some (some (.slice none 0 0), 1, 24) := by kernel_rfl
def arb_rank (f : S26) : List Int := frame_rankB f.f0 f.f1 f.f2
def arb_ranks (l : List S26) : List (List Int) := l.map arb_rank
theorem arb_made (w W : World) (g : Nat) (n : Nat) (hn : n ≤ 1099511627776) (hW : W = (w.alloc (.cells (madeCells #[.int .i64 0] n) 3)).alloc (.cells (madeCells #[.bool false] n) 4)) :
  (Kd.int .i64).R 3 W w.heap.size (fun _ => True) (.slice (some ⟨w.heap.size, 0, none⟩) n n) (List.replicate n 0) ∧ Kd.bool.R 4 W w.heap.size (fun _ => True) (.slice (some ⟨w.heap.size + 1, 0, none⟩) n n) (List.replicate n false) ∧ Below w.heap.size w W := by
 subst hW
 have h1 := own_made_of' (enc := Value.int .i64) (d := (0 : Int)) w w.heap.size 3 n (Nat.le_refl _) (by omega)
 have h2 := own_made_of' (enc := Value.bool) (d := false) (w.alloc (.cells (madeCells #[.int .i64 0] n) 3)) w.heap.size 4 n (by simp) (by omega)
 rw [World.size_alloc] at h2
 exact ⟨Kd.R_alloc (Kd.R_of_own h1 (fun _ _ => trivial)) _, Kd.R_of_own h2 (fun _ _ => trivial), below_alloc (below_alloc (Below.refl _ _) _) _⟩
theorem arb_made2 (w W : World) (g : Nat) (n : Nat) (hn : n ≤ 1099511627776) (hW : W = (w.alloc (.cells (madeCells #[.bool false] n) 4)).alloc (.cells (madeCells #[.int .i64 0] n) 3)) :
  (Kd.int .i64).R 3 W w.heap.size (fun _ => True) (.slice (some ⟨w.heap.size + 1, 0, none⟩) n n) (List.replicate n 0) ∧ Kd.bool.R 4 W w.heap.size (fun _ => True) (.slice (some ⟨w.heap.size, 0, none⟩) n n) (List.replicate n false) ∧ Below w.heap.size w W := by
 subst hW
 have h1 := own_made_of' (enc := Value.int .i64) (d := (0 : Int)) (w.alloc (.cells (madeCells #[.bool false] n) 4)) w.heap.size 3 n (by simp) (by omega)
 have h2 := own_made_of' (enc := Value.bool) (d := false) w w.heap.size 4 n (Nat.le_refl _) (by omega)
 rw [World.size_alloc] at h1
 exact ⟨Kd.R_of_own h1 (fun _ _ => trivial), Kd.R_alloc (Kd.R_of_own h2 (fun _ _ => trivial)) _, below_alloc (below_alloc (Below.refl _ _) _) _⟩
theorem arb_take_set {α : Type} {l : List α} {x : α} {j : Nat} (h : l.take j = List.replicate j x) (hj : j < l.length) : (l.set j x).take (j + 1) = List.replicate (j + 1) x := by
 have h1 : j < (l.set j x).length := by rw [List.length_set]; exact hj
 rw [H.take_snoc x (l.set j x) j h1, List.take_set_of_le (Nat.le_refl j), h, List.replicate_succ']
 congr 2
 rw [List.getD_eq_getElem?_getD, List.getElem?_set_self hj]
 rfl
set_option maxHeartbeats 3200000 in
set_option maxRecDepth 100000 in
theorem arb_startW (A : Option Addr) (c : Nat) (l : List S26) (w : World) (hr : Kd.C k26 w A l.length l) (hc : l.length ≤ c) (hl : l.length ≤ 1073741824) :
  Calls Try.prog 33 #[.slice A l.length c] w fun e w' => ∃ g, e = .returned (.pointer (some ⟨g, 0, none⟩)) ∧ arb_At w' g w.heap.size (arb_ranks l) (List.replicate l.length true) (List.replicate l.length (-1)) [] ∧ Below w.heap.size w w' := by
 obtain ⟨i3, hi3, hz30, hz31, hz32⟩ := info_parts info3
 obtain ⟨i4, hi4, hz40, hz41, hz42⟩ := info_parts arb_infoB
 have hmk3 : ∀ W : World, (Instr.makeSlice 30 (.int .i64 (l.length : Int)) (.int .i64 (l.length : Int))).run Try.prog W = .ok (.slice (some ⟨W.heap.size, 0, none⟩) l.length l.length) (W.alloc (.cells (madeCells #[.int .i64 0] l.length) 3)) := fun W => by
  have := run_make (P := Try.prog) W 30 3 i3 (.int .i64 0) Try.underlying30 hi3 hz30 .i64 .i64 (l.length : Int) (l.length : Int) (by omega) (by omega) (by rw [hz32]; omega) (by omega)
  rw [hz31, Int.toNat_natCast, Nat.mul_one] at this
  exact this
 have hmk4 : ∀ W : World, (Instr.makeSlice 43 (.int .i64 (l.length : Int)) (.int .i64 (l.length : Int))).run Try.prog W = .ok (.slice (some ⟨W.heap.size, 0, none⟩) l.length l.length) (W.alloc (.cells (madeCells #[.bool false] l.length) 4)) := fun W => by
  have := run_make (P := Try.prog) W 43 4 i4 (.bool false) Try.underlying43 hi4 hz40 .i64 .i64 (l.length : Int) (l.length : Int) (by omega) (by omega) (by rw [hz42]; omega) (by omega)
  rw [hz41, Int.toNat_natCast, Nat.mul_one] at this
  exact this
 have hmx : (l.length : Int) ≤ 1073741824 := by omega
 have HR := Aside0.mk hr
 have HC := Aside0.mk hc
 have HL := Aside0.mk hl
 have hu := Try.underlying45
 clear hr hc hl hi3 hz30 hz31 hz32 hi4 hz40 hz41 hz42
 go_enter Try.func33, Try.ntmps33
 go_upto_region 1 with (fail)
 go_cut [3] (fun v wc => ∃ g gi gl : Nat, v = .pointer (some ⟨g, 0, none⟩) ∧ Aside0 (w.heap.size ≤ g) ∧ Aside0 (wc.heap[g]? = some (.cells #[.slice none 0 0, .slice (some ⟨gi, 0, none⟩) l.length l.length, .slice (some ⟨gl, 0, none⟩) l.length l.length, .slice none 0 0] 45 (0, 0))) ∧ Aside0 (Kd.bool.R 4 wc w.heap.size (fun _ => True) (.slice (some ⟨gi, 0, none⟩) l.length l.length) (List.replicate l.length false)) ∧ Aside0 ((Kd.int .i64).R 3 wc w.heap.size (fun _ => True) (.slice (some ⟨gl, 0, none⟩) l.length l.length) (List.replicate l.length 0)) ∧ Aside0 (Below w.heap.size w wc))
 case first =>
  go_region
  ·go_wp2_with fail
   go_meet
   case rel =>
    obtain ⟨h1, h2, h3⟩ := arb_made w _ 0 l.length (by have := HL.out; omega) rfl
    refine ⟨_, _, _, rfl, ⟨by omega⟩, ⟨?_⟩, ⟨Kd.R_drew (Kd.R_alloc h2 _)⟩, ⟨Kd.R_drew (Kd.R_alloc h1 _)⟩, ⟨below_drew1 (below_alloc h3 _)⟩⟩
    have := blk_new ((w.alloc (.cells (madeCells #[.int .i64 0] l.length) 3)).alloc (.cells (madeCells #[.bool false] l.length) 4)) (.cells #[.slice none 0 0, .slice (some ⟨w.heap.size + 1, 0, none⟩) l.length l.length, .slice (some ⟨w.heap.size, 0, none⟩) l.length l.length, .slice none 0 0] 45)
    rw [World.size_alloc, World.size_alloc] at this
    exact this
  ·go_wp2_with fail
   go_meet
   case rel =>
    obtain ⟨h1, h2, h3⟩ := arb_made2 w _ 0 l.length (by have := HL.out; omega) rfl
    refine ⟨_, _, _, rfl, ⟨by omega⟩, ⟨?_⟩, ⟨Kd.R_drew (Kd.R_alloc h2 _)⟩, ⟨Kd.R_drew (Kd.R_alloc h1 _)⟩, ⟨below_drew1 (below_alloc h3 _)⟩⟩
    have := blk_new ((w.alloc (.cells (madeCells #[.bool false] l.length) 4)).alloc (.cells (madeCells #[.int .i64 0] l.length) 3)) (.cells #[.slice none 0 0, .slice (some ⟨w.heap.size, 0, none⟩) l.length l.length, .slice (some ⟨w.heap.size + 1, 0, none⟩) l.length l.length, .slice none 0 0] 45)
    rw [World.size_alloc, World.size_alloc] at this
    exact this
 case rest =>
  obtain ⟨g, gi, gl, rfl, HG, HK, HI, HLS, HB⟩ := hcut
  have c2 : wc.cell? ⟨g, 2, none⟩ = some (.slice (some ⟨gl, 0, none⟩) l.length l.length) := (blk_cell HK.out 2).trans rfl
  obtain ⟨i3, hi3, hz30, hz31, hz32⟩ := info_parts info3
  go_wp2_with (first | ((with_reducible refine gate_builtin (b := .clear) (xs := #[.tmp 17]) rfl ?_); refine HW.clear_row .i64 rfl (.tmp 17) 30 3 rfl Try.underlying30 (fun W => by simp [zeroValue, typeInfo, hi3, hz30]) rfl HLS.out ?_; intro w1 ys hy hr1 hg1; clear hi3 hz30 hz31 hz32 c2; have HY := Aside0.mk hy; have HR1 := Aside0.mk hr1; have HG1 := Aside0.mk hg1; clear hy hr1 hg1))
  have hne : some g ≠ (Value.slice (some ⟨gl, 0, none⟩) l.length l.length).ownBlock := Kd.R_ne HLS.out HK.out (by decide)
  have hk1 := blk_grown HK.out HG1.out hne
  have hBl : Below w.heap.size w w1 := HB.out.grown HG1.out (below_size HB.out) (fun k he => Kd.R_base HLS.out k (by rw [← he]; rfl))
  have hA1 : arb_At w1 g w.heap.size ((arb_ranks l).take 0) (List.replicate l.length false) ys [] :=
   ⟨HG.out, _, _, _, _, hk1, Kd.R_nil _ _ _ _ _, Kd.R_over' HI.out (Kd.R_typed HLS.out) (by decide) HG1.out, Kd.R_mono HR1.out (fun _ _ => by simp [Value.ownBlock]), Kd.R_nil _ _ _ _ _⟩
  have HA1 := Aside0.mk hA1
  have HB1 := Aside0.mk hBl
  have HY1 : Aside0 (ys.length = l.length) := ⟨by rw [HY.out, List.length_replicate]⟩
  clear hA1 hBl hk1 hne HG1 HR1 HY HB HLS HI HK
  go_loopw [20] (fun v wr => ∃ (j : Nat) (ins : List Bool) (ls : List Int), j ≤ l.length ∧ v = .int .i64 j ∧ Aside0 (arb_At wr g w.heap.size ((arb_ranks l).take j) ins ls []) ∧ Aside0 (ins.length = l.length) ∧ Aside0 (ls.length = l.length) ∧ Aside0 (ins.take j = List.replicate j true) ∧ Aside0 (ls.take j = List.replicate j (-1)) ∧ Aside0 (Below w.heap.size w wr)) (fun v _ => l.length - (intOf v).toNat)
  case atStart => exact ⟨0, _, _, Nat.zero_le _, rfl, HA1, ⟨by rw [List.length_replicate]⟩, HY1, ⟨rfl⟩, ⟨rfl⟩, HB1⟩
  case round =>
   clear HA1 HB1 HY1
   obtain ⟨j, ins, ls, hj, rfl, HA, HI, HS, HIT, HST, HB⟩ := hrel
   by_cases hlt : j < l.length
   ·obtain ⟨ad, A4, c4, eA, x0, x1, x2, x3, x4, hc4, hC4⟩ := at_T26 (Kd.C_below HR.out HB.out) (j : Int) (by omega) (by omega)
    cases eA
    have hf : (arb_ranks l).take (j + 1) = (arb_ranks l).take j ++ [arb_rank (rd_T26 l (j : Int))] := by
     have hj1 : j < (arb_ranks l).length := by unfold arb_ranks; rw [List.length_map]; exact hlt
     rw [H.take_snoc [] (arb_ranks l) j hj1]
     congr 2
     unfold arb_ranks rd_T26
     rw [Int.toNat_natCast, List.getD_eq_getElem?_getD, List.getD_eq_getElem?_getD, List.getElem?_map, List.getElem?_eq_getElem hlt]
     rfl
    have hxl : ((arb_ranks l).take j).length = j := by rw [List.length_take]; unfold arb_ranks; rw [List.length_map]; omega
    rw [Int.toNat_natCast] at x0 x1 x2 x3 x4
    generalize (arb_ranks l).take j = rs at HA hf hxl
    have HXL := Aside0.mk hxl
    clear hxl
    generalize rd_T26 l (j : Int) = f at x0 x1 x2 x3 x4 hc4 hC4 hf
    have p0 : (0 : Int) ≤ (j : Int) := by omega
    have q0 : (j : Int) < (l.length : Int) := by omega
    have k5 := blk_new wr (.cells #[.bool false, .int .i64 0, .bool false, .int .i64 0, .slice none 0 0] 26)
    have K5 := Aside0.mk k5
    have HC4 := Aside0.mk hC4
    have HC4c := Aside0.mk hc4
    have HLT := Aside0.mk hlt
    have HF := Aside0.mk hf
    clear hC4 hc4 hf k5
    go_wp2_with (first | ((with_reducible refine gate_store (t := 26) (p := 5) rfl ?_); refine HW.store_box' rfl rfl 26 _ _ rfl rfl rfl K5.out rfl (by kernel_rfl) (by intro q hq; simp only [List.mem_cons, List.not_mem_nil, or_false] at hq; rcases hq with rfl | rfl | rfl | rfl | rfl <;> rfl) ?_; intro w5 hk hg; clear x0 x1 x2 x3 x4; have B5 := Aside0.mk ((below_alloc (Below.refl _ _) (.cells #[.bool false, .int .i64 0, .bool false, .int .i64 0, .slice none 0 0] 26)).grown hg (by rw [World.size_alloc]; omega) (fun k he => by injection he with he; omega)); have K6 := Aside0.mk hk; clear hk hg K5; have HA5 := Aside0.mk (HA.out.below B5.out); have d0 := (blk_cell K6.out 0).trans rfl; have d1 := (blk_cell K6.out 1).trans rfl; have d2 := (blk_cell K6.out 2).trans rfl; have d3 := (blk_cell K6.out 3).trans rfl; have d4 := (blk_cell K6.out 4).trans rfl; obtain ⟨hBg, vR, vI, vL, vN, hblk, hR, hI, hL, hN⟩ := HA5.out; obtain ⟨A7, c7, rfl⟩ := Kd.R_slice hR; have e0 : w5.cell? ⟨g, 0, none⟩ = some (.slice A7 rs.length c7) := (blk_cell hblk 0).trans rfl; have HBLK := Aside0.mk hblk; have HRR := Aside0.mk hR; have HRI := Aside0.mk hI; have HRL := Aside0.mk hL; have HRN := Aside0.mk hN; clear hblk hR hI hL hN))
    have HE0 := Aside0.mk e0
    have HV := Aside0.mk (Kd.R_lt HRL.out)
    have HN0 := Aside0.mk (Kd.R_lt HRN.out)
    have hl24 : (rs.length + 1) * 24 ≤ 140737488355328 := by have := HL.out; have := HXL.out; omega
    go_region_law (first | (refine Kd.R_append_step (Kd.slice 3 (Kd.int .i64)) (w0 := w) w.heap.size (by rfl) _ _ 42 30 (.slice none 0 0) 24 (by rfl) Try.underlying42 arb_infoR rfl (by decide) (by decide) (.slice A7 rs.length c7) rs (arb_rank f) [_] _ (fun k => w5.heap.size ≤ k ∧ some k ≠ (Value.slice A7 rs.length c7).ownBlock) (by rfl) (by rfl) (Kd.M_row HR6.out) (fun k hk => ⟨⟨fun he => by have := HV.out k he.symm; have := hk.1; omega, fun he => by have := HN0.out k he.symm; have := hk.1; omega⟩, hk.2⟩) (fun k hk => ⟨fun he => by have := HV.out k he.symm; have := HS6.out; omega, fun he => by have := HN0.out k he.symm; have := HS6.out; omega⟩) HRR6.out HB6.out (below_size HB6.out) hl24 ?_; intro v7 w7 ho7 hb7 hg7 hat7; obtain ⟨A8, c8, hv8⟩ := Kd.R_slice ho7; rw [List.length_append, List.length_singleton] at hv8; subst hv8; have hne7 : some g ≠ (Value.slice A7 rs.length c7).ownBlock := Kd.R_ne HRR.out HBLK.out (by decide); have hblk7 := blk_grown (blk_below HBLK.out BW.out) hg7 hne7; have hfr7 := blk_frozen hblk7 0; have hc7 : w7.cell? ⟨g, 0, none⟩ = some (.slice A7 rs.length c7) := (blk_cell hblk7 0).trans rfl) | (go_simp; go_at_call 10; refine (frame_Rank.calls f.f0 f.f1 f.f2 f.f3 A4 c4 f.f4 (arb_rank f) _ (Kd.C_below HC4.out (pw_below_drewN B5.out _)) HC4c.out rfl).mono ?_; rintro e w6 ⟨v6, rfl, hR6, hb6⟩; have e6 := pw_cell_below hb6 HE0.out; have BW := Aside0.mk (below_step (pw_below_drewN (Below.refl w5.heap.size w5) _) hb6); have HS6 := Aside0.mk (below_size BW.out); have HRR6 := Aside0.mk (Kd.R_below HRR.out BW.out); have HR6 := Aside0.mk (Kd.R_lower (Kd.R_mono (Kd.R_bound hR6) (fun k hk => (have hle := Nat.le_trans (below_size (pw_below_drewN (Below.refl w5.heap.size w5) _)) hk.2.1; ⟨hle, fun he => by have := Kd.R_lt HRR.out k he.symm; omega⟩ : w5.heap.size ≤ k ∧ some k ≠ (Value.slice A7 rs.length c7).ownBlock))) (base' := w.heap.size) (Nat.le_trans (below_size (HB.out.trans (B5.out.mono (below_size HB.out)))) (below_size (pw_below_drewN (Below.refl w5.heap.size w5) _)))); obtain ⟨A6, k6, rfl⟩ := Kd.R_slice hR6; have e6' := pw_cell_below (below_alloc (Below.refl w6.heap.size w6) (.cells #[.slice A6 (arb_rank f).length k6] 30)) e6; have HB6 := Aside0.mk (below_step (HB.out.trans (B5.out.mono (below_size HB.out))) (below_step (pw_below_drewN (Below.refl w5.heap.size w5) _) hb6)); clear hR6 hb6))
    all_goals
     have hA8 : arb_At (w7.setCell ⟨g, 0, none⟩ (.slice A8 (rs.length + 1) c8)) g w.heap.size (rs ++ [arb_rank f]) ins ls [] :=
      ⟨hBg, _, _, _, _, blk_set hblk7 0 _, Kd.R_set ho7 hblk7 (by decide) 0 _, Kd.R_set (Kd.R_over' (e' := 30) (Kd.R_below HRI.out BW.out) (Kd.R_typed HRR6.out) (by decide) hg7) hblk7 (by decide) 0 _,
       Kd.R_set (Kd.R_over' (e' := 30) (Kd.R_below HRL.out BW.out) (Kd.R_typed HRR6.out) (by decide) hg7) hblk7 (by decide) 0 _, Kd.R_set (Kd.R_over' (e' := 30) (Kd.R_below HRN.out BW.out) (Kd.R_typed HRR6.out) (by decide) hg7) hblk7 (by decide) 0 _⟩
     have hB8 := hb7.setCell (p := ⟨g, 0, none⟩) hBg (.slice A8 (rs.length + 1) c8)
     generalize w7.setCell ⟨g, 0, none⟩ (.slice A8 (rs.length + 1) c8) = w8 at hA8 hB8 ⊢
     have HA8 := Aside0.mk hA8
     have HB8 := Aside0.mk hB8
     clear hA8 hB8 hc7 hfr7 hblk7 hne7 hat7 ho7 hg7 hb7 e6' e6 e0 d0 d1 d2 d3 d4 HBLK HRR HRI HRL HRN K6 HA5 HA HR6 HRR6 HE0 HB6 BW B5 HB HV HN0 HS6 hl24
     obtain ⟨hBg5, vR5, vI5, vL5, vN5, hblk5, hR5, hI5, hL5, hN5⟩ := HA8.out
     obtain ⟨gi, ci, rfl, hgi0, hgi1, hgi2⟩ := Kd.R_form hI5 (by have := HI.out; omega)
     obtain ⟨gl, cl, rfl, hgl0, hgl1, hgl2⟩ := Kd.R_form hL5 (by have := HS.out; omega)
     have d1 : w8.cell? ⟨g, 1, none⟩ = some (.slice (some ⟨gi, 0, none⟩) ins.length ci) := (blk_cell hblk5 1).trans rfl
     have d2 : w8.cell? ⟨g, 2, none⟩ = some (.slice (some ⟨gl, 0, none⟩) ls.length cl) := (blk_cell hblk5 2).trans rfl
     obtain ⟨ci1, fi1⟩ := Kd.R_celln false hI5 (j : Int) (by omega) (by have := HI.out; omega)
     obtain ⟨cl1, fl1⟩ := Kd.R_celln (0 : Int) hL5 (j : Int) (by omega) (by have := HS.out; omega)
     rw [Int.toNat_natCast] at ci1 fi1 cl1 fl1
     have hgl : gl ≠ gi := by
      obtain ⟨x1, hx1⟩ := hgi2
      obtain ⟨x2, hx2⟩ := hgl2
      intro he
      subst he
      rw [hx1] at hx2
      injection hx2 with hx2
      injection hx2 with _ h2 _
      exact absurd h2 (by decide)
     have hgli : gi ≠ gl := fun h => hgl h.symm
     have ei1 : (w8.setCell ⟨gl, j, none⟩ (.int .i64 (-1))).cell? ⟨gi, j, none⟩ = _ := (cell_far (p := ⟨gl, j, none⟩) (a := ⟨gi, j, none⟩) hgli _).trans ci1
     have el1 : (w8.setCell ⟨gi, j, none⟩ (.bool true)).cell? ⟨gl, j, none⟩ = _ := (cell_far (p := ⟨gi, j, none⟩) (a := ⟨gl, j, none⟩) hgl _).trans cl1
     have q1 : (j : Int) < (ins.length : Int) := by have := HI.out; omega
     have q2 : (j : Int) < (ls.length : Int) := by have := HS.out; omega
     have q3 : j < ins.length := by omega
     have q4 : j < ls.length := by omega
     go_wp2_with fail
     go_region
    all_goals
     obtain ⟨xi, hxi⟩ := hgi2
     obtain ⟨xl, hxl⟩ := hgl2
     have hggi : g ≠ gi := blk_ne hblk5 hxi (by decide)
     have hggl : g ≠ gl := blk_ne hblk5 hxl (by decide)
     have hxi2 := blk_far hxi (p := ⟨gl, j, none⟩) hgli (.int .i64 (-1))
     have hN6 := Kd.R_set (Kd.R_far (p := ⟨gl, j, none⟩) hN5 (fun k hk he => hk (by rw [he]; rfl)) (.int .i64 (-1))) hxi2 (by decide) j (.bool true)
     have hR6 := Kd.R_set (Kd.R_far (p := ⟨gl, j, none⟩) hR5 (fun k hk he => hk.1 (by rw [he]; rfl)) (.int .i64 (-1))) hxi2 (by decide) j (.bool true)
     have hI6 := Kd.R_putn (Kd.R_set hI5 (t := 3) (g := gl) (cells := xl) hxl (by decide) j (.int .i64 (-1))) (j : Int) true
     have hL6 := Kd.R_set (Kd.R_putn hL5 (j : Int) (-1)) (t := 4) (g := gi) (cells := xi) (by rw [Int.toNat_natCast]; exact hxi2) (by decide) j (.bool true)
     rw [Int.toNat_natCast] at hI6 hL6
     have hB6 := (HB8.out.setCell (p := ⟨gl, j, none⟩) (by show w.heap.size ≤ gl; omega) (.int .i64 (-1))).setCell (p := ⟨gi, j, none⟩) (by show w.heap.size ≤ gi; omega) (.bool true)
     have hA6 : arb_At ((w8.setCell ⟨gl, j, none⟩ (.int .i64 (-1))).setCell ⟨gi, j, none⟩ (.bool true)).drew g w.heap.size (rs ++ [arb_rank f]) (ins.set j true) (ls.set j (-1)) [] :=
      ⟨hBg5, _, _, _, _, blk_far (blk_far hblk5 (p := ⟨gl, j, none⟩) hggl (.int .i64 (-1))) (p := ⟨gi, j, none⟩) hggi (.bool true), Kd.R_drew hR6, Kd.R_drew hI6, Kd.R_drew hL6, Kd.R_drew hN6⟩
     have HA6 := Aside0.mk hA6
     have HB6 := Aside0.mk (below_drew1 hB6)
     clear hA6 hB6 hL6 hI6 hR6 hN6 hxi2 hggi hggl hxi hxl hblk5 hR5 hI5 hL5 hN5 ei1 el1 ci1 fi1 cl1 fl1 d1 d2 hgl hgli
     go_wp2_with fail
     go_roundw
     case rel =>
      refine ⟨j + 1, ins.set j true, ls.set j (-1), by have := HLT.out; omega, by have := HL.out; have := HLT.out; first | go_num | (rw [show ((j + 1 : Nat) : Int) = wrap64 ((j : Int) + 1) by unfold wrap64; omega]), ⟨by rw [HF.out]; exact HA6.out⟩, ⟨by rw [List.length_set]; exact HI.out⟩, ⟨by rw [List.length_set]; exact HS.out⟩, ⟨?_⟩, ⟨?_⟩, HB6⟩
      ·exact arb_take_set HIT.out (by have := HI.out; have := HLT.out; omega)
      ·exact arb_take_set HST.out (by have := HS.out; have := HLT.out; omega)
     case measure => have := HL.out; have := HLT.out; have hwr : wrap64 ((j : Int) + 1) = ((j + 1 : Nat) : Int) := (by unfold wrap64; omega); first | (simp [intOf]; omega) | (simp only [intOf, hwr]; simp [intOf, hwr]; omega)
   ·obtain rfl : j = l.length := by omega
    go_wp2_with fail
    go_ret
    have e1 : (arb_ranks l).take l.length = arb_ranks l := List.take_of_length_le (by unfold arb_ranks; rw [List.length_map]; exact Nat.le_refl _)
    have e2 : ins = List.replicate l.length true := by rw [← HIT.out, List.take_of_length_le (by rw [HI.out]; exact Nat.le_refl _)]
    have e3 : ls = List.replicate l.length (-1) := by rw [← HST.out, List.take_of_length_le (by rw [HS.out]; exact Nat.le_refl _)]
    have h := HA.out
    rw [e1, e2, e3] at h
    exact ⟨g, rfl, h, HB.out⟩
theorem arb_bits_none (rs : List (List Int)) (ins : List Bool) (at_ : Nat) : ∀ j, (arb_bits rs ins at_ j).length = 0 ↔ ∀ i, i < j → (arb_bitB rs ins i at_).2 = false
 | 0 => ⟨fun _ i hi => absurd hi (Nat.not_lt_zero i), fun _ => rfl⟩
 | j + 1 => by
  have ih := arb_bits_none rs ins at_ j
  unfold arb_bits
  split
  ·rename_i h
   constructor
   ·intro h0; rw [List.length_append, List.length_singleton] at h0; omega
   ·intro h0; rw [h0 j (Nat.lt_succ_self j)] at h; cases h
  ·rename_i h
   rw [ih]
   constructor
   ·intro h0 i hi
    rcases Nat.lt_or_eq_of_le (Nat.le_of_lt_succ hi) with h1 | h1
    ·exact h0 i h1
    ·rw [h1]; simpa using h
   ·intro h0 i hi; exact h0 i (by omega)
theorem arb_bitB_2 (rs : List (List Int)) (ins : List Bool) (i at_ : Nat) : (arb_bitB rs ins i at_).2 = true ↔ ins.getD i false = true ∧ at_ < (rs.getD i []).length := by
 unfold arb_bitB
 split
 ·rename_i h; exact ⟨fun _ => h, fun _ => rfl⟩
 ·rename_i h; exact ⟨fun h1 => absurd h1 (by simp), fun h1 => absurd h1 h⟩
theorem arb_stepB_1 (rs : List (List Int)) (ins : List Bool) (ls ln : List Int) (at_ : Nat) : (arb_stepB rs ins ls ln at_).1 = false ↔ ∀ i, i < ins.length → (arb_bitB rs ins i at_).2 = false := by
 rw [← arb_bits_none]
 unfold arb_stepB
 split
 ·rename_i h; exact ⟨fun _ => h, fun _ => rfl⟩
 ·rename_i h; exact ⟨fun h1 => absurd h1 (by simp), fun h1 => absurd h1 h⟩
theorem arb_stepB_same (rs : List (List Int)) (ins : List Bool) (ls ln : List Int) (at_ : Nat) (h : (arb_stepB rs ins ls ln at_).1 = false) : (arb_stepB rs ins ls ln at_).2 = (ins, ls, ln) := by
 unfold arb_stepB at h ⊢
 split
 ·rfl
 ·rename_i h1; rw [if_neg h1] at h; cases h
theorem arb_stepB_end (rs : List (List Int)) (ins : List Bool) (ls ln : List Int) (at_ : Nat) (h : ∀ i, (rs.getD i []).length ≤ at_) : (arb_stepB rs ins ls ln at_).1 = false := by
 rw [arb_stepB_1]
 intro i _
 cases hb : (arb_bitB rs ins i at_).2 with
 | false => rfl
 | true => have := ((arb_bitB_2 _ _ _ _).1 hb).2; have := h i; omega
theorem arb_stepB_next (rs : List (List Int)) (ins : List Bool) (ls ln : List Int) (at_ : Nat) (h : (arb_stepB rs ins ls ln at_).1 = false) : (arb_stepB rs ins ls ln (at_ + 1)).1 = false := by
 rw [arb_stepB_1] at h ⊢
 intro i hi
 have h1 := h i hi
 cases hb : (arb_bitB rs ins i (at_ + 1)).2 with
 | false => rfl
 | true =>
  have h2 := (arb_bitB_2 _ _ _ _).1 hb
  rw [(arb_bitB_2 rs ins i at_).2 ⟨h2.1, by omega⟩] at h1
  cases h1
/-- The race behind so many places. -/
def arb_runs (rs : List (List Int)) : Nat → List Bool × List Int × List Int
 | 0 => (List.replicate rs.length true, List.replicate rs.length (-1), [])
 | k + 1 => (arb_stepB rs (arb_runs rs k).1 (arb_runs rs k).2.1 (arb_runs rs k).2.2 k).2
theorem arb_stepB_len (rs : List (List Int)) (ins : List Bool) (ls ln : List Int) (at_ : Nat) : (arb_stepB rs ins ls ln at_).2.1.length = ins.length ∧ (arb_stepB rs ins ls ln at_).2.2.1.length = ls.length ∧ (arb_stepB rs ins ls ln at_).2.2.2.length ≤ ln.length + 1 := by
 unfold arb_stepB
 split
 ·exact ⟨rfl, rfl, by simp⟩
 ·exact ⟨(arb_outs_len _ _ _ _ _ _).1, (arb_outs_len _ _ _ _ _ _).2, by simp⟩
theorem arb_runs_len (rs : List (List Int)) : ∀ k, (arb_runs rs k).1.length = rs.length ∧ (arb_runs rs k).2.1.length = rs.length ∧ (arb_runs rs k).2.2.length ≤ k
 | 0 => ⟨by unfold arb_runs; rw [List.length_replicate], by unfold arb_runs; rw [List.length_replicate], Nat.le_refl 0⟩
 | k + 1 => by
  obtain ⟨h1, h2, h3⟩ := arb_runs_len rs k
  obtain ⟨g1, g2, g3⟩ := arb_stepB_len rs (arb_runs rs k).1 (arb_runs rs k).2.1 (arb_runs rs k).2.2 k
  unfold arb_runs
  exact ⟨by omega, by omega, by omega⟩
theorem arb_runs_stop (rs : List (List Int)) (k : Nat) (h : (arb_stepB rs (arb_runs rs k).1 (arb_runs rs k).2.1 (arb_runs rs k).2.2 k).1 = false) : ∀ d, arb_runs rs (k + d) = arb_runs rs k ∧ (arb_stepB rs (arb_runs rs (k + d)).1 (arb_runs rs (k + d)).2.1 (arb_runs rs (k + d)).2.2 (k + d)).1 = false
 | 0 => ⟨rfl, h⟩
 | d + 1 => by
  obtain ⟨h1, h2⟩ := arb_runs_stop rs k h d
  have h3 : arb_runs rs (k + (d + 1)) = arb_runs rs (k + d) := by
   show (arb_stepB rs (arb_runs rs (k + d)).1 (arb_runs rs (k + d)).2.1 (arb_runs rs (k + d)).2.2 (k + d)).2 = _
   rw [arb_stepB_same _ _ _ _ _ h2]
  exact ⟨h3.trans h1, by rw [h3]; exact arb_stepB_next _ _ _ _ _ h2⟩
theorem arb_ranks_len (l : List S26) (i : Nat) : ((arb_ranks l).getD i []).length ≤ 128 := by
 unfold arb_ranks
 rw [List.getD_eq_getElem?_getD, List.getElem?_map]
 cases l[i]? with
 | none => simp
 | some f => exact frame_rankB_len _ _ _
set_option maxHeartbeats 3200000 in
set_option maxRecDepth 100000 in
theorem arb_run (A : Option Addr) (c : Nat) (l : List S26) (w : World) (hr : Kd.C k26 w A l.length l) (hc : l.length ≤ c) (hl : l.length ≤ 1073741824) :
  Calls Try.prog 22 #[.slice A l.length c] w fun e w' => ∃ g, e = .returned (.pointer (some ⟨g, 0, none⟩)) ∧ arb_At w' g w.heap.size (arb_ranks l) (arb_runs (arb_ranks l) 128).1 (arb_runs (arb_ranks l) 128).2.1 (arb_runs (arb_ranks l) 128).2.2 ∧ Below w.heap.size w w' := by
 have HR := Aside0.mk hr
 have HC := Aside0.mk hc
 have HL := Aside0.mk hl
 clear hr hc hl
 go_enter Try.func22, Try.ntmps22
 go_wp2_with fail
 go_step3
 go_wp2_with fail
 refine (arb_startW A c l w HR.out HC.out HL.out).mono ?_
 rintro e w1 ⟨g, rfl, hA, hB⟩
 have HA0 := Aside0.mk hA
 have HB0 := Aside0.mk hB
 have HLR : Aside0 ((arb_ranks l).length = l.length) := ⟨by unfold arb_ranks; rw [List.length_map]⟩
 clear hA hB
 go_wp2_with fail
 go_step3
 go_wp2_with fail
 go_loopw [4] (fun v wr => ∃ k : Nat, k ≤ 128 ∧ v = .int .i64 k ∧ Aside0 (arb_At wr g w.heap.size (arb_ranks l) (arb_runs (arb_ranks l) k).1 (arb_runs (arb_ranks l) k).2.1 (arb_runs (arb_ranks l) k).2.2) ∧ Aside0 (Below w.heap.size w wr)) (fun v _ => 200 - (intOf v).toNat)
 case atStart => exact ⟨0, Nat.zero_le _, rfl, ⟨by unfold arb_runs; rw [HLR.out]; exact HA0.out⟩, HB0⟩
 case round =>
  clear HA0 HB0
  obtain ⟨k, hk, rfl, HA, HB⟩ := hrel
  have HRL := Aside0.mk (arb_runs_len (arb_ranks l) k)
  go_wp2_with fail
  refine (arb_step g w.heap.size (arb_ranks l) _ _ _ k w _ HA.out HB.out (by rw [HRL.out.1]) (by rw [HRL.out.1, HRL.out.2.1]) (by rw [HRL.out.1, HLR.out]; have := HL.out; omega) (by have := HRL.out.2.2; omega) (by omega)).mono ?_
  rintro e w2 ⟨rfl, hA2, hB2⟩
  have HA2 := Aside0.mk hA2
  have HB2 := Aside0.mk hB2
  clear hA2 hB2 HA HB
  cases hs : (arb_stepB (arb_ranks l) (arb_runs (arb_ranks l) k).1 (arb_runs (arb_ranks l) k).2.1 (arb_runs (arb_ranks l) k).2.2 k).1 with
  | false =>
   have h128 : arb_runs (arb_ranks l) 128 = arb_runs (arb_ranks l) k := by
    have := (arb_runs_stop (arb_ranks l) k hs (128 - k)).1
    rwa [show k + (128 - k) = 128 by omega] at this
   have hsm := arb_stepB_same _ _ _ _ _ hs
   have HS := Aside0.mk hsm
   have H1 := Aside0.mk h128
   clear hsm h128 hs
   go_wp2_with fail
   (try rw [Exit.noGoto_ret])
   go_ret
   refine ⟨g, rfl, ?_, HB2.out⟩
   have h := HA2.out
   rw [HS.out] at h
   rw [H1.out]
   exact h
  | true =>
   have hk1 : k < 128 := by
    rcases Nat.lt_or_eq_of_le hk with h | h
    ·exact h
    ·subst h
     rw [arb_stepB_end _ _ _ _ _ (arb_ranks_len l)] at hs
     cases hs
   have HS := Aside0.mk hs
   clear hs
   go_wp2_with fail
   go_roundw
   case rel => exact ⟨k + 1, by omega, by first | go_num | (rw [show ((k + 1 : Nat) : Int) = wrap64 ((k : Int) + 1) by unfold wrap64; omega]), HA2, HB2⟩
   case measure => have hwr : wrap64 ((k : Int) + 1) = ((k + 1 : Nat) : Int) := (by unfold wrap64; omega); first | (simp [intOf]; omega) | (simp only [intOf, hwr]; simp [intOf, hwr]; omega)

/-! ### arb_Win: function 8 -/
def arb_winB : List Bool → Nat → Int
 | [], _ => -1
 | b :: t, j => if b = true then (j : Int) else arb_winB t (j + 1)
theorem arb_winB_at (ins : List Bool) (j : Nat) (h : j < ins.length) : arb_winB (ins.drop j) j = if ins.getD j false = true then (j : Int) else arb_winB (ins.drop (j + 1)) (j + 1) := by
 rw [List.drop_eq_getElem_cons h, arb_winB, List.getD_eq_getElem?_getD, List.getElem?_eq_getElem h]
 rfl
theorem arb_winB_out (ins : List Bool) (j : Nat) (h : ¬ j < ins.length) : arb_winB (ins.drop j) j = -1 := by
 rw [List.drop_eq_nil_of_le (by omega), arb_winB]
def arb_Win.f (l : List S26) : Option Int := if l.length ≤ 1073741824 then some (arb_winB (arb_runs (arb_ranks l) 128).1 0) else none
set_option maxHeartbeats 3200000 in
set_option maxRecDepth 100000 in
theorem arb_Win_at (A0 : Option Addr) (c0 : Nat) (l0 : List S26) (r : Int) (ins : List Bool) (n : Nat) (w : World) (HR : Aside0 (Kd.C k26 w A0 l0.length l0)) (HC : Aside0 (l0.length ≤ c0)) (HL : Aside0 (l0.length ≤ 1073741824)) (hmx : (l0.length : Int) ≤ 1073741824)
  (HE : Aside0 ((arb_runs (arb_ranks l0) n).1 = ins)) (HN : Aside0 (n = 128)) (HLN : Aside0 (ins.length = l0.length)) (HQ : Aside0 (arb_winB ins 0 = r)) :
  Calls Try.prog 8 #[.slice A0 l0.length c0] w fun e w' => e = .returned (.int .i64 r) ∧ Below w.heap.size w w' := by
 go_enter Try.func8, Try.ntmps8
 go_wp2_with fail
 refine (arb_run A0 c0 l0 w HR.out HC.out HL.out).mono ?_
 rintro e w1 ⟨g, rfl, hA, hB⟩
 rw [← HN.out, HE.out] at hA
 clear HE HN
 obtain ⟨hBg, vR, vI, vL, vN, hblk, hR, hI, hL, hN⟩ := hA
 obtain ⟨AI, cI, rfl, hcI, hCI⟩ := Kd.R_reads hI
 have c1 : w1.cell? ⟨g, 1, none⟩ = some (.slice AI ins.length cI) := (blk_cell hblk 1).trans rfl
 have HCI := Aside0.mk hCI
 have HB := Aside0.mk hB
 clear hblk hR hI hL hN hCI hB hBg hcI
 go_wp2_with fail
 go_loopw [11] (fun v wr => ∃ j : Nat, j ≤ ins.length ∧ v = .int .i64 j ∧ wr = w1 ∧ Aside0 (arb_winB (ins.drop j) j = r)) (fun v _ => ins.length - (intOf v).toNat)
 case atStart => exact ⟨0, Nat.zero_le _, rfl, rfl, HQ⟩
 case round =>
  clear HQ
  obtain ⟨j, hj, rfl, rfl, HQ⟩ := hrel
  by_cases hlt : j < ins.length
  ·have p0 : (0 : Int) ≤ (j : Int) := by omega
   have q0 : (j : Int) < (ins.length : Int) := by omega
   obtain ⟨ad, eI, hx⟩ := Kd.at_bool HCI.out (j : Int) p0 q0
   cases eI
   have hrd : rdOf false ins (j : Int) = ins.getD j false := by unfold rdOf; rw [Int.toNat_natCast]
   rw [hrd, Int.toNat_natCast] at hx
   have hw := HQ.out
   rw [arb_winB_at ins j hlt] at hw
   clear HQ hrd
   cases hb : ins.getD j false with
   | true =>
    rw [hb] at hx
    rw [if_pos hb] at hw
    subst hw
    clear hb
    go_wp2_with fail
    go_ret
    exact ⟨rfl, HB.out⟩
   | false =>
    rw [hb] at hx
    rw [if_neg (by rw [hb]; simp)] at hw
    have HW := Aside0.mk hw
    have HLT := Aside0.mk hlt
    have hwr : wrap64 ((j : Int) + 1) = ((j + 1 : Nat) : Int) := (by have := HLT.out; have := HLN.out; unfold wrap64; omega)
    have HWR := Aside0.mk hwr
    clear hb hw hwr
    go_wp2_with fail
    go_roundw
    case rel => exact ⟨j + 1, by have := HLT.out; omega, by first | rfl | (rw [← HWR.out]) | go_num, by first | trivial | rfl, HW⟩
    case measure =>
     have h1 := HLT.out
     have e1 : (intOf (Value.int .i64 (wrap64 ((j : Int) + 1)))).toNat = j + 1 := by rw [HWR.out]; rfl
     have e2 : (intOf (Value.int .i64 (j : Int))).toNat = j := rfl
     have e3 : ins.length - (intOf (Value.int .i64 (wrap64 ((j : Int) + 1)))).toNat < ins.length - (intOf (Value.int .i64 (j : Int))).toNat := by rw [e1, e2]; omega
     exact e3
  ·have hw := HQ.out
   rw [arb_winB_out ins j hlt] at hw
   subst hw
   have q0 : ¬ (j : Int) < (ins.length : Int) := by omega
   go_wp2_with fail
   go_ret
   exact ⟨rfl, HB.out⟩
theorem arb_Win.calls (A0 : Option Addr) (c0 : Nat) (l0 : List S26) (r : Int) (w : World) (hr0 : Kd.C k26 w A0 l0.length l0) (hc0 : l0.length ≤ c0) (h : arb_Win.f l0 = some r) :
  Calls Try.prog 8 #[.slice A0 l0.length c0] w fun e w' => e = .returned (.int .i64 r) ∧ Below w.heap.size w w' := by
 unfold arb_Win.f at h
 split at h
 case isFalse => cases h
 case isTrue hl =>
  exact arb_Win_at A0 c0 l0 r _ 128 w ⟨hr0⟩ ⟨hc0⟩ ⟨hl⟩ (by omega) ⟨rfl⟩ ⟨rfl⟩ ⟨by rw [(arb_runs_len (arb_ranks l0) 128).1]; unfold arb_ranks; rw [List.length_map]⟩ ⟨Option.some.inj h⟩

/-! ### bits_Spread: function 21 -/
def bits_Spread.f (l0 : List Int) : Option (List Int) := if l0.length ≤ 1099511627776 then some (H.spreadB l0) else none
theorem bits_spread_snoc (l : List Int) (x : Int) : H.spreadB (l ++ [x]) = H.spreadB l ++ H.bitsOf (wrap64 x) 8 := by simp [H.spreadB, List.flatMap_append]
theorem bits_spread_length (l : List Int) : (H.spreadB l).length = 8 * l.length := by
 induction l with
 | nil => rfl
 | cons x l ih => rw [show H.spreadB (x :: l) = H.bitsOf (wrap64 x) 8 ++ H.spreadB l from rfl, List.length_append, H.bitsOf_length, ih, List.length_cons]; omega
section
attribute [local go_sem] Oper.semAt_some
set_option maxRecDepth 100000 in
set_option maxHeartbeats 2000000 in
theorem bits_spread1 (B g cap base n₀ : Nat) (x : Int) (ys : List Int) (W : World) (hv : Boxed W B 30 (.slice (some ⟨g, 0, none⟩) ys.length cap)) (hrow : W.ownsRow base 3 1 (.slice (some ⟨g, 0, none⟩) ys.length cap) ys.length (encs (Value.int .i64) ys))
  (hcap : ys.length + 8 ≤ cap) (hgB : g ≠ B) (hnB : n₀ ≤ B) (hng : n₀ ≤ g) :
  Calls Try.prog 31 #[.int .u8 x, .pointer (some ⟨B, 0, none⟩)] W fun e W' => e = .returned (.tuple #[]) ∧ Boxed W' B 30 (.slice (some ⟨g, 0, none⟩) (ys.length + 8) cap) ∧
   W'.ownsRow base 3 1 (.slice (some ⟨g, 0, none⟩) (ys.length + 8) cap) (ys.length + 8) (encs (Value.int .i64) (ys ++ H.bitsOf (wrap64 x) 8)) ∧ Below n₀ W W' := by
 obtain ⟨i0, hi, hz0, hz1, hz2⟩ := info_parts info3
 have hgW : g < W.heap.size := own_lt hrow g rfl
 have hBW : B < W.heap.size := hv.lt
 have hf1 : Fence.wide.fn 32 := trivial
 have hf2 : Fence.wide.fn 38 := trivial
 refine (callsIn_wide (n := 5)).1 ?_
 refine callsIn_of_wp_marks Try.func31 rfl trivial ?_ rfl
 simp only [Try.ntmps31, List.size_toArray, List.length_cons, List.length_nil, Nat.reduceAdd, Nat.reduceSub, Array.replicate_succ, Array.replicate_zero, List.push_toArray, List.append_toArray, List.nil_append, List.cons_append]
 gi_wp2_with (gi_at_call 32; refine (callsIn_wide.2 (bits_shifts_calls _ _ _)).mono ?_; rintro e w' ⟨rfl, rfl⟩)
 have bN := Boxed.new W 3 (.int .i64 (wrap64 x))
 have bM := Boxed.new (W.alloc (.cells #[.int .i64 (wrap64 x)] 3)) 3 (.int .i64 8)
 simp only [World.size_alloc] at bM
 have hB0 : Below n₀ W ((W.alloc (.cells #[.int .i64 (wrap64 x)] 3)).alloc (.cells #[.int .i64 8] 3)) := ((Below.refl _ W).alloc (by omega) _).alloc (by simp; omega) _
 refine wpIn_rangeFunc_ownG rfl (by omega) (gf := 38) (lb := #[.pointer (some ⟨W.heap.size + 1, 0, none⟩), .pointer (some ⟨W.heap.size, 0, none⟩)]) rfl trivial (enters_of Try.func38 (by kernel_rfl) rfl)
  (bits_stops _ W.heap.size (W.heap.size + 1) (wrap64 x) 8 (by omega) (fun A B => ∀ t v, Boxed A W.heap.size t v → Boxed B W.heap.size t v) (fun A B h => h) _ (bN.alloc _) bM)
  (fun h k t v hv => k t v (h t v hv)) (fun W l o o' hl ho hc _ t v hv => hv.kept (grownBy_putObj' W l o') (fun he => by cases he; rw [show W.heap[_]? = _ from hv] at ho; cases ho; cases hc)) (Below.refl _ _) (fun _ => rfl)
  (fun pre W1 => (∃ v, Boxed W1 B 30 v ∧ W1.ownsRow base 3 1 v (ys.length + pre.length) (encs (Value.int .i64) (ys ++ pre)) ∧ v = .slice (some ⟨g, 0, none⟩) (ys.length + pre.length) cap) ∧ W.heap.size + 2 ≤ W1.heap.size ∧ Below n₀ W W1)
  (fun _ _ _ => False)
  (OwnFrom.and (Own.from (holdsRow_own base B 30 3 1 (fun pre => ys.length + pre.length) (fun pre => encs (Value.int .i64) (ys ++ pre)) (fun pre v => v = .slice (some ⟨g, 0, none⟩) (ys.length + pre.length) cap)) _) (OwnFrom.and (Own.from (bits_own_size (W.heap.size + 2)) _) (ownFrom_below (by omega) (by simp; omega))))
  (fun _ _ _ _ _ hs _ _ => hs)
  ⟨⟨_, (hv.alloc _).alloc _, by simpa using (hrow.alloc _).alloc _, rfl⟩, by simp, hB0⟩
  (fun y => { tmps := #[.int .u8 x, .pointer (some ⟨B, 0, none⟩), undef, .int .i64 y, .int .u8 x, .int .i64 (wrap64 x), .func (.func 38) #[] #[.pointer (some ⟨W.heap.size + 1, 0, none⟩), .pointer (some ⟨W.heap.size, 0, none⟩)], .int .i64 y, undef, undef, undef, undef], defers := [] }) ?assign ?body ?done ?stop
 case assign =>
  intro l x W K hK
  gi_wp2
  exact hK
 case body =>
  rintro l pre y W1 ⟨⟨v, hv, hrow, rfl⟩, hW3, hB⟩ hlt
  have hc := hv.cell
  have s1 : ys.length + pre.length + 1 ≤ cap := by omega
  gi_wp2_with (gi_at_builtin; refine wpListIn_append_fits _ rfl _ _ 30 rfl base 3 i0 1 Try.underlying30 hi hz1 g (ys.length + pre.length) cap _ rfl (hrow.alloc _) ⟨W1.heap.size, 0, none⟩ 1 1 [.int .i64 y] rfl rfl (cell_one_new _ _ _) (by simp [Value.oneCell']) s1 ?_; intro w1 hown' hgrow; obtain ⟨hv1, hv2, hr2, hk2, hb2, hx2, hz2⟩ := bits_appended' (n₀ := n₀) hv hrow (by have := hB.size; omega) hnB hng hgB hown' hgrow; have hc1 := hv1.cell; have hf1 := hv1.frozen)
  exact ⟨hk2.from _, fun t u hu => hx2 _ t u (by omega) (by omega) hu, ⟨_, hv2, by simpa [encs, Nat.add_assoc] using hr2, by simp [Nat.add_assoc]⟩, Nat.le_trans hW3 hz2, hB.trans hb2⟩
 case done =>
  rintro D zs W1 hD rfl ⟨⟨v, hv, hrow, rfl⟩, hW3, hB⟩ hK
  rw [H.bitsOf_length] at hv hrow
  gi_wp2
  refine ⟨by simp, .inl ⟨_, _, rfl, run_takeDeferred hK, ?_⟩⟩
  refine ⟨_, results_none rfl _ _ _, rfl, hv.kept (grownBy_putObj' W1 D _) (fun he => by cases he; rw [show W1.heap[_]? = _ from hv] at hK; cases hK), ownsRow_putObj hrow _ hK rfl, ?_⟩
  exact hB.trans (belowK_b (w := W) (by omega) W1 D _ _ (by simp at hD; omega) hK rfl rfl)
 case stop =>
  rintro D c pre W _ _ h _
  exact h.elim
end
set_option maxHeartbeats 800000 in
set_option maxRecDepth 100000 in
theorem bits_Spread.calls (A0 : Option Addr) (c0 : Nat) (l0 : List Int) (r : List Int) (w : World) (hr0 : Kd.C (Kd.int .u8) w A0 l0.length l0) (hc0 : l0.length ≤ c0) (h : bits_Spread.f l0 = some r) :
  Calls Try.prog 21 #[.slice A0 l0.length c0] w fun e w' => ∃ v0_ : Value, e = .returned v0_ ∧ Kd.R (Kd.int .i64) 3 w' w.heap.size (fun _ => True) v0_ r ∧ Below w.heap.size w w' := by
 have hmf : ∀ (fn : Fn) (first cap : Array Value) (w : World), (Instr.makeFunc fn first cap).run Try.prog w = .ok (.func fn first cap) w := fun _ _ _ _ => rfl
 obtain ⟨i0, hi, hz0, hz1, hz2⟩ := info_parts info3
 unfold bits_Spread.f at h
 by_cases hle : l0.length ≤ 1099511627776
 ·rw [if_pos hle] at h
  obtain rfl := Option.some.inj h
  clear h
  have HR0 := Aside0.mk hr0
  have HC0 := Aside0.mk hc0
  clear hr0 hc0
  have hmk : ∀ W : World, (Instr.makeSlice 30 (.int .i64 0) (.int .i64 (8 * (l0.length : Int)))).run Try.prog W = .ok (.slice (some ⟨W.heap.size, 0, none⟩) 0 (8 * l0.length)) (W.alloc (.cells (madeCells #[.int .i64 0] (8 * l0.length)) 3)) := fun W => by
   have := run_make (P := Try.prog) W 30 3 i0 (.int .i64 0) Try.underlying30 hi hz0 .i64 .i64 0 (8 * l0.length : Nat) (by omega) (by omega) (by rw [hz2]; omega) (by omega)
   rw [hz1, Int.toNat_natCast, Nat.mul_one, show ((0 : Int).toNat) = 0 from rfl, show ((8 * l0.length : Nat) : Int) = 8 * (l0.length : Int) by omega] at this
   exact this
  clear hi hz0 hz1 hz2
  go_enter Try.func21, Try.ntmps21
  go_wp2
  have hro := World.ownsRow_made (base := w.heap.size) (e := 3) (size := 1) w (madeCells #[Value.int .i64 0] (8 * l0.length)) (8 * l0.length) (Nat.le_refl _) (by simp only [maxLen]; omega) (by simp [madeCells])
  have bO := Boxed.new (w.alloc (.cells (madeCells #[.int .i64 0] (8 * l0.length)) 3)) 30 (.slice (some ⟨w.heap.size, 0, none⟩) 0 (8 * l0.length))
  simp only [World.size_alloc] at bO
  have HRO := Aside0.mk hro
  have BO := Aside0.mk bO
  clear hro bO
  go_loopw [14] (fun v wr => ∃ k : Nat, k ≤ l0.length ∧ v = .int .i64 k ∧ Aside0 (Boxed wr (w.heap.size + 1) 30 (.slice (some ⟨w.heap.size, 0, none⟩) (H.spreadB (l0.take k)).length (8 * l0.length))) ∧
   Aside0 (wr.ownsRow w.heap.size 3 1 (.slice (some ⟨w.heap.size, 0, none⟩) (H.spreadB (l0.take k)).length (8 * l0.length)) (H.spreadB (l0.take k)).length (encs (Value.int .i64) (H.spreadB (l0.take k)))) ∧ Aside0 (Below w.heap.size w wr)) (fun v _ => l0.length - (intOf v).toNat)
  case atStart => exact ⟨0, Nat.zero_le _, rfl, BO, ⟨HRO.out.alloc _⟩, ⟨((Below.refl _ w).alloc (Nat.le_refl _) _).alloc (by simp) _⟩⟩
  case round =>
   obtain ⟨k, hk, rfl, HB, HO, HW⟩ := hrel
   by_cases hlt : k < l0.length
   ·have p1 : 0 ≤ (k : Int) := by omega
    have q1 : (k : Int) < (l0.length : Int) := by omega
    obtain ⟨ad, e1, hx⟩ := Kd.at_int HR0.out k p1 q1
    cases e1
    have hx2 : wr.cell? (ad.add k) = some (.int .u8 (rd l0 k)) := pw_cell_below HW.out hx
    clear hx
    go_wp2_with fail
    refine (bits_spread1 (w.heap.size + 1) w.heap.size (8 * l0.length) w.heap.size w.heap.size (rd l0 k) (H.spreadB (l0.take k)) _ HB.out HO.out (by rw [bits_spread_length, List.length_take]; omega) (by omega) (by omega) (Nat.le_refl _)).mono ?_
    rintro e w1 ⟨rfl, hb1, ho1, hw1⟩
    have HB1 := Aside0.mk hb1
    have HO1 := Aside0.mk ho1
    have HW1 := Aside0.mk (HW.out.trans hw1)
    clear hb1 ho1 hw1
    go_wp2_with fail
    have hl := bits_spread_length (l0.take k)
    have hsn : H.spreadB (l0.take (k + 1)) = H.spreadB (l0.take k) ++ H.bitsOf (wrap64 (rd l0 k)) 8 := by rw [H.take_snoc 0 l0 k hlt, bits_spread_snoc]; rfl
    have hln : (H.spreadB (l0.take (k + 1))).length = (H.spreadB (l0.take k)).length + 8 := by rw [hsn, List.length_append, H.bitsOf_length]
    have HSN := Aside0.mk hsn
    have HLN := Aside0.mk hln
    clear hsn hln hl
    go_roundw
    case rel => exact ⟨k + 1, by omega, by go_num, ⟨by rw [HLN.out]; exact HB1.out⟩, ⟨by rw [HLN.out, HSN.out]; exact HO1.out⟩, HW1⟩
    case measure => simp [intOf]; omega
   ·obtain rfl : k = l0.length := by omega
    have hc9 := HB.out.cell
    rw [List.take_length] at hc9 HO
    go_wp2_with fail
    go_ret
    exact ⟨_, rfl, Kd.R_of_own HO.out (fun _ _ => trivial), HW.out⟩
 ·rw [if_neg hle] at h; cases h

end Go.Proofs.Ytechlakahpkdpaa.Px
