/- The common part of the claims of this seat: words, the walks of package hang's functions, and that the examples of the document hold (awake), part 4. Condition: the laid table hang.tens, as the card ties it. -/
import Derived.RangeFuncNested
import Derived.RangeFuncBound
import Derived.RangeFuncCalls
import Derived.RangeFuncLeaves
import Derived.Shelf.Abstract
import Derived.WalkKit
import Derived.OwnWalkIn
import Derived.TacticsInMore
import Derived.LoopNIn
import Derived.LoopIn
import Derived.Laws.OwnMore
import Derived.Test.YtppighiaffppkaaDoorZA3
section
namespace Go.Proofs.YtppighiaffppkaaDoor.H
open Go.RowKit Go.Shelf Go.Proofs.YtppighiaffppkaaDoorW.PrintWords Go.Proofs.YtppighiaffppkaaDoorW.PrintLast Go.Proofs.YtppighiaffppkaaDoorW.PrintMore
attribute [local go_sem] Oper.semAt_some
set_option linter.unusedSimpArgs false
set_option linter.unusedVariables false
def markStep (bar p q : Int) : Int := wrap64 ((wrap64 ((wrap64 (2 * bar)) * p)) * wrap64 (Int.tdiv 2329089562800 q))
def markRun (st : Int) : Nat → Int → List Int
 | 0, _ => []
 | n + 1, a => wrap64 (a + st) :: markRun st n (wrap64 (a + st))
def markEnd (st : Int) : Nat → Int → Int
 | 0, a => a
 | n + 1, a => markEnd st n (wrap64 (a + st))
def markFrom (bar : Int) : List S131 → Int → List Int
 | [], _ => []
 | s :: l, a => markRun (markStep bar s.f1.f0 s.f1.f1) s.f0.toNat a ++ markFrom bar l (markEnd (markStep bar s.f1.f0 s.f1.f1) s.f0.toNat a)
def markAll (bar : Int) (l : List S131) : List Int := 0 :: markFrom bar l 0
structure MarkKp (n₀ Bs Bb : Nat) (A B : World) : Prop where
 low : Below n₀ A B
 lst : ∀ v, A.cell? ⟨Bs, 0, none⟩ = some v → B.cell? ⟨Bs, 0, none⟩ = some v
 bar : ∀ v, A.cell? ⟨Bb, 0, none⟩ = some v → B.cell? ⟨Bb, 0, none⟩ = some v
 box : ∀ (b : Nat) (cs : Array Value) z, A.heap[b]? = some (.cells cs 131 z) → B.heap[b]? = some (.cells cs 131 z)
theorem markK_t {n₀ Bs Bb : Nat} {A B C : World} (h : MarkKp n₀ Bs Bb A B) (k : MarkKp n₀ Bs Bb B C) : MarkKp n₀ Bs Bb A C :=
 ⟨h.low.trans k.low, fun v e => k.lst v (h.lst v e), fun v e => k.bar v (h.bar v e), fun b cs z e => k.box b cs z (h.box b cs z e)⟩
theorem markK_b {n₀ Bs Bb : Nat} {w : World} (hn : n₀ ≤ w.heap.size) (W : World) (l : Nat) (o o' : Obj) (hl : w.heap.size ≤ l) (h : W.heap[l]? = some o) (hc : o.isCells = false) : MarkKp n₀ Bs Bb W (W.putObj l o') := by
 have hne : ∀ (b : Nat) (v : Value), W.cell? ⟨b, 0, none⟩ = some v → b ≠ l := by
  intro b v hb e;subst e;rw [World.cell?] at hb;simp only [h] at hb;cases o <;> simp [Obj.isCells] at hc hb
 have hob : ∀ b, b ≠ l → (W.putObj l o').heap[b]? = W.heap[b]? := fun b hb => World.putObj_heap_other hb
 refine ⟨?_, fun v e => (World.cell?_of_block (hob _ (hne _ _ e))).trans e, fun v e => (World.cell?_of_block (hob _ (hne _ _ e))).trans e, fun b cs z e => ?_⟩
 ·exact (Below.refl n₀ W).grown (grownBy_putObj' W l o') (by have := (Array.getElem?_eq_some_iff.1 h).1; omega) (fun k e => by cases e; omega)
 ·refine (hob b ?_).trans e;rintro rfl;rw [h] at e;cases e;simp [Obj.isCells] at hc
theorem below_grown {A B : World} (h : Below A.heap.size A B) : A.grownBy B none := ⟨h.os, h.tape, h.output, h.size, fun k hk _ => h.block k hk⟩
theorem below_more {n₀ : Nat} {W A B : World} (h : Below n₀ W A) (k : Below A.heap.size A B) (hn : n₀ ≤ W.heap.size) (hs : W.heap.size ≤ A.heap.size) : Below n₀ W B :=
 ⟨k.os.trans h.os, k.tape.trans h.tape, k.output.trans h.output, Nat.le_trans h.size k.size, fun i hi => (k.block i (by omega)).trans (h.block i hi)⟩
set_option maxHeartbeats 4000000 in
set_option maxRecDepth 100000 in
theorem hang_marks1.walk (n : Nat) (hn : 1 ≤ n) (l Bs Bb n₀ : Nat) (A0 : Option Addr) (c0 : Nat) (xs : List S131) (bar : Int) (hden : ∀ s ∈ xs, s.f1.f1 ≠ 0) (hmes : ∀ s ∈ xs, s.f0 ≤ 4611686018427387904) (hmany : xs.length ≤ 4611686018427387904) (J Jx : List Int → World → Prop) (W : World)
  (hJ : AbidesFrom W.heap.size J) (hJx : AbidesFrom W.heap.size Jx)
  (hY : ∀ pre x W1, J pre W1 → (∃ rest, markAll bar xs = pre ++ x :: rest) → YieldAt Fence.wide (n - 1) Tryd.prog l #[.int .i64 x] W1 fun e W' =>
   (e = .returned (.bool true) ∧ J (pre ++ [x]) W' ∧ MarkKp n₀ Bs Bb W1 W') ∨ (e = .returned (.bool false) ∧ Jx (pre ++ [x]) W'))
  (hBs : W.cell? ⟨Bs, 0, none⟩ = some (.slice A0 xs.length c0)) (hBb : W.cell? ⟨Bb, 0, none⟩ = some (.int .i64 bar))
  (hC : Kd.C k131 W A0 xs.length xs) (hlow : ∀ ad, A0 = some ad → 0 < xs.length → ad.block < n₀) (hn0 : n₀ ≤ W.heap.size) (h0 : J [] W) :
  CallsIn Fence.wide n Tryd.prog 108 #[.func (.yield l) #[] #[], .pointer (some ⟨Bs, 0, none⟩), .pointer (some ⟨Bb, 0, none⟩)] W fun e W' => (∃ v, e = .returned v) ∧
   ((∃ ys, ys = markAll bar xs ∧ J ys W') ∨ (∃ pre, pre <+: markAll bar xs ∧ Jx pre W')) := by
 refine callsIn_of_wp Tryd.func108 rfl trivial ?_ rfl
 simp only [Tryd.ntmps108, List.size_toArray, List.length_cons, List.length_nil, Nat.reduceAdd, Nat.reduceSub, Array.replicate_succ, Array.replicate_zero, List.push_toArray, List.append_toArray, List.nil_append, List.cons_append]
 obtain ⟨fn, tmps, assign, body, hy, hR⟩ := hY [] 0 W h0 ⟨_, rfl⟩
 gi_wp2
 refine hR.mono ?_
 clear hy hR
 rintro e W3 (⟨rfl, hJ3, hk3⟩ | ⟨rfl, hJx3⟩)
 ·have hBs3 := hk3.lst _ hBs;have hBb3 := hk3.bar _ hBb;gi_wp2
  gi_loopw [4, 13] (fun v4 v13 wr => ∃ (k : Nat) (a : Int) (pre : List Int), k ≤ xs.length ∧ v13 = .int .i64 k ∧ v4 = .int .i64 a ∧ markAll bar xs = pre ++ markFrom bar (xs.drop k) a ∧ J pre wr ∧ Below n₀ W wr ∧ wr.cell? ⟨Bb, 0, none⟩ = some (.int .i64 bar) ∧ W.heap.size ≤ wr.heap.size) (fun _ v13 _ => xs.length - (intOf v13).toNat)
  case atStart => exact ⟨0, 0, [0], Nat.zero_le _, rfl, rfl, rfl, by simpa using hJ3, hk3.low, hBb3, hk3.low.size⟩
  case round =>
   rename World => wo
   obtain ⟨k, a, pre, hkl, rfl, rfl, hall, hJw, hBw, hBbw, hsz⟩ := hrel;by_cases hlt : k < xs.length
   ·have hmem : rd_T131 xs (k : Int) ∈ xs := by
     have : rd_T131 xs (k : Int) = xs[k] := by unfold rd_T131; simp [hlt]
     rw [this]; exact List.getElem_mem _
    have hdrop : xs.drop k = rd_T131 xs (k : Int) :: xs.drop (k + 1) := by
     have : rd_T131 xs (k : Int) = xs[k] := by unfold rd_T131; simp [hlt]
     rw [this]; exact List.drop_eq_getElem_cons hlt
    obtain ⟨ad, ead, hx0, hx1, hx2⟩ := at_T131 hC (k : Int) (by omega) (by omega);have hadl := hlow ad ead (by omega);cases ead;replace hx0 := (hBw.cell (by first | exact hadl | (simp only [Addr.add]; exact hadl) | (unfold Addr.add; split <;> exact hadl))).trans hx0
    replace hx1 := (hBw.cell (by first | exact hadl | (simp only [Addr.add]; exact hadl) | (unfold Addr.add; split <;> exact hadl))).trans hx1
    replace hx2 := (hBw.cell (by first | exact hadl | (simp only [Addr.add]; exact hadl) | (unfold Addr.add; split <;> exact hadl))).trans hx2
    simp only [Int.toNat_natCast] at hx0 hx1 hx2;have hq := hden _ hmem;have hm := hmes _ hmem;have wk : wrap64 ((k : Int) + 1) = (k : Int) + 1 := by unfold wrap64; omega
    rw [hdrop] at hall;generalize rd_T131 xs (k : Int) = s at *;have HB := Z0.mk (Below.refl wo.heap.size wo);have p0 : (0 ≤ (k : Int)) = True := eq_true (by omega);have q0 : ((k : Int) < (xs.length : Int)) = True := eq_true (by omega);refine wpIn_wide.2 ?_;go_wp2_with (first | ((with_reducible refine gtD (N := 6) rfl ?_); refine bxE ?hg (N := 6) ?hd (cs := #[.int .i64 0, .int .i64 0, .int .i64 0]) (t := 131) ?hr ?_; (case hd => rfl); (case hg => rfl); (case hr => first | (go_simp; done) | (go_simp; rfl)); intro gb225 hg w8 hbox hb; have n1_ := Z0.mk (bwT (by repeat (first | (with_reducible first | exact HB.out | apply bwA | apply bwN | apply bw1) | exact HB.out)) hb); have n2_ := Z0.mk (hbox); have n4_ := Z0.mk ((by rw [hg]; exact (bwZ (by repeat (first | (with_reducible first | exact HB.out | apply bwA | apply bwN | apply bw1) | exact HB.out)))) : wo.heap.size ≤ gb225); clear HB; have HB := n1_; have BK225 := n2_; have GE225 := n4_; clear n1_ n2_ n4_; clear hb hbox hg; have hcz9_0 : w8.cell? ⟨gb225, 0, none⟩ = some (.int .i64 0) := (bkC BK225.out 0).trans rfl; have hcz9_1 : w8.cell? ⟨gb225, 1, none⟩ = some (.int .i64 0) := (bkC BK225.out 1).trans rfl; have hcz9_2 : w8.cell? ⟨gb225, 2, none⟩ = some (.int .i64 0) := (bkC BK225.out 2).trans rfl; have hfz9_0 := bkZ BK225.out 0; have hfz9_1 := bkZ BK225.out 1; have hfz9_2 := bkZ BK225.out 2))
    generalize hw9 : World.setCell _ _ _ = w9;have hB9 : Below wo.heap.size wo w9 := by rw [← hw9]; exact (by repeat (first | (with_reducible first | exact HB.out | apply bwA | apply bwN | apply bw1 | refine bwS ?_ GE225.out) | exact HB.out))
    have hK9 : w9.heap[gb225]? = some (.cells #[.int .i64 s.f0, .int .i64 s.f1.f0, .int .i64 s.f1.f1] 131 (0, 0)) := by rw [← hw9]; exact (by (with_reducible repeat (first | refine bkN ?_ _ | refine bkD ?_ | refine bkA ?_ _)); refine bkP (cs := #[.int .i64 s.f0, .int .i64 s.f1.f0, .int .i64 0]) ?_ 2 _ rfl; (with_reducible repeat (first | refine bkN ?_ _ | refine bkD ?_ | refine bkA ?_ _)); refine bkP (cs := #[.int .i64 s.f0, .int .i64 0, .int .i64 0]) ?_ 1 _ rfl; (with_reducible repeat (first | refine bkN ?_ _ | refine bkD ?_ | refine bkA ?_ _)); refine bkP (cs := #[.int .i64 0, .int .i64 0, .int .i64 0]) ?_ 0 _ rfl; (with_reducible repeat (first | refine bkN ?_ _ | refine bkD ?_ | refine bkA ?_ _)); exact BK225.out)
    clear hw9 hcz9_0 hcz9_1 hcz9_2 hfz9_0 hfz9_1 hfz9_2 HB BK225;have hJ9 : J pre w9 := hJ _ _ _ none hJw (below_grown hB9) (by intro r e; cases e);have hbar9 : w9.cell? ⟨Bb, 0, none⟩ = some (.int .i64 bar) := (hB9.cell (World.block_lt_of_cell? _ _ hBbw)).trans hBbw;have hBw9 : Below n₀ W w9 := below_more hBw hB9 hn0 hsz;have hsz9 : W.heap.size ≤ w9.heap.size := Nat.le_trans hsz hB9.size;refine (wpIn_wide (n := n)).1 ?_;gi_loopw [4, 19] (fun v4 v19 w1 => ∃ (j : Nat) (b : Int) (pre1 : List Int), j ≤ s.f0.toNat ∧ v19 = .int .i64 j ∧ v4 = .int .i64 b ∧ markAll bar xs = pre1 ++ (markRun (markStep bar s.f1.f0 s.f1.f1) (s.f0.toNat - j) b ++ markFrom bar (xs.drop (k + 1)) (markEnd (markStep bar s.f1.f0 s.f1.f1) (s.f0.toNat - j) b)) ∧ J pre1 w1 ∧ Below n₀ W w1 ∧ w1.cell? ⟨Bb, 0, none⟩ = some (.int .i64 bar) ∧ W.heap.size ≤ w1.heap.size ∧ w1.heap[gb225]? = some (.cells #[.int .i64 s.f0, .int .i64 s.f1.f0, .int .i64 s.f1.f1] 131 (0, 0))) (fun _ v19 _ => s.f0.toNat - (intOf v19).toNat)
    case atStart => exact ⟨0, a, pre, Nat.zero_le _, rfl, rfl, by rw [hall]; rfl, hJ9, hBw9, hbar9, hsz9, hK9⟩
    case round =>
     obtain ⟨j, b, pre1, hjl, rfl, rfl, hall1, hJ1, hB1, hbar1, hsz1, hK1⟩ := hrel;by_cases hlt1 : j < s.f0.toNat
     ·have q1 : ((j : Int) < s.f0) = True := eq_true (by omega);have hst : s.f0.toNat - j = (s.f0.toNat - (j + 1)) + 1 := by omega
      rw [hst] at hall1;simp only [markRun, markEnd] at hall1;have hlen1 : ∃ rest, markAll bar xs = pre1 ++ wrap64 (b + markStep bar s.f1.f0 s.f1.f1) :: rest := ⟨_, hall1⟩;have hc0 : wr.cell? ⟨gb225, 0, none⟩ = some (.int .i64 s.f0) := (bkC hK1 0).trans rfl;have hc1 : wr.cell? ⟨gb225, 1, none⟩ = some (.int .i64 s.f1.f0) := (bkC hK1 1).trans rfl;have hc2 : wr.cell? ⟨gb225, 2, none⟩ = some (.int .i64 s.f1.f1) := (bkC hK1 2).trans rfl;have hq0 : (s.f1.f1 == 0) = false := beq_eq_false_iff_ne.mpr hq;refine wpIn_wide.2 ?_;go_wp2
      go_quiet (fail)
      rename_i K1_ aK1 K0_ aK
      replace aK1 := fun a w h => aK1 a w ((wpIn_wide (n := n)).1 h)
      generalize hw5 : World.drewN _ _ = w5;have hB5 : Below wr.heap.size wr w5 := by rw [← hw5]; exact bwN (Below.refl _ _) _
      have hK5 : w5.heap[gb225]? = some (.cells #[.int .i64 s.f0, .int .i64 s.f1.f0, .int .i64 s.f1.f1] 131 (0, 0)) := by rw [← hw5]; exact bkN hK1 _
      have hJ5 : J pre1 w5 := hJ _ _ _ none hJ1 (below_grown hB5) (by intro r e; cases e);have hbar5 : w5.cell? ⟨Bb, 0, none⟩ = some (.int .i64 bar) := (hB5.cell (World.block_lt_of_cell? _ _ hbar1)).trans hbar1;have hB51 : Below n₀ W w5 := below_more hB1 hB5 hn0 hsz1;have hsz5 : W.heap.size ≤ w5.heap.size := Nat.le_trans hsz1 hB5.size;clear hw5;obtain ⟨fn2, tmps2, assign2, body2, hy, hR⟩ := hY pre1 (wrap64 (b + markStep bar s.f1.f0 s.f1.f1)) w5 hJ5 hlen1;unfold markStep at hy
      refine aK _ _ ?_;refine (wpIn_wide (n := n)).1 ?_;gi_wp2
      refine hR.mono ?_;clear hy hR;rintro e w6 (⟨rfl, hJ6, hk6⟩ | ⟨rfl, hJx6⟩)
      ·gi_wp2
       have wj : wrap64 ((j : Int) + 1) = (j : Int) + 1 := by unfold wrap64; omega
       go_roundw
       case rel => exact ⟨j + 1, _, _, hlt1, by first | (simp; done) | (simp [wj]; done), rfl, by rw [hall1]; simp only [List.append_assoc, List.cons_append, List.nil_append]; rfl, hJ6, hB51.trans hk6.low, hk6.bar _ hbar5, Nat.le_trans hsz5 hk6.low.size, hk6.box _ _ _ hK5⟩
       case measure => simp [intOf, wj]; omega
      ·gi_wp2
       refine bodyPost_ret (results_none rfl _ _ _) rfl ?_;exact ⟨⟨_, rfl⟩, .inr ⟨_, ⟨_, by rw [hall1, List.append_assoc]; rfl⟩, hJx6⟩⟩
     ·have hj : s.f0.toNat - j = 0 := by omega
      rw [hj] at hall1;have q1 : ((j : Int) < s.f0) = False := eq_false (by omega);refine wpIn_wide.2 ?_;go_wp2
      go_roundw
      case rel => exact ⟨k + 1, b, pre1, hlt, by first | (simp; done) | (simp [wk]; done), rfl, by rw [hall1]; rfl, hJ1, hB1, hbar1, hsz1⟩
      case measure => simp [intOf, wk]; omega
   ·obtain rfl : k = xs.length := by omega
    rw [List.drop_length] at hall;have q0 : ((xs.length : Int) < (xs.length : Int)) = False := eq_false (by omega);gi_wp2
    go_end0
    refine ⟨⟨_, rfl⟩, .inl ⟨_, rfl, ?_⟩⟩;rw [hall]; simpa [markFrom] using hJw
 ·gi_wp2
  refine bodyPost_ret (results_none rfl _ _ _) rfl ?_;exact ⟨⟨_, rfl⟩, .inr ⟨_, by simp [markAll], hJx3⟩⟩
theorem hang_marks1.stops (n : Nat) (hn : 1 ≤ n) (Bs Bb n₀ : Nat) (A0 : Option Addr) (c0 : Nat) (xs : List S131) (bar : Int) (hden : ∀ s ∈ xs, s.f1.f1 ≠ 0) (hmes : ∀ s ∈ xs, s.f0 ≤ 4611686018427387904) (hmany : xs.length ≤ 4611686018427387904) (w : World)
  (hBs : w.cell? ⟨Bs, 0, none⟩ = some (.slice A0 xs.length c0)) (hBb : w.cell? ⟨Bb, 0, none⟩ = some (.int .i64 bar))
  (hC : Kd.C k131 w A0 xs.length xs) (hn0 : n₀ ≤ w.heap.size) (hlow : ∀ ad, A0 = some ad → 0 < xs.length → ad.block < n₀) :
  SeqStopsK Fence.wide n Tryd.prog 108 #[.pointer (some ⟨Bs, 0, none⟩), .pointer (some ⟨Bb, 0, none⟩)] (fun x : Int => #[Value.int .i64 x]) (MarkKp n₀ Bs Bb) (fun ys => ys = markAll bar xs) (fun pre => pre <+: markAll bar xs) (markAll bar xs).length w :=
 fun l J Jx W hW hJ hJx hY h0 =>
  hang_marks1.walk n hn l Bs Bb n₀ A0 c0 xs bar hden hmes hmany J Jx W hJ hJx (fun pre x W1 hj hr => hY pre x W1 hj (by obtain ⟨r, e⟩ := hr; rw [e]; simp)) ((hW.cell (World.block_lt_of_cell? _ _ hBs)).trans hBs) ((hW.cell (World.block_lt_of_cell? _ _ hBb)).trans hBb)
   (Kd.C_below hC hW) hlow (Nat.le_trans hn0 hW.size) h0
theorem hang_marks1.stopsS (n : Nat) (hn : 1 ≤ n) (Bs Bb n₀ : Nat) (A0 : Option Addr) (c0 : Nat) (xs : List S131) (bar : Int) (hden : ∀ s ∈ xs, s.f1.f1 ≠ 0) (hmes : ∀ s ∈ xs, s.f0 ≤ 4611686018427387904) (hmany : xs.length ≤ 4611686018427387904) (w : World)
  (hBs : w.cell? ⟨Bs, 0, none⟩ = some (.slice A0 xs.length c0)) (hBb : w.cell? ⟨Bb, 0, none⟩ = some (.int .i64 bar))
  (hC : Kd.C k131 w A0 xs.length xs) (hn0 : n₀ ≤ w.heap.size) (hlow : ∀ ad, A0 = some ad → 0 < xs.length → ad.block < n₀) :
  SeqStopsK Fence.wide n Tryd.prog 108 #[.pointer (some ⟨Bs, 0, none⟩), .pointer (some ⟨Bb, 0, none⟩)] (fun x : { x : Int // x ∈ markAll bar xs } => #[Value.int .i64 x.1]) (MarkKp n₀ Bs Bb) (fun ys => ys.map (·.1) = markAll bar xs) (fun pre => pre.map (·.1) <+: markAll bar xs) (markAll bar xs).length w :=
 fun l J Jx W hW hJ hJx hY h0 => by
  refine (hang_marks1.walk n hn l Bs Bb n₀ A0 c0 xs bar hden hmes hmany (fun pre W => ∃ p : List { x : Int // x ∈ markAll bar xs }, p.map (·.1) = pre ∧ J p W) (fun pre W => ∃ p : List { x : Int // x ∈ markAll bar xs }, p.map (·.1) = pre ∧ Jx p W) W
   (fun s A B row hs hg hr => by obtain ⟨p, e, hp⟩ := hs; exact ⟨p, e, hJ p A B row hp hg hr⟩) (fun s A B row hs hg hr => by obtain ⟨p, e, hp⟩ := hs; exact ⟨p, e, hJx p A B row hp hg hr⟩) ?_
   ((hW.cell (World.block_lt_of_cell? _ _ hBs)).trans hBs) ((hW.cell (World.block_lt_of_cell? _ _ hBb)).trans hBb) (Kd.C_below hC hW) hlow (Nat.le_trans hn0 hW.size) ⟨[], rfl, h0⟩).mono ?_
  ·rintro pre x W1 ⟨p, rfl, hp⟩ ⟨rest, hr⟩;have hx : x ∈ markAll bar xs := by rw [hr]; simp
   refine (hY p ⟨x, hx⟩ W1 hp (by have := congrArg List.length hr; simp at this; omega)).mono ?_;rintro e W' (⟨he, hj, hk⟩ | ⟨he, hj⟩)
   ·exact .inl ⟨he, ⟨p ++ [⟨x, hx⟩], by simp, hj⟩, hk⟩
   ·exact .inr ⟨he, ⟨p ++ [⟨x, hx⟩], by simp, hj⟩⟩
  ·rintro e W' ⟨he, ⟨ys, rfl, p, hp, hj⟩ | ⟨pre, hpre, p, rfl, hj⟩⟩
   ·exact ⟨he, .inl ⟨p, hp, hj⟩⟩
   ·exact ⟨he, .inr ⟨p, hpre, hj⟩⟩
set_option maxHeartbeats 4000000 in
theorem hang_marks.calls (A0 : Option Addr) (m0 c0 : Nat) (bar : Int) (w : World) :
  Calls Tryd.prog 83 #[.slice A0 m0 c0, .int .i64 bar] w fun e w' => e = .returned (.func (.func 108) #[] #[.pointer (some ⟨w.heap.size, 0, none⟩), .pointer (some ⟨w.heap.size + 1, 0, none⟩)]) ∧
   w' = (w.alloc (.cells #[.slice A0 m0 c0] 63)).alloc (.cells #[.int .i64 bar] 3) := by
 go_enter Tryd.func83, Tryd.ntmps83
 go_wp2
 go_ret
 exact ⟨rfl, rfl⟩
theorem kept_set {w : World} {D : Nat} {x} (h : w.heap[D]? = some (.deferred x)) (a : Addr) (v : Value) : (w.setCell a v).heap[D]? = some (.deferred x) := (KeepsOthers.setCell w a v).same D _ h rfl
theorem markK_set {n₀ Bs Bb g : Nat} {W : World} {cs : Array Value} {t : TypeId} {z : Nat × Nat} (h : W.heap[g]? = some (.cells cs t z)) (ht : t ≠ 131) (h0 : n₀ ≤ g) (hs : Bs ≠ g) (hb : Bb ≠ g) (i : Nat) (v : Value) : MarkKp n₀ Bs Bb W (W.setCell ⟨g, i, none⟩ v) := by
 have hob : ∀ b, b ≠ g → (W.setCell ⟨g, i, none⟩ v).heap[b]? = W.heap[b]? := fun b hne => Below.heap_setCell _ _ _ b hne
 refine ⟨(Below.refl n₀ W).setCell (p := ⟨g, i, none⟩) h0 v, fun u e => (World.cell?_of_block (hob _ hs)).trans e, fun u e => (World.cell?_of_block (hob _ hb)).trans e, fun b cs' z' e => (hob b ?_).trans e⟩
 rintro rfl
 rw [h] at e
 cases e
 exact ht rfl
theorem markK_below {n₀ Bs Bb : Nat} {A B : World} (h : Below A.heap.size A B) (hn : n₀ ≤ A.heap.size) : MarkKp n₀ Bs Bb A B :=
 ⟨h.mono hn, fun v e => (h.cell (World.block_lt_of_cell? _ _ e)).trans e, fun v e => (h.cell (World.block_lt_of_cell? _ _ e)).trans e, fun b cs z e => (h.block b (Array.getElem?_eq_some_iff.1 e).1).trans e⟩
theorem marks_low {w : World} {A0 : Option Addr} {xs : List S131} (hC : Kd.C k131 w A0 xs.length xs) : ∀ ad, A0 = some ad → 0 < xs.length → ad.block < w.heap.size := by
 intro ad e hl
 obtain ⟨ad', e', h0, _, _⟩ := at_T131 hC 0 (by omega) (by omega)
 rw [e'] at e; cases e
 have := World.block_lt_of_cell? w _ h0
 simpa [Addr.add] using this
end Go.Proofs.YtppighiaffppkaaDoor.H
end
section
namespace Go.Proofs.YtppighiaffppkaaDoor.H
open Go.RowKit Go.Proofs.YtppighiaffppkaaDoorW.PrintWords Go.Proofs.YtppighiaffppkaaDoorW.PrintLast Go.Proofs.YtppighiaffppkaaDoorW.PrintMore
attribute [local go_sem] max2_int min2_int max_two min_two max_three min_three max_four min_four
set_option linter.unusedSimpArgs false
set_option linter.unusedVariables false
def api_Errno_106.l0 (cb : Int → Int → Int → Option Int) : Nat → List Int → List (S131) → Int → Int → Option (List Int)
 | 0, _, _, _, _ => none
 | k + 1, x5, x8, x9, x10 => if x10 < x9 then (if 0 ≤ x10 then (if x10 < (x8.length : Int) then ((cb ((rd_T131 x8 x10).f0) ((rd_T131 x8 x10).f1.f0) ((rd_T131 x8 x10).f1.f1)).bind fun t216 => (if x5.length < 17592186044416 then (api_Errno_106.l0 cb k (x5 ++ [t216]) x8 x9 (wrap64 (x10 + 1))) else (none))) else (none)) else (none)) else (some x5)
def api_Errno_106.f (cb : Int → Int → Int → Option Int) (k : Nat) (l0 : List (S131))  : Option (List Int) := api_Errno_106.l0 cb k ([] : List Int) l0 (l0.length : Int) 0
theorem api_Errno_106.mono_l (cb : Int → Int → Int → Option Int) : ∀ k, (∀ y0 y1 y2 y3, LeO (api_Errno_106.l0 cb k y0 y1 y2 y3) (api_Errno_106.l0 cb (k + 1) y0 y1 y2 y3))
 | 0 => fun _ _ _ _ r h => by simp [api_Errno_106.l0] at h
 | k + 1 => by
  have ih0 := api_Errno_106.mono_l cb k
  ·intro y0 y1 y2 y3;unfold api_Errno_106.l0
   repeat' first
   | (with_reducible exact ih0 _ _ _ _)
   | (with_reducible exact LeO.refl _)
   | (with_reducible exact LeO.none _)
   | (with_reducible refine LeO.ite ?_ ?_)
   | (with_reducible refine LeO.bind ?_ (fun _ => ?_))
   | exact ih0 _ _ _ _
   | exact LeO.none _
   | refine LeO.ite ?_ ?_
   | refine LeO.bind ?_ (fun _ => ?_)
theorem api_Errno_106.mono (cb : Int → Int → Int → Option Int) : ∀ a0 k, LeO (api_Errno_106.f cb k a0) (api_Errno_106.f cb (k + 1) a0) := by
 intro a0 k
 have ih0 := api_Errno_106.mono_l cb k
 unfold api_Errno_106.f
 repeat' first
   | (with_reducible exact ih0 _ _ _ _)
   | (with_reducible exact LeO.refl _)
   | (with_reducible exact LeO.none _)
   | (with_reducible refine LeO.ite ?_ ?_)
   | (with_reducible refine LeO.bind ?_ (fun _ => ?_))
   | exact ih0 _ _ _ _
   | exact LeO.none _
   | refine LeO.ite ?_ ?_
   | refine LeO.bind ?_ (fun _ => ?_)
set_option maxHeartbeats 8000000 in
set_option maxRecDepth 100000 in
theorem api_Errno_106.calls (k : Nat) (A0 : Option Addr) (c0 : Nat) (l0 : List (S131)) (cb : Int → Int → Int → Option Int) (r : List Int) (w : World) (K_ : Nat) (caps_ : Array Value) (eg : ∀ args w, (callFunc K_ args).run Tryd.prog w = .ok (.enter K_ args) w) (hcb : ∀ (x0 x1 x2 : Int) (r_ : Int) (w1 : World), Below w.heap.size w w1 → cb x0 x1 x2 = some r_ → Calls Tryd.prog K_ (#[.agg #[.int .i64 x0, .int .i64 x1, .int .i64 x2]] ++ caps_) w1 fun e w2 => e = .returned (.int .i64 r_) ∧ Below w1.heap.size w1 w2) (hr0 : Kd.C k131 w A0 l0.length l0) (hc0 : l0.length ≤ c0) (h : api_Errno_106.f cb k l0 = some r) :
  Calls Tryd.prog 106 #[.slice A0 l0.length c0, .func (.func K_) #[] caps_] w fun e w' => ∃ v0_ : Value, e = .returned (v0_) ∧ Kd.R (Kd.int .i64) 26 w' w.heap.size (fun _ => True) v0_ r ∧ Below w.heap.size w w' := by
 have HCB_ := Z0.mk hcb
 clear hcb
 have hu131 := Tryd.underlying131
 have HR0 := Z0.mk hr0
 have HC0 := Z0.mk hc0
 clear hr0 hc0
 have HB := Z0.mk (Below.refl w.heap.size w)
 have H : (api_Errno_106.l0 cb k ([] : List Int) l0 (l0.length : Int) 0) = some r := h
 clear h
 have H' := Z0.mk H
 clear H
 go_enter Tryd.func106, Tryd.ntmps106
 go_wp2
 go_loopg [5, 10] k (fun kq v5 v10 w' => ∃ (x5_1 : List Int) (x10_1 : Int), v10 = .int .i64 x10_1 ∧ Z0 (api_Errno_106.l0 cb kq x5_1 l0 (l0.length : Int) x10_1 = some r) ∧ Z0 (kq ≤ k) ∧ Z0 (Kd.R (Kd.int .i64) 26 w' w.heap.size (fun _ => True) v5 x5_1) ∧ Z0 (Below w.heap.size w w'))
 case atStart => exact ⟨(([] : List Int)), (0), (by first | rfl | (simp; done) | (simp [*]; done)), H', ⟨Nat.le_refl _⟩, ⟨by first | exact Kd.R_nil _ _ _ _ _ | exact Kd.N_nil _ _ _ _ _ | exact Kd.V_nil _ _ _ _ _ | exact Kd.Q_nil _ _ _ _ _ | exact Kd.S_nil _ _ _ _ _⟩, ⟨by repeat (first | (with_reducible first | exact HB.out | apply bwA | apply bwN | apply bw1) | exact HB.out)⟩⟩
 case round =>
  clear H';try clear c1
  try clear p2
  obtain ⟨x5_1, x10_1, rfl, HA, HK1, HO_5, HB⟩ := hrel;cases gk with
  | zero => exact absurd HA.out (by simp [api_Errno_106.l0])
  | succ k1 =>
   have H := HA.out;clear HA;simp only [api_Errno_106.l0] at H;by_cases c3 : x10_1 < (l0.length : Int)
   ·rw [if_pos c3] at H;have c3b0 : decide (x10_1 < (l0.length : Int)) = true := decide_eq_true c3;clear c3;by_cases c4 : 0 ≤ x10_1
    ·rw [if_pos c4] at H;have c4b0 : decide (0 ≤ x10_1) = true := decide_eq_true c4;clear c4;by_cases c5 : x10_1 < (l0.length : Int)
     ·rw [if_pos c5] at H;have c5b0 : decide (x10_1 < (l0.length : Int)) = true := decide_eq_true c5;clear c5;replace H := Option.bind_eq_some_iff.mp H
      obtain ⟨t216, A60, H⟩ := H;try dsimp only at H
      have A6 := Z0.mk A60;clear A60;by_cases c7 : x5_1.length < 17592186044416
      ·rw [if_pos c7] at H;have LMc7 := Z0.mk c7;clear c7;obtain ⟨y217, hy217⟩ : ∃ y_ : List Int, y_ = (x5_1 ++ [t216]) := ⟨_, rfl⟩;replace H : (api_Errno_106.l0 cb k1 y217 l0 (l0.length : Int) (wrap64 (x10_1 + 1))) = some r := by first | (rw [hy217]; with_reducible exact H) | (have H2_ := (Option.bind_some _ _).symm.trans H; rw [hy217]; with_reducible exact H2_) | (have H2_ := (Option.bind_some _ _).symm.trans H; with_reducible exact H2_) | with_reducible exact H | (rw [hy217]; exact H) | exact H
       have Ny217 := Z0.mk hy217;clear hy217;have H' := Z0.mk H;clear H;have p214 : 0 ≤ (x10_1 : Int) := of_decide_eq_true (by first | (with_reducible assumption) | assumption);have q214 : x10_1 < (l0.length : Int) := of_decide_eq_true (by first | (with_reducible assumption) | assumption);obtain ⟨ad214, e214, hx214_0, hx214_1, hx214_2⟩ := at_T131 HR0.out x10_1 p214 q214;cases e214;replace hx214_0 := (HB.out.cell (World.block_lt_of_cell? w _ hx214_0)).trans hx214_0
       replace hx214_1 := (HB.out.cell (World.block_lt_of_cell? w _ hx214_1)).trans hx214_1
       replace hx214_2 := (HB.out.cell (World.block_lt_of_cell? w _ hx214_2)).trans hx214_2
       replace p214 := eq_true p214
       replace q214 := eq_true q214
       go_wp2_with (first | ((with_reducible refine gtD (N := 7) rfl ?_); refine bxE ?hg (N := 7) ?hd (cs := #[.int .i64 0, .int .i64 0, .int .i64 0]) (t := 131) ?hr ?_; (case hd => rfl); (case hg => rfl); (case hr => first | (go_simp; done) | (go_simp; rfl)); intro gb215 hg w8 hbox hb; have n0_ := Z0.mk (Kd.R_below (by (with_reducible repeat (first | apply Kd.R_alloc | apply Kd.R_drewN | apply Kd.R_drew)); exact HO_5.out) hb); have n1_ := Z0.mk (bwT (by repeat (first | (with_reducible first | exact HB.out | apply bwA | apply bwN | apply bw1) | exact HB.out)) hb); have n2_ := Z0.mk (hbox); have n3_ := Z0.mk ((by rw [hg]; exact (bwZ (by repeat (first | (with_reducible first | exact HB.out | apply bwA | apply bwN | apply bw1) | exact HB.out))) : w.heap.size ≤ gb215)); have n4_ := Z0.mk ((by rw [hg]; exact (bwZ (by repeat (first | (with_reducible first | exact HB.out | apply bwA | apply bwN | apply bw1) | exact HB.out))) : w.heap.size ≤ gb215)); clear HO_5 HB; have HO_5 := n0_; have HB := n1_; have BK215 := n2_; have GW215 := n3_; have GE215 := n4_; clear n0_ n1_ n2_ n3_ n4_; clear hb hbox hg; have hcz9_0 : w8.cell? ⟨gb215, 0, none⟩ = some (.int .i64 0) := (bkC BK215.out 0).trans rfl; have hcz9_1 : w8.cell? ⟨gb215, 1, none⟩ = some (.int .i64 0) := (bkC BK215.out 1).trans rfl; have hcz9_2 : w8.cell? ⟨gb215, 2, none⟩ = some (.int .i64 0) := (bkC BK215.out 2).trans rfl; have hfz9_0 := bkZ BK215.out 0; have hfz9_1 := bkZ BK215.out 1; have hfz9_2 := bkZ BK215.out 2) | (go_at_fn K_; (with_reducible refine (HCB_.out ((rd_T131 l0 x10_1).f0) ((rd_T131 l0 x10_1).f1.f0) ((rd_T131 l0 x10_1).f1.f1) t216 _ (by repeat (first | (with_reducible first | exact HB.out | apply bwA | apply bwN | apply bw1 | refine bwS ?_ GE215.out) | exact HB.out)) A6.out).mono ?_); rintro e w10 ⟨rfl, hb⟩; have n0_ := Z0.mk (Kd.R_below (by (with_reducible repeat (first | apply Kd.R_alloc | apply Kd.R_drewN | apply Kd.R_drew)); exact (Kd.R_mono (Kd.R_far (p := ⟨gb215, 2, none⟩) (Kd.R_far (p := ⟨gb215, 1, none⟩) (Kd.R_far (p := ⟨gb215, 0, none⟩) (Kd.R_types HO_5.out BK215.out (by decide)) (fun _ hk => hk.2) (.int .i64 ((rd_T131 l0 x10_1).f0))) (fun _ hk => hk.2) (.int .i64 ((rd_T131 l0 x10_1).f1.f0))) (fun _ hk => hk.2) (.int .i64 ((rd_T131 l0 x10_1).f1.f1))) (fun _ h_ => h_.1))) hb); have n1_ := Z0.mk (bkB (g := gb215) (o := .cells #[.int .i64 ((rd_T131 l0 x10_1).f0), .int .i64 ((rd_T131 l0 x10_1).f1.f0), .int .i64 ((rd_T131 l0 x10_1).f1.f1)] 131 (0, 0)) (by (with_reducible repeat (first | refine bkN ?_ _ | refine bkD ?_ | refine bkA ?_ _)); refine bkP (cs := #[.int .i64 ((rd_T131 l0 x10_1).f0), .int .i64 ((rd_T131 l0 x10_1).f1.f0), .int .i64 0]) ?_ 2 _ rfl; (with_reducible repeat (first | refine bkN ?_ _ | refine bkD ?_ | refine bkA ?_ _)); refine bkP (cs := #[.int .i64 ((rd_T131 l0 x10_1).f0), .int .i64 0, .int .i64 0]) ?_ 1 _ rfl; (with_reducible repeat (first | refine bkN ?_ _ | refine bkD ?_ | refine bkA ?_ _)); refine bkP (cs := #[.int .i64 0, .int .i64 0, .int .i64 0]) ?_ 0 _ rfl; (with_reducible repeat (first | refine bkN ?_ _ | refine bkD ?_ | refine bkA ?_ _)); exact BK215.out) hb); have n2_ := Z0.mk (bwT (by repeat (first | (with_reducible first | exact HB.out | apply bwA | apply bwN | apply bw1 | refine bwS ?_ GE215.out) | exact HB.out)) hb); clear HO_5 BK215 HB; have HO_5 := n0_; have BK215 := n1_; have HB := n2_; clear n0_ n1_ n2_; (try clear hb); (try clear hb2); (try clear hk); (try clear hi)) | ((with_reducible refine gate_builtin (b := .append) (xs := #[.tmp 14, .tmp 18]) rfl ?_); at_builtin; refine Kd.R_append (Kd.int .i64) (w0 := w) w.heap.size rfl (.tmp 14) (.tmp 18) 154 26 (.int .i64 0) 8 rfl Tryd.underlying154 info26 rfl (by decide) (by omega) u5 x5_1 t216 [.int .i64 t216] (fun _ => True) (fun _ => False) rfl rfl ?aP (fun _ hk => hk.elim) ?aF ?aO ?aB ?aS ?aL ?_; (case aP => exact rfl); (case aB => exact (by repeat (first | (with_reducible first | exact HB.out | apply bwA | apply bwN | apply bw1 | refine bwS ?_ GE215.out) | exact HB.out))); (case aF => exact (fun _ _ => trivial)); (case aO => exact (by (with_reducible repeat (first | apply Kd.R_alloc | apply Kd.R_drewN | apply Kd.R_drew)); exact HO_5.out)); (case aS => exact (bwZ (by repeat (first | (with_reducible first | exact HB.out | apply bwA | apply bwN | apply bw1 | refine bwS ?_ GE215.out) | exact HB.out)))); (case aL => have := LMc7.out; omega); intro v218 w11 ho hb hg hat; rw [← Ny217.out] at ho; have n0_ := Z0.mk (blk_grown (g := gb215) (o := .cells #[.int .i64 ((rd_T131 l0 x10_1).f0), .int .i64 ((rd_T131 l0 x10_1).f1.f0), .int .i64 ((rd_T131 l0 x10_1).f1.f1)] 131 (0, 0)) (by (with_reducible repeat (first | refine bkN ?_ _ | refine bkD ?_ | refine bkA ?_ _)); exact BK215.out) hg (Kd.R_ne HO_5.out BK215.out (by decide))); have n1_ := Z0.mk (hb); have n2_ := Z0.mk (ho); clear BK215 HB HO_5; have BK215 := n0_; have HB := n1_; have HO219 := n2_; clear n0_ n1_ n2_; clear ho hb hg hat))
       go_roundg k1
       case measure => have := HK1.out; omega
       case rel => exact ⟨(y217), (wrap64 (x10_1 + 1)), (by first | rfl | (simp; done) | (simp [*]; done)), H', ⟨by have := HK1.out; omega⟩, ⟨by (with_reducible repeat (first | apply Kd.R_alloc | apply Kd.R_drewN | apply Kd.R_drew)); exact HO219.out⟩, ⟨by repeat (first | (with_reducible first | exact HB.out | apply bwA | apply bwN | apply bw1 | refine bwS ?_ GE215.out) | exact HB.out)⟩⟩
      ·rw [if_neg c7] at H;exact absurd H (by simp)
     ·rw [if_neg c5] at H;exact absurd H (by simp)
    ·rw [if_neg c4] at H;exact absurd H (by simp)
   ·rw [if_neg c3] at H;have c3b0 : decide (x10_1 < (l0.length : Int)) = false := decide_eq_false c3;clear c3;obtain rfl := Option.some.inj H;go_wp2
    go_ret
    exact ⟨_, by first | rfl | (simp [errW_none, errW_some] <;> rfl) | (simp [*, errW_none, errW_some] <;> rfl), by (with_reducible repeat (first | apply Kd.R_alloc | apply Kd.R_drewN | apply Kd.R_drew)); exact HO_5.out, by repeat (first | (with_reducible first | exact HB.out | apply bwA | apply bwN | apply bw1) | exact HB.out)⟩
def hang_checkSections_1.f (k : Nat) (a0_0 : Int) (a0_1 : Int) (a0_2 : Int) : Option (Int) := (hang_checkMeshes.f a0_0).bind fun t839 => ((hang_CheckRatio.f k a0_1 a0_2).bind fun t840 => ((hang_first.f k (([t839, t840] : List Int))).bind fun t844 => (some t844)))
theorem hang_checkSections_1.mono : ∀ a0 a1 a2 k, LeO (hang_checkSections_1.f k a0 a1 a2) (hang_checkSections_1.f (k + 1) a0 a1 a2) := by
 intro a0 a1 a2 k
 unfold hang_checkSections_1.f
 repeat' first
   | (with_reducible exact hang_CheckRatio.mono _ _ _)
   | (with_reducible exact hang_first.mono _ _)
   | (with_reducible exact LeO.refl _)
   | (with_reducible exact LeO.none _)
   | (with_reducible refine LeO.ite ?_ ?_)
   | (with_reducible refine LeO.bind ?_ (fun _ => ?_))
   | exact hang_CheckRatio.mono _ _ _
   | exact hang_first.mono _ _
   | exact LeO.none _
   | refine LeO.ite ?_ ?_
   | refine LeO.bind ?_ (fun _ => ?_)
def hang_checkSections_1.T1 : Bool × List (List Nat × List Nat) := (true, [([], []), ([0], [0]), ([1], [1]), ([], []), ([3], [3]), ([4, 2], [4]), ([2, 5], [2, 5]), ([6, 5], [6]), ([7, 7, 0, 1, 2, 3, 4, 5, 6, 7], [7])])
def hang_checkSections_1.B1 : List Nat := [0, 1, 3, 0, 8, 31, 63, 127, 255]
theorem hang_checkSections_1.tab1 : rtab .any (opsOf Tryd.f107 1) = hang_checkSections_1.T1 := by kernel_rfl
theorem hang_checkSections_1.bits1 : waitsOk hang_checkSections_1.T1.2 hang_checkSections_1.B1 = true := by kernel_rfl
set_option maxHeartbeats 8000000 in
set_option maxRecDepth 100000 in
theorem hang_checkSections_1.calls (k : Nat) (a0_0 : Int) (a0_1 : Int) (a0_2 : Int) (r : Int) (w : World) (h : hang_checkSections_1.f k a0_0 a0_1 a0_2 = some r) :
  Calls Tryd.prog 107 #[.agg #[.int .i64 a0_0, .int .i64 a0_1, .int .i64 a0_2]] w fun e w' => e = .returned (.int .i64 r) ∧ Below w.heap.size w w' := by
 have hu131 := Tryd.underlying131
 have hu23 := Tryd.underlying23
 have HB := Z0.mk (Below.refl w.heap.size w)
 have H : ((hang_checkMeshes.f a0_0).bind fun t839 => ((hang_CheckRatio.f k a0_1 a0_2).bind fun t840 => ((hang_first.f k (([t839, t840] : List Int))).bind fun t844 => (some t844)))) = some r := h
 clear h
 replace H := Option.bind_eq_some_iff.mp H
 obtain ⟨t839, A20, H⟩ := H
 try dsimp only at H
 have A2 := Z0.mk A20
 clear A20
 replace H := Option.bind_eq_some_iff.mp H
 obtain ⟨t840, A30, H⟩ := H
 try dsimp only at H
 have A3 := Z0.mk A30
 clear A30
 obtain ⟨y841, hy841⟩ : ∃ y_ : List Int, y_ = (([t839, t840] : List Int)) := ⟨_, rfl⟩
 replace H : ((hang_first.f k y841).bind fun t844 => (some t844)) = some r := by first | (rw [hy841]; with_reducible exact H) | (have H2_ := (Option.bind_some _ _).symm.trans H; rw [hy841]; with_reducible exact H2_) | (have H2_ := (Option.bind_some _ _).symm.trans H; with_reducible exact H2_) | with_reducible exact H | (rw [hy841]; exact H) | exact H
 have Ny841 := Z0.mk hy841
 clear hy841
 replace H := Option.bind_eq_some_iff.mp H
 obtain ⟨t844, A40, H⟩ := H
 try dsimp only at H
 have A4 := Z0.mk A40
 clear A40
 obtain rfl := Option.some.inj H
 go_enter Tryd.func107, Tryd.ntmps107
 try go_wp2_with (first | ((with_reducible refine gtD (N := 1) rfl ?_); refine bxE ?hg (N := 1) ?hd (cs := #[.int .i64 a0_0, .int .i64 a0_1, .int .i64 a0_2]) (t := 131) ?hr ?_; (case hd => rfl); (case hg => rfl); (case hr => first | (go_simp; done) | (go_simp; rfl)); intro gb838 hg w5 hbox hb; have n0_ := Z0.mk (bwT (by repeat (first | (with_reducible first | exact HB.out | apply bwA | apply bwN | apply bw1) | exact HB.out)) hb); have n1_ := Z0.mk (hbox); have n2_ := Z0.mk ((by rw [hg]; exact (bwZ (by repeat (first | (with_reducible first | exact HB.out | apply bwA | apply bwN | apply bw1) | exact HB.out))) : w.heap.size ≤ gb838)); have n3_ := Z0.mk ((by rw [hg]; exact (bwZ (by repeat (first | (with_reducible first | exact HB.out | apply bwA | apply bwN | apply bw1) | exact HB.out))) : w.heap.size ≤ gb838)); clear HB; have HB := n0_; have BK838 := n1_; have GW838 := n2_; have GE838 := n3_; clear n0_ n1_ n2_ n3_; clear hb hbox hg))
 have n0_ := Z0.mk (bkD BK838.out)
 have n1_ := Z0.mk (bw1 HB.out)
 clear BK838 HB
 have BK838 := n0_
 have HB := n1_
 clear n0_ n1_
 refine start_ (n := 9) (S := fun w' => w'.cell? ⟨gb838, 0, none⟩ = some (.int .i64 a0_0) ∧ w'.cell? ⟨gb838, 1, none⟩ = some (.int .i64 a0_1) ∧ w'.cell? ⟨gb838, 2, none⟩ = some (.int .i64 a0_2)) (ds := []) #[false, false, false, false, false, false, false, false, false] (by kernel_rfl) rfl rfl ⟨(bkC BK838.out 0).trans rfl, (bkC BK838.out 1).trans rfl, (bkC BK838.out 2).trans rfl⟩ (fun hHd => ?_); refine with_tabW hang_checkSections_1.tab1 hang_checkSections_1.bits1 (fun HT_ HW_ => ?_)
 generalize w5.drew = w6 at BK838 HB hHd ⊢
 refine pure_ (i := 0) (N := some 3) (v := ?_) (a' := ?_) #[true, false, false, false, false, false, false, false, false] rfl rfl (any_of HT_.out (by kernel_rfl)) (fun _ _ _ h => h) (Or.inl ⟨by rfl, ?_⟩) ?_ ?_
 rotate_left; (intro w'; go_simp; with_reducible rfl); rotate_left; (simp only [Act.put, List.setIfInBounds_toArray, List.set_cons_zero, List.set_cons_succ, i64_w, i32_w]; rfl)
 refine pure_ (i := 3) (N := some 6) (v := ?_) (a' := ?_) #[true, false, false, true, false, false, false, false, false] rfl rfl (any_of HT_.out (by kernel_rfl)) (fun _ _ _ h => h) (Or.inl ⟨by rfl, ?_⟩) ?_ ?_
 rotate_left; (intro w'; go_simp; with_reducible rfl); rotate_left; (simp only [Act.put, List.setIfInBounds_toArray, List.set_cons_zero, List.set_cons_succ, i64_w, i32_w]; rfl)
 refine take_ (i := 1) (N := some 4) (v := ?_) (a' := ?_) #[true, true, false, true, false, false, false, false, false] rfl rfl (take_ofW HT_.out HW_.out (by kernel_rfl)) (fun _ _ _ h => h) (Or.inl ⟨by rfl, ?_⟩) hHd ?_ ?_
 rotate_left
 ·rintro w' ⟨s0, s1, s2⟩;go_simp
  with_reducible rfl
 rotate_left
 ·simp only [Act.put, List.setIfInBounds_toArray, List.set_cons_zero, List.set_cons_succ, i64_w, i32_w];rfl
 refine take_ (i := 4) (N := some 7) (v := ?_) (a' := ?_) #[true, true, false, true, true, false, false, false, false] rfl rfl (take_ofW HT_.out HW_.out (by kernel_rfl)) (fun _ _ _ h => h) (Or.inl ⟨by rfl, ?_⟩) hHd ?_ ?_
 rotate_left
 ·rintro w' ⟨s0, s1, s2⟩;go_simp
  with_reducible rfl
 rotate_left
 ·simp only [Act.put, List.setIfInBounds_toArray, List.set_cons_zero, List.set_cons_succ, i64_w, i32_w];rfl
 refine one_ (i := 2) (N := some 5) #[true, true, true, true, true, false, false, false, false] rfl rfl (one_of HT_.out (by kernel_rfl)) (by decide) (fun K hK => ?_)
 refine goes_ Tryd.func78 (by kernel_rfl) rfl #[.int .i64 a0_0] (by rfl) rfl rfl (by (try simp only [List.map_toArray, List.map_cons, List.map_nil]) <;> rfl) ?_
 with_reducible refine (hang_checkMeshes.calls a0_0 t839 _ A2.out).mono ?_
 rintro e w' ⟨rfl, ⟨nd, rfl⟩⟩
 refine ⟨_, rfl, ?_⟩
 refine hK.out _ _ ⟨(bkC BK838.out 0).trans rfl, (bkC BK838.out 1).trans rfl, (bkC BK838.out 2).trans rfl⟩ (fun hHd => ?_)
 clear hK K
 refine norm_ (a' := ?_) ?_ ?_
 rotate_left
 ·show Act.put _ (some 5) _ = _
  simp only [Act.put, List.setIfInBounds_toArray, List.set_cons_zero, List.set_cons_succ, i64_w, i32_w];rfl
 refine one_ (i := 5) (N := some 8) #[true, true, true, true, true, true, false, false, false] rfl rfl (one_of HT_.out (by kernel_rfl)) (by decide) (fun K hK => ?_)
 refine goes_ Tryd.func19 (by kernel_rfl) rfl #[.agg #[.int .i64 a0_1, .int .i64 a0_2]] (by rfl) rfl rfl (by (try simp only [List.map_toArray, List.map_cons, List.map_nil]) <;> rfl) ?_
 with_reducible refine (hang_CheckRatio.calls k a0_1 a0_2 t840 _ A3.out).mono ?_
 rintro e w7 ⟨rfl, hb⟩
 refine ⟨_, rfl, ?_⟩
 have n0_ := Z0.mk (bkB (g := gb838) (o := .cells #[.int .i64 a0_0, .int .i64 a0_1, .int .i64 a0_2] 131 (0, 0)) (by (with_reducible repeat (first | refine bkN ?_ _ | refine bkD ?_ | refine bkA ?_ _)); exact BK838.out) hb)
 have n1_ := Z0.mk (bwT (by repeat (first | (with_reducible first | exact HB.out | apply bwA | apply bwN | apply bw1 | refine bwS ?_ GE838.out) | exact HB.out)) hb)
 clear BK838 HB
 have BK838 := n0_
 have HB := n1_
 clear n0_ n1_
 (try clear hb)
 (try clear hb2)
 (try clear hk)
 (try clear hi)
 refine hK.out _ _ ⟨(bkC BK838.out 0).trans rfl, (bkC BK838.out 1).trans rfl, (bkC BK838.out 2).trans rfl⟩ (fun hHd => ?_)
 clear hK K
 refine norm_ (a' := ?_) ?_ ?_
 rotate_left
 ·show Act.put _ (some 8) _ = _
  simp only [Act.put, List.setIfInBounds_toArray, List.set_cons_zero, List.set_cons_succ, i64_w, i32_w];rfl
 refine one_ (i := 6) (N := some 9) #[true, true, true, true, true, true, true, false, false] rfl rfl (one_of HT_.out (by kernel_rfl)) (by decide) (fun K hK => ?_)
 refine Kd.R_lit_step (Kd.int .i64) _ 26 ?hg (N := 9) ?hd (xs := ([t839, t840] : List Int)) (inner := [.int .i64 t839, .int .i64 t840]) (ok := fun _ => True) (okp := fun _ => True) ?hr ?hp (fun _ hk => hk) trivial (Below.refl _ _) (Nat.le_refl _) (by simp) ?_; (case hd => rfl); (case hg => rfl); (case hr => first | (go_simp; done) | (go_simp; rfl)); (case hp => exact (Reps.one (show Kd.M (Kd.int .i64) _ _ _ t839 [.int .i64 t839] from rfl) (Reps.one (show Kd.M (Kd.int .i64) _ _ _ t840 [.int .i64 t840] from rfl) (Reps.none _ _))))
 intro v842 w8 ho9 hb hg_ hnew_
 clear hg_ hnew_
 (first | rw [← Ny841.out] at ho9 | (simp only [Int.reduceToNat] at ho9; rw [← Ny841.out] at ho9))
 have n0_ := Z0.mk (Kd.R_lower ho9 (bwZ (by repeat (first | (with_reducible first | exact HB.out | apply bwA | apply bwN | apply bw1 | refine bwS ?_ GE838.out) | exact HB.out))))
 have n1_ := Z0.mk (bkB (g := gb838) (o := .cells #[.int .i64 a0_0, .int .i64 a0_1, .int .i64 a0_2] 131 (0, 0)) (by (with_reducible repeat (first | refine bkN ?_ _ | refine bkD ?_ | refine bkA ?_ _)); exact BK838.out) hb)
 have n2_ := Z0.mk (bwT (by repeat (first | (with_reducible first | exact HB.out | apply bwA | apply bwN | apply bw1 | refine bwS ?_ GE838.out) | exact HB.out)) hb)
 clear BK838 HB
 have HO843 := n0_
 have BK838 := n1_
 have HB := n2_
 clear n0_ n1_ n2_
 clear hb ho9
 obtain ⟨Ao10, co10, eo10⟩ := Kd.R_slice HO843.out
 (first | subst eo10 | (injection eo10 with f1_ f2_ f3_; have f4_ := f1_.symm; have f5_ := f3_.symm; clear f1_ f2_ f3_; subst f4_; subst f5_))
 refine hK.out _ _ ⟨(bkC BK838.out 0).trans rfl, (bkC BK838.out 1).trans rfl, (bkC BK838.out 2).trans rfl⟩ (fun hHd => ?_)
 clear hK K
 refine norm_ (a' := ?_) ?_ ?_
 rotate_left
 ·show Act.put _ (some 9) _ = _
  simp only [Act.put, List.setIfInBounds_toArray, List.set_cons_zero, List.set_cons_succ, i64_w, i32_w];rfl
 refine one_ (i := 7) (N := some 10) #[true, true, true, true, true, true, true, true, false] rfl rfl (one_of HT_.out (by kernel_rfl)) (by decide) (fun K hK => ?_)
 refine goes_ Tryd.func72 (by kernel_rfl) rfl #[.slice Ao10 y841.length co10] (by rfl) rfl rfl (by (try simp only [List.map_toArray, List.map_cons, List.map_nil]) <;> rfl) ?_
 with_reducible refine (hang_first.calls k _ _ y841 t844 _ ?side1 ?side2 A4.out).mono ?_
 (case side1 => repeat (first | exact (Kd.R_reads' HO843.out).2.2 | (with_reducible refine Kd.C_alloc ?_ _) | (with_reducible refine Kd.C_drewN ?_ _) | (with_reducible refine Kd.C_drew ?_)))
 (case side2 => exact (Kd.R_reads' HO843.out).2.1)
 rintro e w' ⟨rfl, ⟨nd, rfl⟩⟩
 refine ⟨_, rfl, ?_⟩
 refine hK.out _ _ ⟨(bkC BK838.out 0).trans rfl, (bkC BK838.out 1).trans rfl, (bkC BK838.out 2).trans rfl⟩ (fun hHd => ?_)
 clear hK K
 refine norm_ (a' := ?_) ?_ ?_
 rotate_left
 ·show Act.put _ (some 10) _ = _
  simp only [Act.put, List.setIfInBounds_toArray, List.set_cons_zero, List.set_cons_succ, i64_w, i32_w];rfl
 refine pure_ (i := 8) (N := some 2) (v := ?_) (a' := ?_) #[true, true, true, true, true, true, true, true, true] rfl rfl (any_of HT_.out (by kernel_rfl)) (fun _ _ _ h => h) (Or.inl ⟨by rfl, ?_⟩) ?_ ?_
 rotate_left; (intro w'; go_simp; with_reducible rfl); rotate_left; (simp only [Act.put, List.setIfInBounds_toArray, List.set_cons_zero, List.set_cons_succ, i64_w, i32_w]; rfl)
 refine done_ (done_of HT_.out (by kernel_rfl)) ?_
 try go_wp2
 go_ret
 exact ⟨by first | rfl | (simp [errW_none, errW_some] <;> rfl) | (simp [*, errW_none, errW_some] <;> rfl), by repeat (first | (with_reducible first | exact HB.out | apply bwA | apply bwN | apply bw1 | refine bwS ?_ GE838.out) | exact HB.out)⟩
end Go.Proofs.YtppighiaffppkaaDoor.H
end
section
namespace Go.Proofs.YtppighiaffppkaaDoor.H
open Go.RowKit Go.Proofs.YtppighiaffppkaaDoorW.PrintWords Go.Proofs.YtppighiaffppkaaDoorW.PrintLast Go.Proofs.YtppighiaffppkaaDoorW.PrintMore Go.Shelf
def hang_secErrs.f (k : Nat) (l : List S131) : Option (List Int) := api_Errno_106.f (fun x0 x1 x2 => hang_checkSections_1.f k x0 x1 x2) k l
theorem api_Errno_106.mono_cb_l {cb cb' : Int → Int → Int → Option Int} (hcb : ∀ x y z, LeO (cb x y z) (cb' x y z)) : ∀ k y0 y1 y2 y3, LeO (api_Errno_106.l0 cb k y0 y1 y2 y3) (api_Errno_106.l0 cb' k y0 y1 y2 y3)
 | 0 => fun _ _ _ _ r h => by simp [api_Errno_106.l0] at h
 | k + 1 => by
  have ih := api_Errno_106.mono_cb_l hcb k;intro y0 y1 y2 y3;unfold api_Errno_106.l0
  repeat' first
   | (with_reducible exact ih _ _ _ _)
   | (with_reducible exact hcb _ _ _)
   | (with_reducible exact LeO.refl _)
   | (with_reducible exact LeO.none _)
   | (with_reducible refine LeO.ite ?_ ?_)
   | (with_reducible refine LeO.bind ?_ (fun _ => ?_))
theorem hang_secErrs.mono : ∀ l k, LeO (hang_secErrs.f k l) (hang_secErrs.f (k + 1) l) := by
 intro l k
 unfold hang_secErrs.f
 refine LeO.trans (api_Errno_106.mono _ l k) ?_
 unfold api_Errno_106.f
 exact api_Errno_106.mono_cb_l (fun x y z => hang_checkSections_1.mono x y z k) _ _ _ _ _
theorem hang_secErrs.calls (k : Nat) (A0 : Option Addr) (c0 : Nat) (l0 : List (S131)) (r : List Int) (w : World) (hr0 : Kd.C k131 w A0 l0.length l0) (hc0 : l0.length ≤ c0) (h : hang_secErrs.f k l0 = some r) :
  Calls Tryd.prog 106 #[.slice A0 l0.length c0, .func (.func 107) #[] #[]] w fun e w' => ∃ v0_ : Value, e = .returned (v0_) ∧ Kd.R (Kd.int .i64) 26 w' w.heap.size (fun _ => True) v0_ r ∧ Below w.heap.size w w' :=
 api_Errno_106.calls k A0 c0 l0 _ r w 107 #[] (enters_of Tryd.func107 (by kernel_rfl) rfl) (fun x0 x1 x2 r_ w1 _ hx => hang_checkSections_1.calls k x0 x1 x2 r_ w1 hx) hr0 hc0 h
end Go.Proofs.YtppighiaffppkaaDoor.H
end
section
namespace Go.Proofs.YtppighiaffppkaaDoor.H
open Go.RowKit Go.Proofs.YtppighiaffppkaaDoorW.PrintWords Go.Proofs.YtppighiaffppkaaDoorW.PrintLast Go.Proofs.YtppighiaffppkaaDoorW.PrintMore
attribute [local go_sem] max2_int min2_int max_two min_two max_three min_three max_four min_four
set_option linter.unusedSimpArgs false
set_option linter.unusedVariables false
def hang_checkSections.f (k : Nat) (l0 : List (S131)) : Option (Int) := (hang_when.f ((l0.length : Int) == 0) 12).bind fun t220 => ((hang_when.f (decide ((l0.length : Int) > 32)) 5).bind fun t221 => ((hang_first.f k (([t220, t221] : List Int))).bind fun t225 => (if t225 = 0 then ((hang_secErrs.f k l0).bind fun t226 => ((hang_first.f k t226).bind fun t229 => (some t229))) else (some t225))))
theorem hang_checkSections.mono : ∀ a0 k, LeO (hang_checkSections.f k a0) (hang_checkSections.f (k + 1) a0) := by
 intro a0 k
 unfold hang_checkSections.f
 repeat' first
   | (with_reducible exact hang_first.mono _ _)
   | (with_reducible exact hang_secErrs.mono _ _)
   | (with_reducible exact LeO.refl _)
   | (with_reducible exact LeO.none _)
   | (with_reducible refine LeO.ite ?_ ?_)
   | (with_reducible refine LeO.bind ?_ (fun _ => ?_))
   | exact hang_first.mono _ _
   | exact hang_secErrs.mono _ _
   | exact LeO.none _
   | refine LeO.ite ?_ ?_
   | refine LeO.bind ?_ (fun _ => ?_)
set_option maxHeartbeats 8000000 in
set_option maxRecDepth 100000 in
theorem hang_checkSections.calls (k : Nat) (A0 : Option Addr) (c0 : Nat) (l0 : List (S131)) (r : Int) (w : World) (hr0 : Kd.C k131 w A0 l0.length l0) (hc0 : l0.length ≤ c0) (h : hang_checkSections.f k l0 = some r) :
  Calls Tryd.prog 82 #[.slice A0 l0.length c0] w fun e w' => e = .returned (.int .i64 r) ∧ Below w.heap.size w w' := by
 have HR0 := Z0.mk hr0
 have HC0 := Z0.mk hc0
 clear hr0 hc0
 have HB := Z0.mk (Below.refl w.heap.size w)
 have H : ((hang_when.f ((l0.length : Int) == 0) 12).bind fun t220 => ((hang_when.f (decide ((l0.length : Int) > 32)) 5).bind fun t221 => ((hang_first.f k (([t220, t221] : List Int))).bind fun t225 => (if t225 = 0 then ((hang_secErrs.f k l0).bind fun t226 => ((hang_first.f k t226).bind fun t229 => (some t229))) else (some t225))))) = some r := h
 clear h
 replace H := Option.bind_eq_some_iff.mp H
 obtain ⟨t220, A20, H⟩ := H
 try dsimp only at H
 have A2 := Z0.mk A20
 clear A20
 replace H := Option.bind_eq_some_iff.mp H
 obtain ⟨t221, A30, H⟩ := H
 try dsimp only at H
 have A3 := Z0.mk A30
 clear A30
 obtain ⟨y222, hy222⟩ : ∃ y_ : List Int, y_ = (([t220, t221] : List Int)) := ⟨_, rfl⟩
 replace H : ((hang_first.f k y222).bind fun t225 => (if t225 = 0 then ((hang_secErrs.f k l0).bind fun t226 => ((hang_first.f k t226).bind fun t229 => (some t229))) else (some t225))) = some r := by first | (rw [hy222]; with_reducible exact H) | (have H2_ := (Option.bind_some _ _).symm.trans H; rw [hy222]; with_reducible exact H2_) | (have H2_ := (Option.bind_some _ _).symm.trans H; with_reducible exact H2_) | with_reducible exact H | (rw [hy222]; exact H) | exact H
 have Ny222 := Z0.mk hy222
 clear hy222
 replace H := Option.bind_eq_some_iff.mp H
 obtain ⟨t225, A40, H⟩ := H
 try dsimp only at H
 have A4 := Z0.mk A40
 clear A40
 by_cases c5 : t225 = 0
 ·rw [if_pos c5] at H;have c5b0 : (t225 == 0) = true := beq_iff_eq.mpr c5;have c5b1 : (t225 != 0) = false := bne_eq_false_iff_eq.mpr c5;clear c5;replace H := Option.bind_eq_some_iff.mp H
  obtain ⟨t226, A60, H⟩ := H;try dsimp only at H
  have A6 := Z0.mk A60;clear A60;replace H := Option.bind_eq_some_iff.mp H
  obtain ⟨t229, A70, H⟩ := H;try dsimp only at H
  have A7 := Z0.mk A70;clear A70;obtain rfl := Option.some.inj H;go_enter Tryd.func82, Tryd.ntmps82;go_wp2_with (first | ((with_reducible refine gtC (f := 74) rfl ?_); refine goesL_ (some 7) rfl rfl Tryd.func74 (by kernel_rfl) rfl #[.bool ((l0.length : Int) == 0), .int .i64 12] rfl (by (try simp only [List.map_toArray, List.map_cons, List.map_nil]) <;> rfl) ?_; (with_reducible refine (hang_when.calls ((l0.length : Int) == 0) 12 t220 _ A2.out).mono ?_); rintro e w' ⟨rfl, ⟨nd, rfl⟩⟩; refine ⟨_, rfl, ?_⟩) | ((with_reducible refine gtC (f := 74) rfl ?_); refine goesL_ (some 11) rfl rfl Tryd.func74 (by kernel_rfl) rfl #[.bool (decide ((l0.length : Int) > 32)), .int .i64 5] rfl (by (try simp only [List.map_toArray, List.map_cons, List.map_nil]) <;> rfl) ?_; (with_reducible refine (hang_when.calls (decide ((l0.length : Int) > 32)) 5 t221 _ A3.out).mono ?_); rintro e w' ⟨rfl, ⟨nd, rfl⟩⟩; refine ⟨_, rfl, ?_⟩) | ((with_reducible refine gtD (N := 12) rfl ?_); refine Kd.R_lit (Kd.int .i64) _ 26 ?hg (N := 12) ?hd (xs := ([t220, t221] : List Int)) (inner := [.int .i64 t220, .int .i64 t221]) (ok := fun _ => True) (okp := fun _ => True) ?hr ?hp (fun _ hk => hk) trivial (Below.refl _ _) (Nat.le_refl _) (by simp) ?_; (case hd => rfl); (case hg => rfl); (case hr => first | (go_simp; done) | (go_simp; rfl)); (case hp => exact (Reps.one (show Kd.M (Kd.int .i64) _ _ _ t220 [.int .i64 t220] from rfl) (Reps.one (show Kd.M (Kd.int .i64) _ _ _ t221 [.int .i64 t221] from rfl) (Reps.none _ _)))); intro v223 w8 ho9 hb hg_ hnew_; clear hg_ hnew_; (first | rw [← Ny222.out] at ho9 | (simp only [Int.reduceToNat] at ho9; rw [← Ny222.out] at ho9)); have n0_ := Z0.mk (Kd.R_lower ho9 (bwZ (by repeat (first | (with_reducible first | exact HB.out | apply bwA | apply bwN | apply bw1) | exact HB.out)))); have n1_ := Z0.mk (bwT (by repeat (first | (with_reducible first | exact HB.out | apply bwA | apply bwN | apply bw1) | exact HB.out)) hb); clear HB; have HO224 := n0_; have HB := n1_; clear n0_ n1_; clear hb ho9; obtain ⟨Ao10, co10, eo10⟩ := Kd.R_slice HO224.out; subst eo10) | ((with_reducible refine gtC (f := 72) rfl ?_); refine goesL_ (some 13) rfl rfl Tryd.func72 (by kernel_rfl) rfl #[.slice Ao10 y222.length co10] rfl (by (try simp only [List.map_toArray, List.map_cons, List.map_nil]) <;> rfl) ?_; (with_reducible refine (hang_first.calls k _ _ y222 t225 _ ?side1 ?side2 A4.out).mono ?_); (case side1 => repeat (first | exact (Kd.R_reads' HO224.out).2.2 | (with_reducible refine Kd.C_alloc ?_ _) | (with_reducible refine Kd.C_drewN ?_ _) | (with_reducible refine Kd.C_drew ?_))); (case side2 => exact (Kd.R_reads' HO224.out).2.1); rintro e w' ⟨rfl, ⟨nd, rfl⟩⟩; refine ⟨_, rfl, ?_⟩) | ((with_reducible refine gtC (f := 106) rfl ?_); refine goesL_ (some 18) rfl rfl Tryd.func106 (by kernel_rfl) rfl #[.slice A0 l0.length c0, .func (.func 107) #[] #[]] rfl (by (try simp only [List.map_toArray, List.map_cons, List.map_nil]) <;> rfl) ?_; (with_reducible refine (hang_secErrs.calls k _ _ l0 t226 _ ?side1 ?side2 A6.out).mono ?_); (case side1 => repeat (first | exact (Kd.C_below HR0.out (by repeat (first | (with_reducible first | exact HB.out | apply bwA | apply bwN | apply bw1) | exact HB.out))) | (with_reducible refine Kd.C_alloc ?_ _) | (with_reducible refine Kd.C_drewN ?_ _) | (with_reducible refine Kd.C_drew ?_))); (case side2 => exact HC0.out); rintro e w11 ⟨v227, rfl, ho0, hb⟩; refine ⟨_, rfl, ?_⟩; have n0_ := Z0.mk (Kd.R_below (by (with_reducible repeat (first | apply Kd.R_alloc | apply Kd.R_drewN | apply Kd.R_drew)); exact HO224.out) hb); have n1_ := Z0.mk (Kd.R_lower ho0 (bwZ (by repeat (first | (with_reducible first | exact HB.out | apply bwA | apply bwN | apply bw1) | exact HB.out)))); have n2_ := Z0.mk (bwT (by repeat (first | (with_reducible first | exact HB.out | apply bwA | apply bwN | apply bw1) | exact HB.out)) hb); clear HO224 HB; have HO224 := n0_; have HO228 := n1_; have HB := n2_; clear n0_ n1_ n2_; (try clear hb); (try clear hb2); (try clear hk); (try clear hi); (try clear ho0); obtain ⟨Ao12, co12, eo12⟩ := Kd.R_slice HO228.out; subst eo12) | ((with_reducible refine gtC (f := 72) rfl ?_); refine goesL_ (some 19) rfl rfl Tryd.func72 (by kernel_rfl) rfl #[.slice Ao12 t226.length co12] rfl (by (try simp only [List.map_toArray, List.map_cons, List.map_nil]) <;> rfl) ?_; (with_reducible refine (hang_first.calls k _ _ t226 t229 _ ?side1 ?side2 A7.out).mono ?_); (case side1 => repeat (first | exact (Kd.R_reads' HO228.out).2.2 | (with_reducible refine Kd.C_alloc ?_ _) | (with_reducible refine Kd.C_drewN ?_ _) | (with_reducible refine Kd.C_drew ?_))); (case side2 => exact (Kd.R_reads' HO228.out).2.1); rintro e w' ⟨rfl, ⟨nd, rfl⟩⟩; refine ⟨_, rfl, ?_⟩))
  go_ret
  exact ⟨by first | rfl | (simp [errW_none, errW_some] <;> rfl) | (simp [*, errW_none, errW_some] <;> rfl), by repeat (first | (with_reducible first | exact HB.out | apply bwA | apply bwN | apply bw1) | exact HB.out)⟩
 ·rw [if_neg c5] at H;have c5b0 : (t225 == 0) = false := beq_eq_false_iff_ne.mpr c5;have c5b1 : (t225 != 0) = true := bne_iff_ne.mpr c5;obtain rfl := Option.some.inj H;go_enter Tryd.func82, Tryd.ntmps82;go_wp2_with (first | ((with_reducible refine gtC (f := 74) rfl ?_); refine goesL_ (some 7) rfl rfl Tryd.func74 (by kernel_rfl) rfl #[.bool ((l0.length : Int) == 0), .int .i64 12] rfl (by (try simp only [List.map_toArray, List.map_cons, List.map_nil]) <;> rfl) ?_; (with_reducible refine (hang_when.calls ((l0.length : Int) == 0) 12 t220 _ A2.out).mono ?_); rintro e w' ⟨rfl, ⟨nd, rfl⟩⟩; refine ⟨_, rfl, ?_⟩) | ((with_reducible refine gtC (f := 74) rfl ?_); refine goesL_ (some 11) rfl rfl Tryd.func74 (by kernel_rfl) rfl #[.bool (decide ((l0.length : Int) > 32)), .int .i64 5] rfl (by (try simp only [List.map_toArray, List.map_cons, List.map_nil]) <;> rfl) ?_; (with_reducible refine (hang_when.calls (decide ((l0.length : Int) > 32)) 5 t221 _ A3.out).mono ?_); rintro e w' ⟨rfl, ⟨nd, rfl⟩⟩; refine ⟨_, rfl, ?_⟩) | ((with_reducible refine gtD (N := 12) rfl ?_); refine Kd.R_lit (Kd.int .i64) _ 26 ?hg (N := 12) ?hd (xs := ([t220, t221] : List Int)) (inner := [.int .i64 t220, .int .i64 t221]) (ok := fun _ => True) (okp := fun _ => True) ?hr ?hp (fun _ hk => hk) trivial (Below.refl _ _) (Nat.le_refl _) (by simp) ?_; (case hd => rfl); (case hg => rfl); (case hr => first | (go_simp; done) | (go_simp; rfl)); (case hp => exact (Reps.one (show Kd.M (Kd.int .i64) _ _ _ t220 [.int .i64 t220] from rfl) (Reps.one (show Kd.M (Kd.int .i64) _ _ _ t221 [.int .i64 t221] from rfl) (Reps.none _ _)))); intro v223 w13 ho14 hb hg_ hnew_; clear hg_ hnew_; (first | rw [← Ny222.out] at ho14 | (simp only [Int.reduceToNat] at ho14; rw [← Ny222.out] at ho14)); have n0_ := Z0.mk (Kd.R_lower ho14 (bwZ (by repeat (first | (with_reducible first | exact HB.out | apply bwA | apply bwN | apply bw1) | exact HB.out)))); have n1_ := Z0.mk (bwT (by repeat (first | (with_reducible first | exact HB.out | apply bwA | apply bwN | apply bw1) | exact HB.out)) hb); clear HB; have HO224 := n0_; have HB := n1_; clear n0_ n1_; clear hb ho14; obtain ⟨Ao15, co15, eo15⟩ := Kd.R_slice HO224.out; subst eo15) | ((with_reducible refine gtC (f := 72) rfl ?_); refine goesL_ (some 13) rfl rfl Tryd.func72 (by kernel_rfl) rfl #[.slice Ao15 y222.length co15] rfl (by (try simp only [List.map_toArray, List.map_cons, List.map_nil]) <;> rfl) ?_; (with_reducible refine (hang_first.calls k _ _ y222 t225 _ ?side1 ?side2 A4.out).mono ?_); (case side1 => repeat (first | exact (Kd.R_reads' HO224.out).2.2 | (with_reducible refine Kd.C_alloc ?_ _) | (with_reducible refine Kd.C_drewN ?_ _) | (with_reducible refine Kd.C_drew ?_))); (case side2 => exact (Kd.R_reads' HO224.out).2.1); rintro e w' ⟨rfl, ⟨nd, rfl⟩⟩; refine ⟨_, rfl, ?_⟩))
  go_ret
  exact ⟨by first | rfl | (simp [errW_none, errW_some] <;> rfl) | (simp [*, errW_none, errW_some] <;> rfl), by repeat (first | (with_reducible first | exact HB.out | apply bwA | apply bwN | apply bw1) | exact HB.out)⟩
def hang_large.f (a0_0 : Int) (a0_1 : Int) : Option (Int) := if a0_0 > 999999999 then ((hang_when.f true 4).bind fun t215 => (some t215)) else ((hang_when.f (decide (a0_1 > 999999999)) 4).bind fun t216 => (some t216))
set_option maxHeartbeats 8000000 in
set_option maxRecDepth 100000 in
theorem hang_large.calls (a0_0 : Int) (a0_1 : Int) (r : Int) (w : World) (h : hang_large.f a0_0 a0_1 = some r) :
  Calls Tryd.prog 84 #[.agg #[.int .i64 a0_0, .int .i64 a0_1]] w fun e w' => e = .returned (.int .i64 r) ∧ Below w.heap.size w w' := by
 have hu23 := Tryd.underlying23
 have HB := Z0.mk (Below.refl w.heap.size w)
 have H : (if a0_0 > 999999999 then ((hang_when.f true 4).bind fun t215 => (some t215)) else ((hang_when.f (decide (a0_1 > 999999999)) 4).bind fun t216 => (some t216))) = some r := h
 clear h
 by_cases c2 : a0_0 > 999999999
 ·rw [if_pos c2] at H;have c2b0 : decide (999999999 < a0_0) = true := decide_eq_true c2;clear c2;replace H := Option.bind_eq_some_iff.mp H
  obtain ⟨t215, A30, H⟩ := H;try dsimp only at H
  have A3 := Z0.mk A30;clear A30;obtain rfl := Option.some.inj H;go_enter Tryd.func84, Tryd.ntmps84;go_wp2_with (first | ((with_reducible refine gtD (N := 1) rfl ?_); refine bxE ?hg (N := 1) ?hd (cs := #[.int .i64 a0_0, .int .i64 a0_1]) (t := 23) ?hr ?_; (case hd => rfl); (case hg => rfl); (case hr => first | (go_simp; done) | (go_simp; rfl)); intro gb214 hg w4 hbox hb; have n0_ := Z0.mk (bwT (by repeat (first | (with_reducible first | exact HB.out | apply bwA | apply bwN | apply bw1) | exact HB.out)) hb); have n1_ := Z0.mk (hbox); have n2_ := Z0.mk ((by rw [hg]; exact (bwZ (by repeat (first | (with_reducible first | exact HB.out | apply bwA | apply bwN | apply bw1) | exact HB.out))) : w.heap.size ≤ gb214)); have n3_ := Z0.mk ((by rw [hg]; exact (bwZ (by repeat (first | (with_reducible first | exact HB.out | apply bwA | apply bwN | apply bw1) | exact HB.out))) : w.heap.size ≤ gb214)); clear HB; have HB := n0_; have BK214 := n1_; have GW214 := n2_; have GE214 := n3_; clear n0_ n1_ n2_ n3_; clear hb hbox hg; have hcz5_0 : w4.cell? ⟨gb214, 0, none⟩ = some (.int .i64 a0_0) := (bkC BK214.out 0).trans rfl; have hcz5_1 : w4.cell? ⟨gb214, 1, none⟩ = some (.int .i64 a0_1) := (bkC BK214.out 1).trans rfl; have hfz5_0 := bkZ BK214.out 0; have hfz5_1 := bkZ BK214.out 1) | ((with_reducible refine gtC (f := 74) rfl ?_); refine goesL_ (some 11) rfl rfl Tryd.func74 (by kernel_rfl) rfl #[.bool true, .int .i64 4] rfl (by (try simp only [List.map_toArray, List.map_cons, List.map_nil]) <;> rfl) ?_; (with_reducible refine (hang_when.calls true 4 t215 _ A3.out).mono ?_); rintro e w' ⟨rfl, ⟨nd, rfl⟩⟩; refine ⟨_, rfl, ?_⟩))
  go_ret
  exact ⟨by first | rfl | (simp [errW_none, errW_some] <;> rfl) | (simp [*, errW_none, errW_some] <;> rfl), by repeat (first | (with_reducible first | exact HB.out | apply bwA | apply bwN | apply bw1 | refine bwS ?_ GE214.out) | exact HB.out)⟩
 ·rw [if_neg c2] at H;have c2b0 : decide (999999999 < a0_0) = false := decide_eq_false c2;clear c2;replace H := Option.bind_eq_some_iff.mp H
  obtain ⟨t216, A60, H⟩ := H;try dsimp only at H
  have A6 := Z0.mk A60;clear A60;obtain rfl := Option.some.inj H;go_enter Tryd.func84, Tryd.ntmps84;go_wp2_with (first | ((with_reducible refine gtD (N := 1) rfl ?_); refine bxE ?hg (N := 1) ?hd (cs := #[.int .i64 a0_0, .int .i64 a0_1]) (t := 23) ?hr ?_; (case hd => rfl); (case hg => rfl); (case hr => first | (go_simp; done) | (go_simp; rfl)); intro gb214 hg w7 hbox hb; have n0_ := Z0.mk (bwT (by repeat (first | (with_reducible first | exact HB.out | apply bwA | apply bwN | apply bw1) | exact HB.out)) hb); have n1_ := Z0.mk (hbox); have n2_ := Z0.mk ((by rw [hg]; exact (bwZ (by repeat (first | (with_reducible first | exact HB.out | apply bwA | apply bwN | apply bw1) | exact HB.out))) : w.heap.size ≤ gb214)); have n3_ := Z0.mk ((by rw [hg]; exact (bwZ (by repeat (first | (with_reducible first | exact HB.out | apply bwA | apply bwN | apply bw1) | exact HB.out))) : w.heap.size ≤ gb214)); clear HB; have HB := n0_; have BK214 := n1_; have GW214 := n2_; have GE214 := n3_; clear n0_ n1_ n2_ n3_; clear hb hbox hg; have hcz8_0 : w7.cell? ⟨gb214, 0, none⟩ = some (.int .i64 a0_0) := (bkC BK214.out 0).trans rfl; have hcz8_1 : w7.cell? ⟨gb214, 1, none⟩ = some (.int .i64 a0_1) := (bkC BK214.out 1).trans rfl; have hfz8_0 := bkZ BK214.out 0; have hfz8_1 := bkZ BK214.out 1) | ((with_reducible refine gtC (f := 74) rfl ?_); refine goesL_ (some 11) rfl rfl Tryd.func74 (by kernel_rfl) rfl #[.bool (decide (a0_1 > 999999999)), .int .i64 4] rfl (by (try simp only [List.map_toArray, List.map_cons, List.map_nil]) <;> rfl) ?_; (with_reducible refine (hang_when.calls (decide (a0_1 > 999999999)) 4 t216 _ A6.out).mono ?_); rintro e w' ⟨rfl, ⟨nd, rfl⟩⟩; refine ⟨_, rfl, ?_⟩))
  go_ret
  exact ⟨by first | rfl | (simp [errW_none, errW_some] <;> rfl) | (simp [*, errW_none, errW_some] <;> rfl), by repeat (first | (with_reducible first | exact HB.out | apply bwA | apply bwN | apply bw1 | refine bwS ?_ GE214.out) | exact HB.out)⟩
end Go.Proofs.YtppighiaffppkaaDoor.H
end
section
namespace Go.Proofs.YtppighiaffppkaaDoor.H
open Go.RowKit Go.Proofs.YtppighiaffppkaaDoorW.PrintWords Go.Proofs.YtppighiaffppkaaDoorW.PrintLast Go.Proofs.YtppighiaffppkaaDoorW.PrintMore
open Go.Shelf
attribute [local go_sem] Oper.semAt_some
attribute [local go_sem] max2_int min2_int max_two min_two max_three min_three max_four min_four
set_option linter.unusedSimpArgs false
set_option linter.unusedVariables false
def markOk (l : List S131) : Bool := l.all (fun s => s.f1.f1 != 0 && decide (s.f0 ≤ 4611686018427387904)) && decide (l.length ≤ 4611686018427387904)
def hang_lastMark.f (l : List S131) (bar : Int) : Option Int := if markOk l = true then some ((markAll bar l).getLast?.getD 0) else none
theorem markOk_parts {l : List S131} (h : markOk l = true) : (∀ s ∈ l, s.f1.f1 ≠ 0) ∧ (∀ s ∈ l, s.f0 ≤ 4611686018427387904) ∧ l.length ≤ 4611686018427387904 := by
 unfold markOk at h
 simp only [Bool.and_eq_true, List.all_eq_true, bne_iff_ne, decide_eq_true_eq] at h
 exact ⟨fun s hs => (h.1 s hs).1, fun s hs => (h.1 s hs).2, h.2⟩
theorem hang_lastMark.ok {l : List S131} {bar t : Int} (h : hang_lastMark.f l bar = some t) : (∀ s ∈ l, s.f1.f1 ≠ 0) ∧ (∀ s ∈ l, s.f0 ≤ 4611686018427387904) ∧ l.length ≤ 4611686018427387904 ∧ t = (markAll bar l).getLast?.getD 0 := by
 unfold hang_lastMark.f at h
 split at h
 ·rename_i h'
  have := markOk_parts h';exact ⟨this.1, this.2.1, this.2.2, (Option.some.inj h).symm⟩
 ·cases h
theorem own_blk {β : Type} (B g : Nat) (cs : β → Array Value) (t : TypeId) : OwnFrom B (fun (s : β) W => W.heap[g]? = some (.cells (cs s) t (0, 0))) := fun s W W' row hs hg hr =>
 (hg.block g (blk_lt hs) (fun e => by obtain ⟨_, o, ho, hc⟩ := hr g e.symm; rw [hs] at ho; cases ho; cases hc)).trans hs
def hang_Rope.f (k : Nat) (l0 : List (S131)) (a1 : Int) : Option (Int × Int × Int) := (hang_checkSections.f k l0).bind fun t218 => ((hang_checkBar.f a1).bind fun t219 => ((hang_first.f k (([t218, t219] : List Int))).bind fun t223 => (if t223 = 0 then ((hang_lastMark.f l0 a1).bind fun t224 => ((hang_ratio.f k t224 2329089562800).bind fun bt225 => ((hang_large.f bt225.1 bt225.2).bind fun t228 => (if t228 = 0 then (some (bt225.1, bt225.2, 0)) else (some (0, 0, t228)))))) else (some (0, 0, t223)))))
theorem hang_Rope.mono : ∀ a0 a1 k, LeO (hang_Rope.f k a0 a1) (hang_Rope.f (k + 1) a0 a1) := by
 intro a0 a1 k
 unfold hang_Rope.f
 repeat' first
   | (with_reducible exact hang_checkSections.mono _ _)
   | (with_reducible exact hang_first.mono _ _)
   | (with_reducible exact hang_ratio.mono _ _ _)
   | (with_reducible exact LeO.refl _)
   | (with_reducible exact LeO.none _)
   | (with_reducible refine LeO.ite ?_ ?_)
   | (with_reducible refine LeO.bind ?_ (fun _ => ?_))
   | exact hang_checkSections.mono _ _
   | exact hang_first.mono _ _
   | exact hang_ratio.mono _ _ _
   | exact LeO.none _
   | refine LeO.ite ?_ ?_
   | refine LeO.bind ?_ (fun _ => ?_)
set_option maxHeartbeats 8000000 in
set_option maxRecDepth 100000 in
theorem hang_Rope.calls (k : Nat) (A0 : Option Addr) (c0 : Nat) (l0 : List (S131)) (a1 : Int) (r1 : Int) (r2 : Int) (r3 : Int) (w : World) (hr0 : Kd.C k131 w A0 l0.length l0) (hc0 : l0.length ≤ c0) (h : hang_Rope.f k l0 a1 = some (r1, r2, r3)) :
  Calls Tryd.prog 39 #[.slice A0 l0.length c0, .int .i64 a1] w fun e w' => e = .returned (.tuple #[.agg #[.int .i64 r1, .int .i64 r2], .int .i64 r3]) ∧ Below w.heap.size w w' := by
 have hu23 := Tryd.underlying23
 have HR0 := Z0.mk hr0
 have HC0 := Z0.mk hc0
 clear hr0 hc0
 have HB := Z0.mk (Below.refl w.heap.size w)
 have H : ((hang_checkSections.f k l0).bind fun t218 => ((hang_checkBar.f a1).bind fun t219 => ((hang_first.f k (([t218, t219] : List Int))).bind fun t223 => (if t223 = 0 then ((hang_lastMark.f l0 a1).bind fun t224 => ((hang_ratio.f k t224 2329089562800).bind fun bt225 => ((hang_large.f bt225.1 bt225.2).bind fun t228 => (if t228 = 0 then (some (bt225.1, bt225.2, 0)) else (some (0, 0, t228)))))) else (some (0, 0, t223)))))) = some (r1, r2, r3) := h
 clear h
 replace H := Option.bind_eq_some_iff.mp H
 obtain ⟨t218, A30, H⟩ := H
 try dsimp only at H
 have A3 := Z0.mk A30
 clear A30
 replace H := Option.bind_eq_some_iff.mp H
 obtain ⟨t219, A40, H⟩ := H
 try dsimp only at H
 have A4 := Z0.mk A40
 clear A40
 obtain ⟨y220, hy220⟩ : ∃ y_ : List Int, y_ = (([t218, t219] : List Int)) := ⟨_, rfl⟩
 replace H : ((hang_first.f k y220).bind fun t223 => (if t223 = 0 then ((hang_lastMark.f l0 a1).bind fun t224 => ((hang_ratio.f k t224 2329089562800).bind fun bt225 => ((hang_large.f bt225.1 bt225.2).bind fun t228 => (if t228 = 0 then (some (bt225.1, bt225.2, 0)) else (some (0, 0, t228)))))) else (some (0, 0, t223)))) = some (r1, r2, r3) := by first | (rw [hy220]; with_reducible exact H) | (have H2_ := (Option.bind_some _ _).symm.trans H; rw [hy220]; with_reducible exact H2_) | (have H2_ := (Option.bind_some _ _).symm.trans H; with_reducible exact H2_) | with_reducible exact H | (rw [hy220]; exact H) | exact H
 have Ny220 := Z0.mk hy220
 clear hy220
 replace H := Option.bind_eq_some_iff.mp H
 obtain ⟨t223, A50, H⟩ := H
 try dsimp only at H
 have A5 := Z0.mk A50
 clear A50
 by_cases c6 : t223 = 0
 ·rw [if_pos c6] at H;have c6b0 : (t223 == 0) = true := beq_iff_eq.mpr c6;have c6b1 : (t223 != 0) = false := bne_eq_false_iff_eq.mpr c6;clear c6;replace H := Option.bind_eq_some_iff.mp H
  obtain ⟨t224, A70, H⟩ := H;try dsimp only at H
  have A7 := Z0.mk A70;clear A70;replace H := Option.bind_eq_some_iff.mp H
  obtain ⟨⟨t225, t226⟩, A80, H⟩ := H;try dsimp only at H
  have A8 := Z0.mk A80;clear A80;replace H := Option.bind_eq_some_iff.mp H
  obtain ⟨t228, A90, H⟩ := H;try dsimp only at H
  have A9 := Z0.mk A90;clear A90;by_cases c10 : t228 = 0
  ·rw [if_pos c10] at H;have c10b0 : (t228 == 0) = true := beq_iff_eq.mpr c10;have c10b1 : (t228 != 0) = false := bne_eq_false_iff_eq.mpr c10;clear c10;simp only [Option.some.injEq, Prod.mk.injEq] at H;obtain ⟨rfl, rfl, rfl⟩ := H;refine (callsIn_wide (n := 6)).1 (callsIn_of_wp_marks Tryd.func39 rfl trivial ?_ rfl);simp only [Tryd.ntmps39, List.size_toArray, List.length_cons, List.length_nil, Nat.reduceAdd, Nat.reduceSub, Array.replicate_succ, Array.replicate_zero, List.push_toArray, List.append_toArray, List.nil_append, List.cons_append];refine wpIn_wide.2 ?_;go_wp2_with (first | ((with_reducible refine gtD (N := 4) rfl ?_); refine bxE ?hg (N := 4) ?hd (cs := #[.int .i64 0, .int .i64 0]) (t := 23) ?hr ?_; (case hd => rfl); (case hg => rfl); (case hr => first | (go_simp; done) | (go_simp; rfl)); intro gb217 hg w11 hbox hb; have n0_ := Z0.mk (bwT (by repeat (first | (with_reducible first | exact HB.out | apply bwA | apply bwN | apply bw1) | exact HB.out)) hb); have n1_ := Z0.mk (hbox); have n2_ := Z0.mk ((by rw [hg]; exact (bwZ (by repeat (first | (with_reducible first | exact HB.out | apply bwA | apply bwN | apply bw1) | exact HB.out))) : w.heap.size ≤ gb217)); have n3_ := Z0.mk ((by rw [hg]; exact (bwZ (by repeat (first | (with_reducible first | exact HB.out | apply bwA | apply bwN | apply bw1) | exact HB.out))) : w.heap.size ≤ gb217)); clear HB; have HB := n0_; have BK217 := n1_; have GW217 := n2_; have GE217 := n3_; clear n0_ n1_ n2_ n3_; clear hb hbox hg) | ((with_reducible refine gtC (f := 82) rfl ?_); refine goesL_ (some 12) rfl rfl Tryd.func82 (by kernel_rfl) rfl #[.slice A0 l0.length c0] rfl (by (try simp only [List.map_toArray, List.map_cons, List.map_nil]) <;> rfl) ?_; (with_reducible refine (hang_checkSections.calls k _ _ l0 t218 _ ?side1 ?side2 A3.out).mono ?_); (case side1 => repeat (first | exact (Kd.C_below HR0.out HB.out) | (with_reducible refine Kd.C_alloc ?_ _) | (with_reducible refine Kd.C_drewN ?_ _) | (with_reducible refine Kd.C_drew ?_))); (case side2 => exact HC0.out); rintro e w12 ⟨rfl, hb⟩; refine ⟨_, rfl, ?_⟩; have n0_ := Z0.mk (bkB (g := gb217) (o := .cells #[.int .i64 0, .int .i64 0] 23 (0, 0)) (by (with_reducible repeat (first | refine bkN ?_ _ | refine bkD ?_ | refine bkA ?_ _)); exact BK217.out) hb); have n1_ := Z0.mk (bwT (by repeat (first | (with_reducible first | exact HB.out | apply bwA | apply bwN | apply bw1 | refine bwS ?_ GE217.out) | exact HB.out)) hb); clear BK217 HB; have BK217 := n0_; have HB := n1_; clear n0_ n1_; (try clear hb); (try clear hb2); (try clear hk); (try clear hi)) | ((with_reducible refine gtC (f := 77) rfl ?_); refine goesL_ (some 14) rfl rfl Tryd.func77 (by kernel_rfl) rfl #[.int .i64 a1] rfl (by (try simp only [List.map_toArray, List.map_cons, List.map_nil]) <;> rfl) ?_; (with_reducible refine (hang_checkBar.calls a1 t219 _ A4.out).mono ?_); rintro e w' ⟨rfl, ⟨nd, rfl⟩⟩; refine ⟨_, rfl, ?_⟩; (try (rw [drewN_self w12]; generalize hq_ : World.drewN w12 _ = w12; have n0_ : Z0 (w12.heap[gb217]? = some (.cells #[.int .i64 0, .int .i64 0] 23 (0, 0))) := ⟨by rw [← hq_]; exact (by (with_reducible repeat (first | refine bkN ?_ _ | refine bkD ?_ | refine bkA ?_ _)); exact BK217.out)⟩; have n1_ : Z0 (Below w.heap.size w w12) := ⟨by rw [← hq_]; exact (by repeat (first | (with_reducible first | exact HB.out | apply bwA | apply bwN | apply bw1 | refine bwS ?_ GE217.out) | exact HB.out))⟩; clear BK217 HB hq_; have BK217 := n0_; have HB := n1_; clear n0_ n1_))) | ((with_reducible refine gtD (N := 15) rfl ?_); refine Kd.R_lit (Kd.int .i64) _ 26 ?hg (N := 15) ?hd (xs := ([t218, t219] : List Int)) (inner := [.int .i64 t218, .int .i64 t219]) (ok := fun _ => True) (okp := fun _ => True) ?hr ?hp (fun _ hk => hk) trivial (Below.refl _ _) (Nat.le_refl _) (by simp) ?_; (case hd => rfl); (case hg => rfl); (case hr => first | (go_simp; done) | (go_simp; rfl)); (case hp => exact (Reps.one (show Kd.M (Kd.int .i64) _ _ _ t218 [.int .i64 t218] from rfl) (Reps.one (show Kd.M (Kd.int .i64) _ _ _ t219 [.int .i64 t219] from rfl) (Reps.none _ _)))); intro v221 w13 ho14 hb hg_ hnew_; clear hg_ hnew_; (first | rw [← Ny220.out] at ho14 | (simp only [Int.reduceToNat] at ho14; rw [← Ny220.out] at ho14)); have n0_ := Z0.mk (Kd.R_lower ho14 (bwZ (by repeat (first | (with_reducible first | exact HB.out | apply bwA | apply bwN | apply bw1 | refine bwS ?_ GE217.out) | exact HB.out)))); have n1_ := Z0.mk (bkB (g := gb217) (o := .cells #[.int .i64 0, .int .i64 0] 23 (0, 0)) (by (with_reducible repeat (first | refine bkN ?_ _ | refine bkD ?_ | refine bkA ?_ _)); exact BK217.out) hb); have n2_ := Z0.mk (bwT (by repeat (first | (with_reducible first | exact HB.out | apply bwA | apply bwN | apply bw1 | refine bwS ?_ GE217.out) | exact HB.out)) hb); clear BK217 HB; have HO222 := n0_; have BK217 := n1_; have HB := n2_; clear n0_ n1_ n2_; clear hb ho14; obtain ⟨Ao15, co15, eo15⟩ := Kd.R_slice HO222.out; subst eo15) | ((with_reducible refine gtC (f := 72) rfl ?_); refine goesL_ (some 16) rfl rfl Tryd.func72 (by kernel_rfl) rfl #[.slice Ao15 y220.length co15] rfl (by (try simp only [List.map_toArray, List.map_cons, List.map_nil]) <;> rfl) ?_; (with_reducible refine (hang_first.calls k _ _ y220 t223 _ ?side1 ?side2 A5.out).mono ?_); (case side1 => repeat (first | exact (Kd.R_reads' HO222.out).2.2 | (with_reducible refine Kd.C_alloc ?_ _) | (with_reducible refine Kd.C_drewN ?_ _) | (with_reducible refine Kd.C_drew ?_))); (case side2 => exact (Kd.R_reads' HO222.out).2.1); rintro e w' ⟨rfl, ⟨nd, rfl⟩⟩; refine ⟨_, rfl, ?_⟩; (try (rw [drewN_self w13]; generalize hq_ : World.drewN w13 _ = w13; have n0_ : Z0 (Kd.R (Kd.int .i64) 26 w13 w.heap.size (fun _ => True) (.slice Ao15 y220.length co15) y220) := ⟨by rw [← hq_]; exact (by (with_reducible repeat (first | apply Kd.R_alloc | apply Kd.R_drewN | apply Kd.R_drew)); exact HO222.out)⟩; have n1_ : Z0 (w13.heap[gb217]? = some (.cells #[.int .i64 0, .int .i64 0] 23 (0, 0))) := ⟨by rw [← hq_]; exact (by (with_reducible repeat (first | refine bkN ?_ _ | refine bkD ?_ | refine bkA ?_ _)); exact BK217.out)⟩; have n2_ : Z0 (Below w.heap.size w w13) := ⟨by rw [← hq_]; exact (by repeat (first | (with_reducible first | exact HB.out | apply bwA | apply bwN | apply bw1 | refine bwS ?_ GE217.out) | exact HB.out))⟩; clear HO222 BK217 HB hq_; have HO222 := n0_; have BK217 := n1_; have HB := n2_; clear n0_ n1_ n2_))) | ((with_reducible refine gtC (f := 83) rfl ?_); refine goesL_ (some 23) rfl rfl Tryd.func83 (by kernel_rfl) rfl #[.slice A0 l0.length c0, .int .i64 a1] rfl (by (try simp only [List.map_toArray, List.map_cons, List.map_nil]); first | done | rfl) ?_; (with_reducible refine (hang_marks.calls A0 l0.length c0 a1 _).mono ?_); rintro e w' ⟨rfl, rfl⟩; refine ⟨_, rfl, ?_⟩))
   rename World => wq
   rename_i K_ aK_
   have hB0 : Below w.heap.size w (((wq.alloc (.cells #[.int .i64 0] 3)).alloc (.cells #[.slice A0 l0.length c0] 63)).alloc (.cells #[.int .i64 a1] 3)) := (by repeat (first | (with_reducible first | exact HB.out | apply bwA | apply bwN | apply bw1 | refine bwS ?_ GE217.out) | exact HB.out));have hBq : Below wq.heap.size wq (((wq.alloc (.cells #[.int .i64 0] 3)).alloc (.cells #[.slice A0 l0.length c0] 63)).alloc (.cells #[.int .i64 a1] 3)) := (((Below.refl _ wq).alloc (Nat.le_refl _) _).alloc (by simp) _).alloc (by simp; omega) _;have hk7 : (((wq.alloc (.cells #[.int .i64 0] 3)).alloc (.cells #[.slice A0 l0.length c0] 63)).alloc (.cells #[.int .i64 a1] 3)).heap[wq.heap.size]? = some (.cells #[.int .i64 0] 3 (0, 0)) := bkA (bkA (blk_new wq _) _) _;have hk8 : (((wq.alloc (.cells #[.int .i64 0] 3)).alloc (.cells #[.slice A0 l0.length c0] 63)).alloc (.cells #[.int .i64 a1] 3)).heap[wq.heap.size + 1]? = some (.cells #[.slice A0 l0.length c0] 63 (0, 0)) := by have := blk_new (wq.alloc (.cells #[.int .i64 0] 3)) (.cells #[.slice A0 l0.length c0] 63); rw [World.size_alloc] at this; exact bkA this _
   have hk9 : (((wq.alloc (.cells #[.int .i64 0] 3)).alloc (.cells #[.slice A0 l0.length c0] 63)).alloc (.cells #[.int .i64 a1] 3)).heap[wq.heap.size + 1 + 1]? = some (.cells #[.int .i64 a1] 3 (0, 0)) := by have := blk_new ((wq.alloc (.cells #[.int .i64 0] 3)).alloc (.cells #[.slice A0 l0.length c0] 63)) (.cells #[.int .i64 a1] 3); rw [World.size_alloc, World.size_alloc] at this; exact this
   have hsq : (((wq.alloc (.cells #[.int .i64 0] 3)).alloc (.cells #[.slice A0 l0.length c0] 63)).alloc (.cells #[.int .i64 a1] 3)).heap.size = wq.heap.size + 3 := by simp
   have hwq : w.heap.size ≤ wq.heap.size := HB.out.size;rw [World.size_alloc];obtain ⟨W0, hW0⟩ : ∃ W0, ((wq.alloc (.cells #[.int .i64 0] 3)).alloc (.cells #[.slice A0 l0.length c0] 63)).alloc (.cells #[.int .i64 a1] 3) = W0 := ⟨_, rfl⟩;rw [hW0] at hB0 hBq hk7 hk8 hk9 hsq ⊢;clear hW0;obtain ⟨hok1, hok2, hok3, hlast⟩ := hang_lastMark.ok A7.out;refine (wpIn_wide (n := 6)).1 ?_;refine wpIn_rangeFunc_ownG (F := Fence.wide) rfl (by decide) (gf := 108) (lb := #[.pointer (some ⟨wq.heap.size + 1, 0, none⟩), .pointer (some ⟨wq.heap.size + 1 + 1, 0, none⟩)]) rfl trivial (enters_of Tryd.func108 (by kernel_rfl) rfl)
    (hang_marks1.stops 5 (by decide) (wq.heap.size + 1) (wq.heap.size + 1 + 1) w.heap.size A0 c0 l0 a1 hok1 hok2 hok3 W0 ((bkC hk8 0).trans rfl) ((bkC hk9 0).trans rfl) (Kd.C_below HR0.out hB0) hB0.size (marks_low HR0.out)) markK_t
    (fun W l o o' hl h hc _ => markK_b hB0.size W l o o' hl h hc) (Below.refl _ _) (fun _ => rfl)
    (fun pre W => W.heap[wq.heap.size]? = some (.cells #[.int .i64 (pre.getLast?.getD 0)] 3 (0, 0)) ∧ Below wq.heap.size wq W)
    (fun _ _ _ => False)
    (OwnFrom.and (own_blk _ _ _ _) (ownFrom_below (Nat.le_refl _) (by omega)))
    (fun _ _ _ _ _ hs _ _ => hs)
    ⟨hk7, hBq⟩
    (fun x => { tmps := #[.slice A0 l0.length c0, .int .i64 a1, undef, undef, .pointer (some ⟨gb217, 0, none⟩), .int .i64 0, .int .i64 t223, .pointer (some ⟨wq.heap.size, 0, none⟩), .int .i64 x, undef, undef, .slice A0 l0.length c0, .int .i64 t218, .int .i64 a1, .int .i64 t219, .slice Ao15 y220.length co15, .int .i64 t223, .int .i64 t223, .bool false, undef, undef, .slice A0 l0.length c0, .int .i64 a1, .func (.func 108) #[] #[.pointer (some ⟨wq.heap.size + 1, 0, none⟩), .pointer (some ⟨wq.heap.size + 1 + 1, 0, none⟩)], .int .i64 x, undef, undef, undef, undef, undef, undef, undef, undef, undef, undef], defers := [] }) ?assign ?body ?done ?stop
   case assign =>
    intro l x W K hK;gi_wp2
    exact hK
   case body =>
    rintro l pre x W ⟨h7, hBW⟩ _;have hcz : W.cell? ⟨wq.heap.size, 0, none⟩ = some (.int .i64 (pre.getLast?.getD 0)) := (bkC h7 0).trans rfl;have hfz := bkZ h7 0;gi_wp2
    exact ⟨(KeepsOthers.setCell _ _ _).from _, markK_set h7 (by decide) hwq (by omega) (by omega) 0 _, by refine (bkP h7 0 (.int .i64 x) rfl).trans ?_; simp, hBW.setCell (p := ⟨wq.heap.size, 0, none⟩) (Nat.le_refl _) _⟩
   case stop =>
    rintro D c pre W _ _ h _;exact h.elim
   case done =>
    rintro D_ ys W2 hD rfl ⟨h7, hBW⟩ hK;rw [← hlast] at h7;clear hlast;have hcz : W2.cell? ⟨wq.heap.size, 0, none⟩ = some (.int .i64 t224) := (bkC h7 0).trans rfl;have hfz := bkZ h7 0;have n0_ := Z0.mk (Kd.R_below HO222.out hBW);have n1_ := Z0.mk (bkB BK217.out hBW);have n2_ := Z0.mk (bwT HB.out hBW);have hne_ : gb217 ≠ D_ := by have := blk_lt BK217.out; omega
    have HD_ := Z0.mk hK;have hDw : w.heap.size ≤ D_ := by omega
    clear HO222 BK217 HB hK;have HO222 := n0_;have BK217 := n1_;have HB := n2_;clear n0_ n1_ n2_;refine aK_ _ _ ?_;go_wp2_with (first | ((with_reducible refine gtC (f := 75) rfl ?_); refine goesL_ (some 27) rfl rfl Tryd.func75 (by kernel_rfl) rfl #[.int .i64 t224, .int .i64 2329089562800] rfl (by (try simp only [List.map_toArray, List.map_cons, List.map_nil]) <;> rfl) ?_; (with_reducible refine (hang_ratio.calls k t224 2329089562800 t225 t226 _ A8.out).mono ?_); rintro e w17 ⟨rfl, hb⟩; refine ⟨_, rfl, ?_⟩; have nD_ := Z0.mk (bkB (g := D_) (o := .deferred (some [])) (by (with_reducible repeat (first | refine bkN ?_ _ | refine bkD ?_ | refine bkA ?_ _ | refine kept_set ?_ _ _)); exact HD_.out) hb); clear HD_; have HD_ := nD_; clear nD_; have n0_ := Z0.mk (Kd.R_below (by (with_reducible repeat (first | apply Kd.R_alloc | apply Kd.R_drewN | apply Kd.R_drew)); exact HO222.out) hb); have n1_ := Z0.mk (bkB (g := gb217) (o := .cells #[.int .i64 0, .int .i64 0] 23 (0, 0)) (by (with_reducible repeat (first | refine bkN ?_ _ | refine bkD ?_ | refine bkA ?_ _)); exact BK217.out) hb); have n2_ := Z0.mk (bwT (by repeat (first | (with_reducible first | exact HB.out | apply bwA | apply bwN | apply bw1 | refine bwS ?_ GE217.out) | exact HB.out)) hb); clear HO222 BK217 HB; have HO222 := n0_; have BK217 := n1_; have HB := n2_; clear n0_ n1_ n2_; (try clear hb); (try clear hb2); (try clear hk); (try clear hi)) | ((with_reducible refine gtD (N := 9) rfl ?_); refine bxE ?hg (N := 9) ?hd (cs := #[.int .i64 0, .int .i64 0]) (t := 23) ?hr ?_; (case hd => rfl); (case hg => rfl); (case hr => first | (go_simp; done) | (go_simp; rfl)); intro gb227 hg w18 hbox hb; have nD_ := Z0.mk (bkB (g := D_) (o := .deferred (some [])) (by (with_reducible repeat (first | refine bkN ?_ _ | refine bkD ?_ | refine bkA ?_ _ | refine kept_set ?_ _ _)); exact HD_.out) hb); clear HD_; have HD_ := nD_; clear nD_; have n0_ := Z0.mk (Kd.R_below (by (with_reducible repeat (first | apply Kd.R_alloc | apply Kd.R_drewN | apply Kd.R_drew)); exact HO222.out) hb); have n1_ := Z0.mk (bkB (g := gb217) (o := .cells #[.int .i64 0, .int .i64 0] 23 (0, 0)) (by (with_reducible repeat (first | refine bkN ?_ _ | refine bkD ?_ | refine bkA ?_ _)); exact BK217.out) hb); have n2_ := Z0.mk (bwT (by repeat (first | (with_reducible first | exact HB.out | apply bwA | apply bwN | apply bw1 | refine bwS ?_ GE217.out) | exact HB.out)) hb); have n3_ := Z0.mk (hbox); have n4_ := Z0.mk ((by rw [hg]; exact (bwZ (by repeat (first | (with_reducible first | exact HB.out | apply bwA | apply bwN | apply bw1 | refine bwS ?_ GE217.out) | exact HB.out))) : w.heap.size ≤ gb227)); have n5_ := Z0.mk ((by rw [hg]; exact (bwZ (by repeat (first | (with_reducible first | exact HB.out | apply bwA | apply bwN | apply bw1 | refine bwS ?_ GE217.out) | exact HB.out))) : w.heap.size ≤ gb227)); have n6_ := Z0.mk ((by rw [hg]; exact Nat.ne_of_lt (blk_lt (g := gb217) (o := .cells #[.int .i64 0, .int .i64 0] 23 (0, 0)) (by (with_reducible repeat (first | refine bkN ?_ _ | refine bkD ?_ | refine bkA ?_ _)); exact BK217.out)) : gb217 ≠ gb227)); have n7_ := Z0.mk ((by rw [hg]; exact Nat.ne_of_gt (blk_lt (g := gb217) (o := .cells #[.int .i64 0, .int .i64 0] 23 (0, 0)) (by (with_reducible repeat (first | refine bkN ?_ _ | refine bkD ?_ | refine bkA ?_ _)); exact BK217.out)) : gb227 ≠ gb217)); clear HO222 BK217 HB; have HO222 := n0_; have BK217 := n1_; have HB := n2_; have BK227 := n3_; have GW227 := n4_; have GE227 := n5_; have NB217_227 := n6_; have NB227_217 := n7_; clear n0_ n1_ n2_ n3_ n4_ n5_ n6_ n7_; clear hb hbox hg; have hnb19 := NB227_217.out; have hnc19 := NB217_227.out; have hcz20_0 : w18.cell? ⟨gb227, 0, none⟩ = some (.int .i64 0) := (bkC BK227.out 0).trans rfl; have hcz20_1 : w18.cell? ⟨gb227, 1, none⟩ = some (.int .i64 0) := (bkC BK227.out 1).trans rfl; have hfz20_0 := bkZ BK227.out 0; have hfz20_1 := bkZ BK227.out 1) | ((with_reducible refine gtC (f := 84) rfl ?_); refine goesL_ (some 29) rfl rfl Tryd.func84 (by kernel_rfl) rfl #[.agg #[.int .i64 t225, .int .i64 t226]] rfl (by (try simp only [List.map_toArray, List.map_cons, List.map_nil]) <;> rfl) ?_; (with_reducible refine (hang_large.calls t225 t226 t228 _ A9.out).mono ?_); rintro e w21 ⟨rfl, hb⟩; refine ⟨_, rfl, ?_⟩; have nD_ := Z0.mk (bkB (g := D_) (o := .deferred (some [])) (by (with_reducible repeat (first | refine bkN ?_ _ | refine bkD ?_ | refine bkA ?_ _ | refine kept_set ?_ _ _)); exact HD_.out) hb); clear HD_; have HD_ := nD_; clear nD_; have n0_ := Z0.mk (Kd.R_below (by (with_reducible repeat (first | apply Kd.R_alloc | apply Kd.R_drewN | apply Kd.R_drew)); exact (Kd.R_mono (Kd.R_far (p := ⟨gb227, 1, none⟩) (Kd.R_far (p := ⟨gb227, 0, none⟩) (Kd.R_types HO222.out BK227.out (by decide)) (fun _ hk => hk.2) (.int .i64 t225)) (fun _ hk => hk.2) (.int .i64 t226)) (fun _ h_ => h_.1))) hb); have n1_ := Z0.mk (bkB (g := gb217) (o := .cells #[.int .i64 0, .int .i64 0] 23 (0, 0)) (by (with_reducible repeat (first | refine bkN ?_ _ | refine bkD ?_ | refine bkA ?_ _)); refine bkF ?_ NB217_227.out _; (with_reducible repeat (first | refine bkN ?_ _ | refine bkD ?_ | refine bkA ?_ _)); refine bkF ?_ NB217_227.out _; (with_reducible repeat (first | refine bkN ?_ _ | refine bkD ?_ | refine bkA ?_ _)); exact BK217.out) hb); have n2_ := Z0.mk (bkB (g := gb227) (o := .cells #[.int .i64 t225, .int .i64 t226] 23 (0, 0)) (by (with_reducible repeat (first | refine bkN ?_ _ | refine bkD ?_ | refine bkA ?_ _)); refine bkP (cs := #[.int .i64 t225, .int .i64 0]) ?_ 1 _ rfl; (with_reducible repeat (first | refine bkN ?_ _ | refine bkD ?_ | refine bkA ?_ _)); refine bkP (cs := #[.int .i64 0, .int .i64 0]) ?_ 0 _ rfl; (with_reducible repeat (first | refine bkN ?_ _ | refine bkD ?_ | refine bkA ?_ _)); exact BK227.out) hb); have n3_ := Z0.mk (bwT (by repeat (first | (with_reducible first | exact HB.out | apply bwA | apply bwN | apply bw1 | refine bwS ?_ GE217.out | refine bwS ?_ GE227.out) | exact HB.out)) hb); clear HO222 BK217 BK227 HB; have HO222 := n0_; have BK217 := n1_; have BK227 := n2_; have HB := n3_; clear n0_ n1_ n2_ n3_; (try clear hb); (try clear hb2); (try clear hk); (try clear hi); have hcz22_0 : w21.cell? ⟨gb227, 0, none⟩ = some (.int .i64 t225) := (bkC BK227.out 0).trans rfl; have hcz22_1 : w21.cell? ⟨gb227, 1, none⟩ = some (.int .i64 t226) := (bkC BK227.out 1).trans rfl; have hfz22_0 := bkZ BK227.out 0; have hfz22_1 := bkZ BK227.out 1; have hcz23_0 : w21.cell? ⟨gb217, 0, none⟩ = some (.int .i64 0) := (bkC BK217.out 0).trans rfl; have hcz23_1 : w21.cell? ⟨gb217, 1, none⟩ = some (.int .i64 0) := (bkC BK217.out 1).trans rfl; have hfz23_0 := bkZ BK217.out 0; have hfz23_1 := bkZ BK217.out 1))
    refine ⟨by simp, .inl ⟨_, _, rfl, run_takeDeferred (by (with_reducible repeat (first | refine bkN ?_ _ | refine bkD ?_ | refine bkA ?_ _ | refine kept_set ?_ _ _)); exact HD_.out), _, results_ct rfl _ _ gb217 23 #[.int .i64 t225, .int .i64 t226] (0, 0) _ rfl ((World.putObj_heap_other hne_).trans (by (with_reducible repeat (first | refine bkN ?_ _ | refine bkD ?_ | refine bkA ?_ _)); refine bkP (cs := #[.int .i64 t225, .int .i64 0]) ?_ 1 _ rfl; (with_reducible repeat (first | refine bkN ?_ _ | refine bkD ?_ | refine bkA ?_ _)); refine bkP (cs := #[.int .i64 0, .int .i64 0]) ?_ 0 _ rfl; (with_reducible repeat (first | refine bkN ?_ _ | refine bkD ?_ | refine bkA ?_ _)); exact BK217.out)) Tryd.underlying23 rfl (by kernel_rfl), ?_⟩⟩;refine ⟨by first | rfl | (simp [errW_none, errW_some] <;> rfl) | (simp [*, errW_none, errW_some] <;> rfl), ?_⟩;refine Below.trans ?_ (belowK_b (w := w) (Nat.le_refl _) _ D_ (.deferred (some [])) _ hDw (by (with_reducible repeat (first | refine bkN ?_ _ | refine bkD ?_ | refine bkA ?_ _ | refine kept_set ?_ _ _)); exact HD_.out) rfl rfl);repeat (first | (with_reducible first | exact HB.out | apply bwA | apply bwN | apply bw1 | refine bwS ?_ GE217.out | refine bwS ?_ GE227.out) | exact HB.out)
  ·rw [if_neg c10] at H;have c10b0 : (t228 == 0) = false := beq_eq_false_iff_ne.mpr c10;have c10b1 : (t228 != 0) = true := bne_iff_ne.mpr c10;simp only [Option.some.injEq, Prod.mk.injEq] at H;obtain ⟨rfl, rfl, rfl⟩ := H;refine (callsIn_wide (n := 6)).1 (callsIn_of_wp_marks Tryd.func39 rfl trivial ?_ rfl);simp only [Tryd.ntmps39, List.size_toArray, List.length_cons, List.length_nil, Nat.reduceAdd, Nat.reduceSub, Array.replicate_succ, Array.replicate_zero, List.push_toArray, List.append_toArray, List.nil_append, List.cons_append];refine wpIn_wide.2 ?_;go_wp2_with (first | ((with_reducible refine gtD (N := 4) rfl ?_); refine bxE ?hg (N := 4) ?hd (cs := #[.int .i64 0, .int .i64 0]) (t := 23) ?hr ?_; (case hd => rfl); (case hg => rfl); (case hr => first | (go_simp; done) | (go_simp; rfl)); intro gb217 hg w24 hbox hb; have n0_ := Z0.mk (bwT (by repeat (first | (with_reducible first | exact HB.out | apply bwA | apply bwN | apply bw1) | exact HB.out)) hb); have n1_ := Z0.mk (hbox); have n2_ := Z0.mk ((by rw [hg]; exact (bwZ (by repeat (first | (with_reducible first | exact HB.out | apply bwA | apply bwN | apply bw1) | exact HB.out))) : w.heap.size ≤ gb217)); have n3_ := Z0.mk ((by rw [hg]; exact (bwZ (by repeat (first | (with_reducible first | exact HB.out | apply bwA | apply bwN | apply bw1) | exact HB.out))) : w.heap.size ≤ gb217)); clear HB; have HB := n0_; have BK217 := n1_; have GW217 := n2_; have GE217 := n3_; clear n0_ n1_ n2_ n3_; clear hb hbox hg) | ((with_reducible refine gtC (f := 82) rfl ?_); refine goesL_ (some 12) rfl rfl Tryd.func82 (by kernel_rfl) rfl #[.slice A0 l0.length c0] rfl (by (try simp only [List.map_toArray, List.map_cons, List.map_nil]) <;> rfl) ?_; (with_reducible refine (hang_checkSections.calls k _ _ l0 t218 _ ?side1 ?side2 A3.out).mono ?_); (case side1 => repeat (first | exact (Kd.C_below HR0.out HB.out) | (with_reducible refine Kd.C_alloc ?_ _) | (with_reducible refine Kd.C_drewN ?_ _) | (with_reducible refine Kd.C_drew ?_))); (case side2 => exact HC0.out); rintro e w25 ⟨rfl, hb⟩; refine ⟨_, rfl, ?_⟩; have n0_ := Z0.mk (bkB (g := gb217) (o := .cells #[.int .i64 0, .int .i64 0] 23 (0, 0)) (by (with_reducible repeat (first | refine bkN ?_ _ | refine bkD ?_ | refine bkA ?_ _)); exact BK217.out) hb); have n1_ := Z0.mk (bwT (by repeat (first | (with_reducible first | exact HB.out | apply bwA | apply bwN | apply bw1 | refine bwS ?_ GE217.out) | exact HB.out)) hb); clear BK217 HB; have BK217 := n0_; have HB := n1_; clear n0_ n1_; (try clear hb); (try clear hb2); (try clear hk); (try clear hi)) | ((with_reducible refine gtC (f := 77) rfl ?_); refine goesL_ (some 14) rfl rfl Tryd.func77 (by kernel_rfl) rfl #[.int .i64 a1] rfl (by (try simp only [List.map_toArray, List.map_cons, List.map_nil]) <;> rfl) ?_; (with_reducible refine (hang_checkBar.calls a1 t219 _ A4.out).mono ?_); rintro e w' ⟨rfl, ⟨nd, rfl⟩⟩; refine ⟨_, rfl, ?_⟩; (try (rw [drewN_self w25]; generalize hq_ : World.drewN w25 _ = w25; have n0_ : Z0 (w25.heap[gb217]? = some (.cells #[.int .i64 0, .int .i64 0] 23 (0, 0))) := ⟨by rw [← hq_]; exact (by (with_reducible repeat (first | refine bkN ?_ _ | refine bkD ?_ | refine bkA ?_ _)); exact BK217.out)⟩; have n1_ : Z0 (Below w.heap.size w w25) := ⟨by rw [← hq_]; exact (by repeat (first | (with_reducible first | exact HB.out | apply bwA | apply bwN | apply bw1 | refine bwS ?_ GE217.out) | exact HB.out))⟩; clear BK217 HB hq_; have BK217 := n0_; have HB := n1_; clear n0_ n1_))) | ((with_reducible refine gtD (N := 15) rfl ?_); refine Kd.R_lit (Kd.int .i64) _ 26 ?hg (N := 15) ?hd (xs := ([t218, t219] : List Int)) (inner := [.int .i64 t218, .int .i64 t219]) (ok := fun _ => True) (okp := fun _ => True) ?hr ?hp (fun _ hk => hk) trivial (Below.refl _ _) (Nat.le_refl _) (by simp) ?_; (case hd => rfl); (case hg => rfl); (case hr => first | (go_simp; done) | (go_simp; rfl)); (case hp => exact (Reps.one (show Kd.M (Kd.int .i64) _ _ _ t218 [.int .i64 t218] from rfl) (Reps.one (show Kd.M (Kd.int .i64) _ _ _ t219 [.int .i64 t219] from rfl) (Reps.none _ _)))); intro v221 w26 ho27 hb hg_ hnew_; clear hg_ hnew_; (first | rw [← Ny220.out] at ho27 | (simp only [Int.reduceToNat] at ho27; rw [← Ny220.out] at ho27)); have n0_ := Z0.mk (Kd.R_lower ho27 (bwZ (by repeat (first | (with_reducible first | exact HB.out | apply bwA | apply bwN | apply bw1 | refine bwS ?_ GE217.out) | exact HB.out)))); have n1_ := Z0.mk (bkB (g := gb217) (o := .cells #[.int .i64 0, .int .i64 0] 23 (0, 0)) (by (with_reducible repeat (first | refine bkN ?_ _ | refine bkD ?_ | refine bkA ?_ _)); exact BK217.out) hb); have n2_ := Z0.mk (bwT (by repeat (first | (with_reducible first | exact HB.out | apply bwA | apply bwN | apply bw1 | refine bwS ?_ GE217.out) | exact HB.out)) hb); clear BK217 HB; have HO222 := n0_; have BK217 := n1_; have HB := n2_; clear n0_ n1_ n2_; clear hb ho27; obtain ⟨Ao28, co28, eo28⟩ := Kd.R_slice HO222.out; subst eo28) | ((with_reducible refine gtC (f := 72) rfl ?_); refine goesL_ (some 16) rfl rfl Tryd.func72 (by kernel_rfl) rfl #[.slice Ao28 y220.length co28] rfl (by (try simp only [List.map_toArray, List.map_cons, List.map_nil]) <;> rfl) ?_; (with_reducible refine (hang_first.calls k _ _ y220 t223 _ ?side1 ?side2 A5.out).mono ?_); (case side1 => repeat (first | exact (Kd.R_reads' HO222.out).2.2 | (with_reducible refine Kd.C_alloc ?_ _) | (with_reducible refine Kd.C_drewN ?_ _) | (with_reducible refine Kd.C_drew ?_))); (case side2 => exact (Kd.R_reads' HO222.out).2.1); rintro e w' ⟨rfl, ⟨nd, rfl⟩⟩; refine ⟨_, rfl, ?_⟩; (try (rw [drewN_self w26]; generalize hq_ : World.drewN w26 _ = w26; have n0_ : Z0 (Kd.R (Kd.int .i64) 26 w26 w.heap.size (fun _ => True) (.slice Ao28 y220.length co28) y220) := ⟨by rw [← hq_]; exact (by (with_reducible repeat (first | apply Kd.R_alloc | apply Kd.R_drewN | apply Kd.R_drew)); exact HO222.out)⟩; have n1_ : Z0 (w26.heap[gb217]? = some (.cells #[.int .i64 0, .int .i64 0] 23 (0, 0))) := ⟨by rw [← hq_]; exact (by (with_reducible repeat (first | refine bkN ?_ _ | refine bkD ?_ | refine bkA ?_ _)); exact BK217.out)⟩; have n2_ : Z0 (Below w.heap.size w w26) := ⟨by rw [← hq_]; exact (by repeat (first | (with_reducible first | exact HB.out | apply bwA | apply bwN | apply bw1 | refine bwS ?_ GE217.out) | exact HB.out))⟩; clear HO222 BK217 HB hq_; have HO222 := n0_; have BK217 := n1_; have HB := n2_; clear n0_ n1_ n2_))) | ((with_reducible refine gtC (f := 83) rfl ?_); refine goesL_ (some 23) rfl rfl Tryd.func83 (by kernel_rfl) rfl #[.slice A0 l0.length c0, .int .i64 a1] rfl (by (try simp only [List.map_toArray, List.map_cons, List.map_nil]); first | done | rfl) ?_; (with_reducible refine (hang_marks.calls A0 l0.length c0 a1 _).mono ?_); rintro e w' ⟨rfl, rfl⟩; refine ⟨_, rfl, ?_⟩))
   rename World => wq
   rename_i K_ aK_
   have hB0 : Below w.heap.size w (((wq.alloc (.cells #[.int .i64 0] 3)).alloc (.cells #[.slice A0 l0.length c0] 63)).alloc (.cells #[.int .i64 a1] 3)) := (by repeat (first | (with_reducible first | exact HB.out | apply bwA | apply bwN | apply bw1 | refine bwS ?_ GE217.out) | exact HB.out));have hBq : Below wq.heap.size wq (((wq.alloc (.cells #[.int .i64 0] 3)).alloc (.cells #[.slice A0 l0.length c0] 63)).alloc (.cells #[.int .i64 a1] 3)) := (((Below.refl _ wq).alloc (Nat.le_refl _) _).alloc (by simp) _).alloc (by simp; omega) _;have hk7 : (((wq.alloc (.cells #[.int .i64 0] 3)).alloc (.cells #[.slice A0 l0.length c0] 63)).alloc (.cells #[.int .i64 a1] 3)).heap[wq.heap.size]? = some (.cells #[.int .i64 0] 3 (0, 0)) := bkA (bkA (blk_new wq _) _) _;have hk8 : (((wq.alloc (.cells #[.int .i64 0] 3)).alloc (.cells #[.slice A0 l0.length c0] 63)).alloc (.cells #[.int .i64 a1] 3)).heap[wq.heap.size + 1]? = some (.cells #[.slice A0 l0.length c0] 63 (0, 0)) := by have := blk_new (wq.alloc (.cells #[.int .i64 0] 3)) (.cells #[.slice A0 l0.length c0] 63); rw [World.size_alloc] at this; exact bkA this _
   have hk9 : (((wq.alloc (.cells #[.int .i64 0] 3)).alloc (.cells #[.slice A0 l0.length c0] 63)).alloc (.cells #[.int .i64 a1] 3)).heap[wq.heap.size + 1 + 1]? = some (.cells #[.int .i64 a1] 3 (0, 0)) := by have := blk_new ((wq.alloc (.cells #[.int .i64 0] 3)).alloc (.cells #[.slice A0 l0.length c0] 63)) (.cells #[.int .i64 a1] 3); rw [World.size_alloc, World.size_alloc] at this; exact this
   have hsq : (((wq.alloc (.cells #[.int .i64 0] 3)).alloc (.cells #[.slice A0 l0.length c0] 63)).alloc (.cells #[.int .i64 a1] 3)).heap.size = wq.heap.size + 3 := by simp
   have hwq : w.heap.size ≤ wq.heap.size := HB.out.size;rw [World.size_alloc];obtain ⟨W0, hW0⟩ : ∃ W0, ((wq.alloc (.cells #[.int .i64 0] 3)).alloc (.cells #[.slice A0 l0.length c0] 63)).alloc (.cells #[.int .i64 a1] 3) = W0 := ⟨_, rfl⟩;rw [hW0] at hB0 hBq hk7 hk8 hk9 hsq ⊢;clear hW0;obtain ⟨hok1, hok2, hok3, hlast⟩ := hang_lastMark.ok A7.out;refine (wpIn_wide (n := 6)).1 ?_;refine wpIn_rangeFunc_ownG (F := Fence.wide) rfl (by decide) (gf := 108) (lb := #[.pointer (some ⟨wq.heap.size + 1, 0, none⟩), .pointer (some ⟨wq.heap.size + 1 + 1, 0, none⟩)]) rfl trivial (enters_of Tryd.func108 (by kernel_rfl) rfl)
    (hang_marks1.stops 5 (by decide) (wq.heap.size + 1) (wq.heap.size + 1 + 1) w.heap.size A0 c0 l0 a1 hok1 hok2 hok3 W0 ((bkC hk8 0).trans rfl) ((bkC hk9 0).trans rfl) (Kd.C_below HR0.out hB0) hB0.size (marks_low HR0.out)) markK_t
    (fun W l o o' hl h hc _ => markK_b hB0.size W l o o' hl h hc) (Below.refl _ _) (fun _ => rfl)
    (fun pre W => W.heap[wq.heap.size]? = some (.cells #[.int .i64 (pre.getLast?.getD 0)] 3 (0, 0)) ∧ Below wq.heap.size wq W)
    (fun _ _ _ => False)
    (OwnFrom.and (own_blk _ _ _ _) (ownFrom_below (Nat.le_refl _) (by omega)))
    (fun _ _ _ _ _ hs _ _ => hs)
    ⟨hk7, hBq⟩
    (fun x => { tmps := #[.slice A0 l0.length c0, .int .i64 a1, undef, undef, .pointer (some ⟨gb217, 0, none⟩), .int .i64 0, .int .i64 t223, .pointer (some ⟨wq.heap.size, 0, none⟩), .int .i64 x, undef, undef, .slice A0 l0.length c0, .int .i64 t218, .int .i64 a1, .int .i64 t219, .slice Ao28 y220.length co28, .int .i64 t223, .int .i64 t223, .bool false, undef, undef, .slice A0 l0.length c0, .int .i64 a1, .func (.func 108) #[] #[.pointer (some ⟨wq.heap.size + 1, 0, none⟩), .pointer (some ⟨wq.heap.size + 1 + 1, 0, none⟩)], .int .i64 x, undef, undef, undef, undef, undef, undef, undef, undef, undef, undef], defers := [] }) ?assign ?body ?done ?stop
   case assign =>
    intro l x W K hK;gi_wp2
    exact hK
   case body =>
    rintro l pre x W ⟨h7, hBW⟩ _;have hcz : W.cell? ⟨wq.heap.size, 0, none⟩ = some (.int .i64 (pre.getLast?.getD 0)) := (bkC h7 0).trans rfl;have hfz := bkZ h7 0;gi_wp2
    exact ⟨(KeepsOthers.setCell _ _ _).from _, markK_set h7 (by decide) hwq (by omega) (by omega) 0 _, by refine (bkP h7 0 (.int .i64 x) rfl).trans ?_; simp, hBW.setCell (p := ⟨wq.heap.size, 0, none⟩) (Nat.le_refl _) _⟩
   case stop =>
    rintro D c pre W _ _ h _;exact h.elim
   case done =>
    rintro D_ ys W2 hD rfl ⟨h7, hBW⟩ hK;rw [← hlast] at h7;clear hlast;have hcz : W2.cell? ⟨wq.heap.size, 0, none⟩ = some (.int .i64 t224) := (bkC h7 0).trans rfl;have hfz := bkZ h7 0;have n0_ := Z0.mk (Kd.R_below HO222.out hBW);have n1_ := Z0.mk (bkB BK217.out hBW);have n2_ := Z0.mk (bwT HB.out hBW);have hne_ : gb217 ≠ D_ := by have := blk_lt BK217.out; omega
    have HD_ := Z0.mk hK;have hDw : w.heap.size ≤ D_ := by omega
    clear HO222 BK217 HB hK;have HO222 := n0_;have BK217 := n1_;have HB := n2_;clear n0_ n1_ n2_;refine aK_ _ _ ?_;go_wp2_with (first | ((with_reducible refine gtC (f := 75) rfl ?_); refine goesL_ (some 27) rfl rfl Tryd.func75 (by kernel_rfl) rfl #[.int .i64 t224, .int .i64 2329089562800] rfl (by (try simp only [List.map_toArray, List.map_cons, List.map_nil]) <;> rfl) ?_; (with_reducible refine (hang_ratio.calls k t224 2329089562800 t225 t226 _ A8.out).mono ?_); rintro e w30 ⟨rfl, hb⟩; refine ⟨_, rfl, ?_⟩; have nD_ := Z0.mk (bkB (g := D_) (o := .deferred (some [])) (by (with_reducible repeat (first | refine bkN ?_ _ | refine bkD ?_ | refine bkA ?_ _ | refine kept_set ?_ _ _)); exact HD_.out) hb); clear HD_; have HD_ := nD_; clear nD_; have n0_ := Z0.mk (Kd.R_below (by (with_reducible repeat (first | apply Kd.R_alloc | apply Kd.R_drewN | apply Kd.R_drew)); exact HO222.out) hb); have n1_ := Z0.mk (bkB (g := gb217) (o := .cells #[.int .i64 0, .int .i64 0] 23 (0, 0)) (by (with_reducible repeat (first | refine bkN ?_ _ | refine bkD ?_ | refine bkA ?_ _)); exact BK217.out) hb); have n2_ := Z0.mk (bwT (by repeat (first | (with_reducible first | exact HB.out | apply bwA | apply bwN | apply bw1 | refine bwS ?_ GE217.out) | exact HB.out)) hb); clear HO222 BK217 HB; have HO222 := n0_; have BK217 := n1_; have HB := n2_; clear n0_ n1_ n2_; (try clear hb); (try clear hb2); (try clear hk); (try clear hi)) | ((with_reducible refine gtD (N := 9) rfl ?_); refine bxE ?hg (N := 9) ?hd (cs := #[.int .i64 0, .int .i64 0]) (t := 23) ?hr ?_; (case hd => rfl); (case hg => rfl); (case hr => first | (go_simp; done) | (go_simp; rfl)); intro gb227 hg w31 hbox hb; have nD_ := Z0.mk (bkB (g := D_) (o := .deferred (some [])) (by (with_reducible repeat (first | refine bkN ?_ _ | refine bkD ?_ | refine bkA ?_ _ | refine kept_set ?_ _ _)); exact HD_.out) hb); clear HD_; have HD_ := nD_; clear nD_; have n0_ := Z0.mk (Kd.R_below (by (with_reducible repeat (first | apply Kd.R_alloc | apply Kd.R_drewN | apply Kd.R_drew)); exact HO222.out) hb); have n1_ := Z0.mk (bkB (g := gb217) (o := .cells #[.int .i64 0, .int .i64 0] 23 (0, 0)) (by (with_reducible repeat (first | refine bkN ?_ _ | refine bkD ?_ | refine bkA ?_ _)); exact BK217.out) hb); have n2_ := Z0.mk (bwT (by repeat (first | (with_reducible first | exact HB.out | apply bwA | apply bwN | apply bw1 | refine bwS ?_ GE217.out) | exact HB.out)) hb); have n3_ := Z0.mk (hbox); have n4_ := Z0.mk ((by rw [hg]; exact (bwZ (by repeat (first | (with_reducible first | exact HB.out | apply bwA | apply bwN | apply bw1 | refine bwS ?_ GE217.out) | exact HB.out))) : w.heap.size ≤ gb227)); have n5_ := Z0.mk ((by rw [hg]; exact (bwZ (by repeat (first | (with_reducible first | exact HB.out | apply bwA | apply bwN | apply bw1 | refine bwS ?_ GE217.out) | exact HB.out))) : w.heap.size ≤ gb227)); have n6_ := Z0.mk ((by rw [hg]; exact Nat.ne_of_lt (blk_lt (g := gb217) (o := .cells #[.int .i64 0, .int .i64 0] 23 (0, 0)) (by (with_reducible repeat (first | refine bkN ?_ _ | refine bkD ?_ | refine bkA ?_ _)); exact BK217.out)) : gb217 ≠ gb227)); have n7_ := Z0.mk ((by rw [hg]; exact Nat.ne_of_gt (blk_lt (g := gb217) (o := .cells #[.int .i64 0, .int .i64 0] 23 (0, 0)) (by (with_reducible repeat (first | refine bkN ?_ _ | refine bkD ?_ | refine bkA ?_ _)); exact BK217.out)) : gb227 ≠ gb217)); clear HO222 BK217 HB; have HO222 := n0_; have BK217 := n1_; have HB := n2_; have BK227 := n3_; have GW227 := n4_; have GE227 := n5_; have NB217_227 := n6_; have NB227_217 := n7_; clear n0_ n1_ n2_ n3_ n4_ n5_ n6_ n7_; clear hb hbox hg; have hnb32 := NB227_217.out; have hnc32 := NB217_227.out; have hcz33_0 : w31.cell? ⟨gb227, 0, none⟩ = some (.int .i64 0) := (bkC BK227.out 0).trans rfl; have hcz33_1 : w31.cell? ⟨gb227, 1, none⟩ = some (.int .i64 0) := (bkC BK227.out 1).trans rfl; have hfz33_0 := bkZ BK227.out 0; have hfz33_1 := bkZ BK227.out 1) | ((with_reducible refine gtC (f := 84) rfl ?_); refine goesL_ (some 29) rfl rfl Tryd.func84 (by kernel_rfl) rfl #[.agg #[.int .i64 t225, .int .i64 t226]] rfl (by (try simp only [List.map_toArray, List.map_cons, List.map_nil]) <;> rfl) ?_; (with_reducible refine (hang_large.calls t225 t226 t228 _ A9.out).mono ?_); rintro e w34 ⟨rfl, hb⟩; refine ⟨_, rfl, ?_⟩; have nD_ := Z0.mk (bkB (g := D_) (o := .deferred (some [])) (by (with_reducible repeat (first | refine bkN ?_ _ | refine bkD ?_ | refine bkA ?_ _ | refine kept_set ?_ _ _)); exact HD_.out) hb); clear HD_; have HD_ := nD_; clear nD_; have n0_ := Z0.mk (Kd.R_below (by (with_reducible repeat (first | apply Kd.R_alloc | apply Kd.R_drewN | apply Kd.R_drew)); exact (Kd.R_mono (Kd.R_far (p := ⟨gb227, 1, none⟩) (Kd.R_far (p := ⟨gb227, 0, none⟩) (Kd.R_types HO222.out BK227.out (by decide)) (fun _ hk => hk.2) (.int .i64 t225)) (fun _ hk => hk.2) (.int .i64 t226)) (fun _ h_ => h_.1))) hb); have n1_ := Z0.mk (bkB (g := gb217) (o := .cells #[.int .i64 0, .int .i64 0] 23 (0, 0)) (by (with_reducible repeat (first | refine bkN ?_ _ | refine bkD ?_ | refine bkA ?_ _)); refine bkF ?_ NB217_227.out _; (with_reducible repeat (first | refine bkN ?_ _ | refine bkD ?_ | refine bkA ?_ _)); refine bkF ?_ NB217_227.out _; (with_reducible repeat (first | refine bkN ?_ _ | refine bkD ?_ | refine bkA ?_ _)); exact BK217.out) hb); have n2_ := Z0.mk (bkB (g := gb227) (o := .cells #[.int .i64 t225, .int .i64 t226] 23 (0, 0)) (by (with_reducible repeat (first | refine bkN ?_ _ | refine bkD ?_ | refine bkA ?_ _)); refine bkP (cs := #[.int .i64 t225, .int .i64 0]) ?_ 1 _ rfl; (with_reducible repeat (first | refine bkN ?_ _ | refine bkD ?_ | refine bkA ?_ _)); refine bkP (cs := #[.int .i64 0, .int .i64 0]) ?_ 0 _ rfl; (with_reducible repeat (first | refine bkN ?_ _ | refine bkD ?_ | refine bkA ?_ _)); exact BK227.out) hb); have n3_ := Z0.mk (bwT (by repeat (first | (with_reducible first | exact HB.out | apply bwA | apply bwN | apply bw1 | refine bwS ?_ GE217.out | refine bwS ?_ GE227.out) | exact HB.out)) hb); clear HO222 BK217 BK227 HB; have HO222 := n0_; have BK217 := n1_; have BK227 := n2_; have HB := n3_; clear n0_ n1_ n2_ n3_; (try clear hb); (try clear hb2); (try clear hk); (try clear hi); have hcz35_0 : w34.cell? ⟨gb217, 0, none⟩ = some (.int .i64 0) := (bkC BK217.out 0).trans rfl; have hcz35_1 : w34.cell? ⟨gb217, 1, none⟩ = some (.int .i64 0) := (bkC BK217.out 1).trans rfl; have hfz35_0 := bkZ BK217.out 0; have hfz35_1 := bkZ BK217.out 1))
    refine ⟨by simp, .inl ⟨_, _, rfl, run_takeDeferred (by (with_reducible repeat (first | refine bkN ?_ _ | refine bkD ?_ | refine bkA ?_ _ | refine kept_set ?_ _ _)); exact HD_.out), _, results_ct rfl _ _ gb217 23 #[.int .i64 0, .int .i64 0] (0, 0) _ rfl ((World.putObj_heap_other hne_).trans (by (with_reducible repeat (first | refine bkN ?_ _ | refine bkD ?_ | refine bkA ?_ _)); refine bkP (cs := #[.int .i64 0, .int .i64 0]) ?_ 1 _ rfl; (with_reducible repeat (first | refine bkN ?_ _ | refine bkD ?_ | refine bkA ?_ _)); refine bkP (cs := #[.int .i64 0, .int .i64 0]) ?_ 0 _ rfl; (with_reducible repeat (first | refine bkN ?_ _ | refine bkD ?_ | refine bkA ?_ _)); exact BK217.out)) Tryd.underlying23 rfl (by kernel_rfl), ?_⟩⟩;refine ⟨by first | rfl | (simp [errW_none, errW_some] <;> rfl) | (simp [*, errW_none, errW_some] <;> rfl), ?_⟩;refine Below.trans ?_ (belowK_b (w := w) (Nat.le_refl _) _ D_ (.deferred (some [])) _ hDw (by (with_reducible repeat (first | refine bkN ?_ _ | refine bkD ?_ | refine bkA ?_ _ | refine kept_set ?_ _ _)); exact HD_.out) rfl rfl);repeat (first | (with_reducible first | exact HB.out | apply bwA | apply bwN | apply bw1 | refine bwS ?_ GE217.out | refine bwS ?_ GE227.out) | exact HB.out)
 ·rw [if_neg c6] at H;have c6b0 : (t223 == 0) = false := beq_eq_false_iff_ne.mpr c6;have c6b1 : (t223 != 0) = true := bne_iff_ne.mpr c6;simp only [Option.some.injEq, Prod.mk.injEq] at H;obtain ⟨rfl, rfl, rfl⟩ := H;go_enter Tryd.func39, Tryd.ntmps39;go_wp2_with (first | ((with_reducible refine gtD (N := 4) rfl ?_); refine bxE ?hg (N := 4) ?hd (cs := #[.int .i64 0, .int .i64 0]) (t := 23) ?hr ?_; (case hd => rfl); (case hg => rfl); (case hr => first | (go_simp; done) | (go_simp; rfl)); intro gb217 hg w36 hbox hb; have n0_ := Z0.mk (bwT (by repeat (first | (with_reducible first | exact HB.out | apply bwA | apply bwN | apply bw1) | exact HB.out)) hb); have n1_ := Z0.mk (hbox); have n2_ := Z0.mk ((by rw [hg]; exact (bwZ (by repeat (first | (with_reducible first | exact HB.out | apply bwA | apply bwN | apply bw1) | exact HB.out))) : w.heap.size ≤ gb217)); have n3_ := Z0.mk ((by rw [hg]; exact (bwZ (by repeat (first | (with_reducible first | exact HB.out | apply bwA | apply bwN | apply bw1) | exact HB.out))) : w.heap.size ≤ gb217)); clear HB; have HB := n0_; have BK217 := n1_; have GW217 := n2_; have GE217 := n3_; clear n0_ n1_ n2_ n3_; clear hb hbox hg) | ((with_reducible refine gtC (f := 82) rfl ?_); refine goesL_ (some 12) rfl rfl Tryd.func82 (by kernel_rfl) rfl #[.slice A0 l0.length c0] rfl (by (try simp only [List.map_toArray, List.map_cons, List.map_nil]) <;> rfl) ?_; (with_reducible refine (hang_checkSections.calls k _ _ l0 t218 _ ?side1 ?side2 A3.out).mono ?_); (case side1 => repeat (first | exact (Kd.C_below HR0.out HB.out) | (with_reducible refine Kd.C_alloc ?_ _) | (with_reducible refine Kd.C_drewN ?_ _) | (with_reducible refine Kd.C_drew ?_))); (case side2 => exact HC0.out); rintro e w37 ⟨rfl, hb⟩; refine ⟨_, rfl, ?_⟩; have n0_ := Z0.mk (bkB (g := gb217) (o := .cells #[.int .i64 0, .int .i64 0] 23 (0, 0)) (by (with_reducible repeat (first | refine bkN ?_ _ | refine bkD ?_ | refine bkA ?_ _)); exact BK217.out) hb); have n1_ := Z0.mk (bwT (by repeat (first | (with_reducible first | exact HB.out | apply bwA | apply bwN | apply bw1 | refine bwS ?_ GE217.out) | exact HB.out)) hb); clear BK217 HB; have BK217 := n0_; have HB := n1_; clear n0_ n1_; (try clear hb); (try clear hb2); (try clear hk); (try clear hi)) | ((with_reducible refine gtC (f := 77) rfl ?_); refine goesL_ (some 14) rfl rfl Tryd.func77 (by kernel_rfl) rfl #[.int .i64 a1] rfl (by (try simp only [List.map_toArray, List.map_cons, List.map_nil]) <;> rfl) ?_; (with_reducible refine (hang_checkBar.calls a1 t219 _ A4.out).mono ?_); rintro e w' ⟨rfl, ⟨nd, rfl⟩⟩; refine ⟨_, rfl, ?_⟩; (try (rw [drewN_self w37]; generalize hq_ : World.drewN w37 _ = w37; have n0_ : Z0 (w37.heap[gb217]? = some (.cells #[.int .i64 0, .int .i64 0] 23 (0, 0))) := ⟨by rw [← hq_]; exact (by (with_reducible repeat (first | refine bkN ?_ _ | refine bkD ?_ | refine bkA ?_ _)); exact BK217.out)⟩; have n1_ : Z0 (Below w.heap.size w w37) := ⟨by rw [← hq_]; exact (by repeat (first | (with_reducible first | exact HB.out | apply bwA | apply bwN | apply bw1 | refine bwS ?_ GE217.out) | exact HB.out))⟩; clear BK217 HB hq_; have BK217 := n0_; have HB := n1_; clear n0_ n1_))) | ((with_reducible refine gtD (N := 15) rfl ?_); refine Kd.R_lit (Kd.int .i64) _ 26 ?hg (N := 15) ?hd (xs := ([t218, t219] : List Int)) (inner := [.int .i64 t218, .int .i64 t219]) (ok := fun _ => True) (okp := fun _ => True) ?hr ?hp (fun _ hk => hk) trivial (Below.refl _ _) (Nat.le_refl _) (by simp) ?_; (case hd => rfl); (case hg => rfl); (case hr => first | (go_simp; done) | (go_simp; rfl)); (case hp => exact (Reps.one (show Kd.M (Kd.int .i64) _ _ _ t218 [.int .i64 t218] from rfl) (Reps.one (show Kd.M (Kd.int .i64) _ _ _ t219 [.int .i64 t219] from rfl) (Reps.none _ _)))); intro v221 w38 ho39 hb hg_ hnew_; clear hg_ hnew_; (first | rw [← Ny220.out] at ho39 | (simp only [Int.reduceToNat] at ho39; rw [← Ny220.out] at ho39)); have n0_ := Z0.mk (Kd.R_lower ho39 (bwZ (by repeat (first | (with_reducible first | exact HB.out | apply bwA | apply bwN | apply bw1 | refine bwS ?_ GE217.out) | exact HB.out)))); have n1_ := Z0.mk (bkB (g := gb217) (o := .cells #[.int .i64 0, .int .i64 0] 23 (0, 0)) (by (with_reducible repeat (first | refine bkN ?_ _ | refine bkD ?_ | refine bkA ?_ _)); exact BK217.out) hb); have n2_ := Z0.mk (bwT (by repeat (first | (with_reducible first | exact HB.out | apply bwA | apply bwN | apply bw1 | refine bwS ?_ GE217.out) | exact HB.out)) hb); clear BK217 HB; have HO222 := n0_; have BK217 := n1_; have HB := n2_; clear n0_ n1_ n2_; clear hb ho39; obtain ⟨Ao40, co40, eo40⟩ := Kd.R_slice HO222.out; subst eo40) | ((with_reducible refine gtC (f := 72) rfl ?_); refine goesL_ (some 16) rfl rfl Tryd.func72 (by kernel_rfl) rfl #[.slice Ao40 y220.length co40] rfl (by (try simp only [List.map_toArray, List.map_cons, List.map_nil]) <;> rfl) ?_; (with_reducible refine (hang_first.calls k _ _ y220 t223 _ ?side1 ?side2 A5.out).mono ?_); (case side1 => repeat (first | exact (Kd.R_reads' HO222.out).2.2 | (with_reducible refine Kd.C_alloc ?_ _) | (with_reducible refine Kd.C_drewN ?_ _) | (with_reducible refine Kd.C_drew ?_))); (case side2 => exact (Kd.R_reads' HO222.out).2.1); rintro e w' ⟨rfl, ⟨nd, rfl⟩⟩; refine ⟨_, rfl, ?_⟩; (try (rw [drewN_self w38]; generalize hq_ : World.drewN w38 _ = w38; have n0_ : Z0 (Kd.R (Kd.int .i64) 26 w38 w.heap.size (fun _ => True) (.slice Ao40 y220.length co40) y220) := ⟨by rw [← hq_]; exact (by (with_reducible repeat (first | apply Kd.R_alloc | apply Kd.R_drewN | apply Kd.R_drew)); exact HO222.out)⟩; have n1_ : Z0 (w38.heap[gb217]? = some (.cells #[.int .i64 0, .int .i64 0] 23 (0, 0))) := ⟨by rw [← hq_]; exact (by (with_reducible repeat (first | refine bkN ?_ _ | refine bkD ?_ | refine bkA ?_ _)); exact BK217.out)⟩; have n2_ : Z0 (Below w.heap.size w w38) := ⟨by rw [← hq_]; exact (by repeat (first | (with_reducible first | exact HB.out | apply bwA | apply bwN | apply bw1 | refine bwS ?_ GE217.out) | exact HB.out))⟩; clear HO222 BK217 HB hq_; have HO222 := n0_; have BK217 := n1_; have HB := n2_; clear n0_ n1_ n2_)); have hcz41_0 : w38.cell? ⟨gb217, 0, none⟩ = some (.int .i64 0) := (bkC BK217.out 0).trans rfl; have hcz41_1 : w38.cell? ⟨gb217, 1, none⟩ = some (.int .i64 0) := (bkC BK217.out 1).trans rfl; have hfz41_0 := bkZ BK217.out 0; have hfz41_1 := bkZ BK217.out 1))
  refine bodyPost_ret (results_ct rfl _ _ gb217 23 #[.int .i64 0, .int .i64 0] (0, 0) _ rfl (by (with_reducible repeat (first | refine bkN ?_ _ | refine bkD ?_ | refine bkA ?_ _)); refine bkP (cs := #[.int .i64 0, .int .i64 0]) ?_ 1 _ rfl; (with_reducible repeat (first | refine bkN ?_ _ | refine bkD ?_ | refine bkA ?_ _)); refine bkP (cs := #[.int .i64 0, .int .i64 0]) ?_ 0 _ rfl; (with_reducible repeat (first | refine bkN ?_ _ | refine bkD ?_ | refine bkA ?_ _)); exact BK217.out) Tryd.underlying23 rfl (by kernel_rfl)) rfl ?_;exact ⟨by first | rfl | (simp [errW_none, errW_some] <;> rfl) | (simp [*, errW_none, errW_some] <;> rfl), by repeat (first | (with_reducible first | exact HB.out | apply bwA | apply bwN | apply bw1 | refine bwS ?_ GE217.out) | exact HB.out)⟩
end Go.Proofs.YtppighiaffppkaaDoor.H
end
section
namespace Go.Proofs.YtppighiaffppkaaDoor.H
open Go.RowKit Go.Shelf Go.Proofs.YtppighiaffppkaaDoorW.PrintWords Go.Proofs.YtppighiaffppkaaDoorW.PrintLast Go.Proofs.YtppighiaffppkaaDoorW.PrintMore
set_option linter.unusedSimpArgs false
set_option linter.unusedVariables false
section
variable {P : Program} {ops : Array Oper} {Q : Exit → Act → World → Prop} {l n : Nat}
def noDefer (o : Oper) : Bool := match o.op with | .defer _ => false | _ => true
theorem oper_round {o : Oper} {a : Act} {w : World} {K K' : Act → World → Prop} (hd : noDefer o = true) (hK : ∀ a w, K a w → K' a w) (h : o.wp P a w K Q) : o.wpIn (Fence.wide.inRound l) n P a w K' Q := by
 refine ⟨fun _ _ => trivial, ?_⟩
 have e : o.semAt (Fence.wide.inRound l).round a.eval = execOp a.eval o := Oper.semAt_eq _ _ o (fun c hc => by simp [noDefer, hc] at hd)
 rw [e]
 unfold Oper.wp at h
 revert h
 generalize (execOp a.eval o).run P w = r
 intro h
 cases r with
 | ok x w' =>
  cases x with
  | value v => exact hK _ _ h
  | skip => exact hK _ _ h
  | defer d => exact hK _ _ h
  | enter f args =>
   refine ⟨fun hs => absurd hs (by simp [Fence.wide]), CallsIn.inRound l (callsIn_wide.2 ?_)⟩;refine Calls.mono h ?_;intro e w'' q;cases e with
   | returned v => exact hK _ _ q
   | _ => exact q
  | row row args =>
   refine ⟨fun hs => absurd hs (by simp [Fence.wide]), fun c cs _ => ?_⟩;obtain ⟨v, w'', r, s⟩ := h c cs;exact ⟨v, w'', hK _ _ r, stepsIn_wide.2 s⟩
  | round => exact h.elim
  | _ => exact h.elim
 | halt x w' => cases x <;> first | exact h | exact h.elim
theorem wpListIn_round (hL : ¬ LetsOut Q) : ∀ (es : List Oper) (a : Act) (w : World), es.all noDefer = true → wpList P ops Q es a w → wpListIn (Fence.wide.inRound l) n P ops Q es a w
 | [], _, _, _, h => h
 | o :: es, a, w, hd, h => by
  simp only [List.all_cons, Bool.and_eq_true] at hd;unfold wpListIn
  unfold wpList at h
  split
  ·rename_i hw
   rw [if_pos hw] at h;exact oper_round hd.1 (fun a w hk => wpListIn_round hL es a w hd.2 hk) (h.resolve_right (fun hh => hL hh.2))
  ·rename_i hw
   rw [if_neg hw] at h;exact ⟨fun _ _ => trivial, wpListIn_round hL es _ w hd.2 h⟩
end
theorem run_copy_rowN {P : Program} (w : World) (dT sT ty elem : TypeId) (g dCap n sz : Nat) (a : Addr) (sCap : Nat) (cur : Array Value) (t : TypeId) (cs : List Value)
  (hu : P.underlying dT = some (.slice elem)) (hs : (P.info? elem).map (·.size) = some sz)
  (hg : w.heap[g]? = some (.cells cur t (0, 0))) (hn : cs.length = n * sz)
  (hsrc : ∀ j v, cs[j]? = some v → w.cell? (a.add j) = some v) (hfit : cs.length ≤ cur.size) (h1 : ∀ v ∈ cs, v.oneCell' = true) :
  (Builtin.copy_ #[dT, sT] ty #[.slice (some ⟨g, 0, none⟩) n dCap, .slice (some a) n sCap]).run P w =
   .ok (goInt n) (w.setRow g (cs ++ cur.toList.drop cs.length).toArray) := by
 have hl := run_loadCells_list (P := P) w a cs hsrc
 have hst := run_storeCells_at P g 0 t cs 0 cur w hg (by simpa using hfit) h1
 cases hq : P.info? elem with
 | none => simp [hq] at hs
 | some i =>
  have hi : i.size = sz := by simpa [hq] using hs
  simp [Builtin.copy_, run_underlying hu, Builtin.lenOf, Builtin.firstCells, sizeOf, typeInfo, hq, hi, ← hn, hl, hst]
structure BodyKp (n₀ Bs Bb q : Nat) (A B : World) : Prop where
 keeps : KeepsOthers A B
 mkp : MarkKp n₀ Bs Bb A B
 low : Below q A B
theorem bk_trans {n₀ Bs Bb q : Nat} {A B C : World} (h : BodyKp n₀ Bs Bb q A B) (k : BodyKp n₀ Bs Bb q B C) : BodyKp n₀ Bs Bb q A C := ⟨h.keeps.trans k.keeps, markK_t h.mkp k.mkp, h.low.trans k.low⟩
theorem bk_below {n₀ Bs Bb q : Nat} {A B : World} (h : Below A.heap.size A B) (hn : n₀ ≤ A.heap.size) (hq : q ≤ A.heap.size) : BodyKp n₀ Bs Bb q A B :=
 ⟨⟨h.size, fun k o hk _ => (h.block k (blk_lt hk)).trans hk⟩, markK_below h hn, h.mono hq⟩
theorem bk_set {n₀ Bs Bb q g : Nat} {W : World} {cs : Array Value} {t : TypeId} {z : Nat × Nat} (h : W.heap[g]? = some (.cells cs t z)) (ht : t ≠ 131) (h0 : n₀ ≤ g) (hq : q ≤ g) (hs : Bs ≠ g) (hb : Bb ≠ g) (i : Nat) (v : Value) : BodyKp n₀ Bs Bb q W (W.setCell ⟨g, i, none⟩ v) :=
 ⟨KeepsOthers.setCell _ _ _, markK_set h ht h0 hs hb i v, (Below.refl _ _).setCell (p := ⟨g, i, none⟩) hq v⟩
theorem bk_grown {n₀ Bs Bb q base : Nat} {W W' : World} {ok : Nat → Prop} {v : Value} {xs : List S23} (hR : Kd.R k23 23 W base ok v xs) (h0 : n₀ ≤ base) (hq : q ≤ base) (hbw : base ≤ W.heap.size) (hok : ∀ k, ok k → k ≠ Bs ∧ k ≠ Bb) (hg : W.grownBy W' v.ownBlock) : BodyKp n₀ Bs Bb q W W' := by
 obtain ⟨h1, inner, hown, hr⟩ := hR
 have hty := own_typed hown
 have hbs := own_base hown
 have hcell : ∀ (b : Nat) (u : Value), b = Bs ∨ b = Bb → W.cell? ⟨b, 0, none⟩ = some u → W'.cell? ⟨b, 0, none⟩ = some u := by
  intro b u hb hc;have hlt := World.block_lt_of_cell? W _ hc;refine (World.cell?_of_block (hg.block b hlt ?_)).trans hc;intro e;have := hok b (h1 b e.symm);rcases hb with hb | hb
  ·exact this.1 hb
  ·exact this.2 hb
 refine ⟨KeepsOthers.of_grownBy hg (fun j o e ho => ?_), ⟨?_, fun u => hcell Bs u (.inl rfl), fun u => hcell Bb u (.inr rfl), fun b cs z e => ?_⟩, ?_⟩
 ·obtain ⟨cells, hc⟩ := hty j e;rw [hc] at ho; cases ho; rfl
 ·exact (Below.refl n₀ W).grown hg (by omega) (fun k e => Nat.le_trans h0 (hbs k e))
 ·refine (hg.block b (blk_lt e) ?_).trans e;intro he;obtain ⟨cells, hc⟩ := hty b he.symm;rw [hc] at e; cases e
 ·exact (Below.refl q W).grown hg (by omega) (fun k e => Nat.le_trans hq (hbs k e))
theorem own_R {β α : Type} (B e base : Nat) (d : Kd α) (ok : Nat → Prop) (v : β → Value) (xs : β → List α) : OwnFrom B (fun s W => Kd.R d e W base ok (v s) (xs s)) := fun s W W' row hs hg hr =>
 Kd.R_mono (Kd.R_grown (Kd.R_bound hs) hg (fun k hk he => by
  obtain ⟨_, _, _, q, _, cells, hc⟩ := hk;obtain ⟨_, o, ho, hno⟩ := hr k he.symm;rw [hc] at ho; cases ho; cases hno)) (fun _ hk => hk.1)
theorem R_copy {W : World} {base : Nat} {ok : Nat → Prop} {v : Value} {xs : List S23} (h : Kd.R k23 23 W base ok v xs) (hn : 0 < xs.length) :
  ∃ (ad : Addr) (c : Nat) (inner : List Value), v = .slice (some ad) xs.length c ∧ inner.length = xs.length * 2 ∧ (∀ j u, inner[j]? = some u → W.cell? (ad.add j) = some u) ∧ (∀ u ∈ inner, u.oneCell' = true) ∧
   ∀ (W' : World) (base' g : Nat), W'.heap[g]? = some (.cells inner.toArray 23 (0, 0)) → base' ≤ g → xs.length ≤ maxLen → Kd.R k23 23 W' base' (fun _ => True) (.slice (some ⟨g, 0, none⟩) xs.length xs.length) xs := by
 obtain ⟨h0, inner, hown, hr⟩ := h
 have hsz : k23.sz = 2 := rfl
 rw [hsz] at hown hr
 obtain ⟨hlen, hv⟩ := hown
 rcases hv with ⟨_, hz⟩ | ⟨g, cap, cur, rfl, hg, hh, hnc, hcap, hcs, htk⟩
 ·omega
 refine ⟨⟨g, 0, none⟩, cap, inner, rfl, hlen, ?_, ?_, ?_⟩
 ·intro j u hu;have : (⟨g, 0, none⟩ : Addr).add j = ⟨g, j, none⟩ := by
   unfold Addr.add
   by_cases hj : j = 0
   ·subst hj; rfl
   ·simp [hj]
  rw [this, bkC hh j];rw [← htk] at hu;have hjl : j < xs.length * 2 := by
   have := (List.getElem?_eq_some_iff.1 hu).1;rw [List.length_take] at this;omega
  rw [List.getElem?_take_of_lt hjl] at hu;simpa using hu
 ·intro u hu;obtain ⟨i, hi, rfl⟩ := List.getElem_of_mem hu;have hj : i / 2 < xs.length := by omega
  have h2 := k23_openM (hr.2 (i / 2) _ (List.getElem?_eq_getElem hj));have h3 : ((inner.drop (i / 2 * 2)).take 2)[i - i / 2 * 2]? = some inner[i] := by
   rw [List.getElem?_take_of_lt (by omega), List.getElem?_drop, show i / 2 * 2 + (i - i / 2 * 2) = i by omega, List.getElem?_eq_getElem hi]
  rw [h2] at h3;have h4 := List.mem_of_getElem? h3;simp only [List.mem_cons, List.not_mem_nil, or_false] at h4;rcases h4 with h4 | h4 <;> rw [h4] <;> rfl
 ·intro W' base' g' hg' hb hm;refine ⟨fun _ _ => trivial, inner, ⟨hlen, .inr ⟨g', xs.length, inner.toArray, rfl, hb, hg', Nat.le_refl _, hm, by rw [hsz]; simpa using hlen, by rw [hsz, ← hlen]; simp⟩⟩, ?_⟩;rw [hsz];refine hr.imp_ (fun p c hp => ?_);have := k23_openM hp;rw [this];exact k23_mkM _ _ _ p
def hang_place.f (k : Nat) (x : Int) : Option (S23 × Int) := (hang_ratio.f k x 2329089562800).bind fun b => (hang_large.f b.1 b.2).bind fun e => some (⟨b.1, b.2⟩, e)
def placesAll (k : Nat) : List Int → Option (List (S23 × Int))
 | [] => some []
 | x :: r => (hang_place.f k x).bind fun p => (placesAll k r).bind fun q => some (p :: q)
def firstErr : List (S23 × Int) → Int
 | [] => 0
 | p :: l => if p.2 = 0 then firstErr l else p.2
def hang_places.f (k : Nat) (l : List S131) (bar : Int) : Option (List S23 × Int) :=
 if markOk l = true then (if (markAll bar l).length < 1000000000000 then (placesAll k (markAll bar l)).bind fun ps => some (if firstErr ps = 0 then (ps.map (·.1), 0) else ([], firstErr ps)) else none) else none
theorem hang_place.mono (k : Nat) (x : Int) : LeO (hang_place.f k x) (hang_place.f (k + 1) x) := by
 unfold hang_place.f
 exact LeO.bind (hang_ratio.mono _ _ _) (fun _ => LeO.refl _)
theorem placesAll_mono (k : Nat) : ∀ l, LeO (placesAll k l) (placesAll (k + 1) l)
 | [] => LeO.refl _
 | x :: r => by
  unfold placesAll
  exact LeO.bind (hang_place.mono k x) (fun _ => LeO.bind (placesAll_mono k r) (fun _ => LeO.refl _))
theorem hang_places.mono : ∀ l bar k, LeO (hang_places.f k l bar) (hang_places.f (k + 1) l bar) := by
 intro l bar k
 unfold hang_places.f
 refine LeO.ite ?_ (LeO.refl _)
 refine LeO.ite ?_ (LeO.refl _)
 exact LeO.bind (placesAll_mono k _) (fun _ => LeO.refl _)
def gP (k : Nat) (x : Int) : S23 × Int := (hang_place.f k x).getD (⟨0, 0⟩, 0)
theorem placesAll_map {k : Nat} : ∀ {xs : List Int} {ps}, placesAll k xs = some ps → ps = xs.map (gP k) ∧ ∀ x ∈ xs, hang_place.f k x = some (gP k x)
 | [], ps, h => by
  simp only [placesAll, Option.some.injEq] at h;subst h;exact ⟨rfl, fun x hx => by cases hx⟩
 | x :: r, ps, h => by
  simp only [placesAll] at h;obtain ⟨p, hp, h⟩ := Option.bind_eq_some_iff.mp h;obtain ⟨q, hq, h⟩ := Option.bind_eq_some_iff.mp h;obtain rfl := Option.some.inj h;obtain ⟨e, hr⟩ := placesAll_map hq;have hg : gP k x = p := by unfold gP; rw [hp]; rfl
  refine ⟨by rw [List.map_cons, hg, e], fun y hy => ?_⟩;rcases List.mem_cons.1 hy with rfl | hy
  ·rw [hg]; exact hp
  ·exact hr y hy
theorem firstErr_none : ∀ {l : List (S23 × Int)}, (∀ p ∈ l, p.2 = 0) → firstErr l = 0
 | [], _ => rfl
 | p :: l, h => by
  unfold firstErr
  rw [if_pos (h p (by simp))];exact firstErr_none (fun q hq => h q (by simp [hq]))
theorem firstErr_hit : ∀ {l1 : List (S23 × Int)} {p : S23 × Int} {l2}, (∀ p ∈ l1, p.2 = 0) → p.2 ≠ 0 → firstErr (l1 ++ p :: l2) = p.2
 | [], p, l2, _, h => by
  show firstErr (p :: l2) = _
  unfold firstErr
  rw [if_neg h]
 | q :: l, p, l2, h, hp => by
  show firstErr (q :: (l ++ p :: l2)) = _
  unfold firstErr
  rw [if_pos (h q (by simp))];exact firstErr_hit (fun r hr => h r (by simp [hr])) hp
end Go.Proofs.YtppighiaffppkaaDoor.H
end
section
namespace Go.Proofs.YtppighiaffppkaaDoor.H
open Go.Proofs.YtppighiaffppkaaDoorW.PrintWords
set_option linter.unusedSimpArgs false
set_option linter.unusedVariables false
def rangeE (n lo hi : Int) : Int := if n < lo then 3 else if n > hi then 3 else 0
def firstE : List Int → Int
 | [] => 0
 | x :: l => if x = 0 then firstE l else x
def whenE (c : Bool) (e : Int) : Int := if c = true then e else 0
def gcdI (a b : Int) : Int := (Nat.gcd a.toNat b.toNat : Int)
def lowI (a b : Int) : Int × Int := (a / gcdI a b, b / gcdI a b)
def checkR (p q : Int) : Int := if p < 1 ∨ p > 30 ∨ q < 1 ∨ q > 30 then 3 else if p > q then 11 else if gcdI p q = 1 then 0 else 1
def checkS (n d : Int) : Int := if n < 0 ∨ n > 4000000000000 ∨ d < 1 ∨ d > 810000 then 3 else if gcdI n d = 1 then 0 else 1
theorem gcdI_pos {a b : Int} (h : 0 < a ∨ 0 < b) : 0 < gcdI a b := by
 unfold gcdI
 have : 0 < Nat.gcd a.toNat b.toNat := by
  rcases h with h | h
  ·exact Nat.gcd_pos_of_pos_left _ (by omega)
  ·exact Nat.gcd_pos_of_pos_right _ (by omega)
 omega
theorem gcdI_le_right {a b : Int} (h : 0 < b) : gcdI a b ≤ b := by
 unfold gcdI
 have : Nat.gcd a.toNat b.toNat ≤ b.toNat := Nat.gcd_le_right _ (by omega)
 omega
theorem gcdI_dvd_left {a b : Int} (h : 0 ≤ a) : gcdI a b ∣ a := by
 unfold gcdI
 obtain ⟨n, rfl⟩ := Int.eq_ofNat_of_zero_le h
 exact Int.ofNat_dvd.mpr (by simpa using Nat.gcd_dvd_left n b.toNat)
theorem gcdI_dvd_right {a b : Int} (h : 0 ≤ b) : gcdI a b ∣ b := by
 unfold gcdI
 obtain ⟨n, rfl⟩ := Int.eq_ofNat_of_zero_le h
 exact Int.ofNat_dvd.mpr (by simpa using Nat.gcd_dvd_right a.toNat n)
theorem gcdI_zero_right {a : Int} (h : 0 ≤ a) : gcdI a 0 = a := by unfold gcdI; simp; omega
theorem gcdI_step {a b : Int} (ha : 0 ≤ a) (hb : 0 < b) : gcdI b (Int.tmod a b) = gcdI a b := by
 rw [Int.tmod_eq_emod_of_nonneg ha]
 obtain ⟨n, rfl⟩ := Int.eq_ofNat_of_zero_le ha
 obtain ⟨m, rfl⟩ := Int.eq_ofNat_of_zero_le (Int.le_of_lt hb)
 unfold gcdI
 rw [← Int.natCast_emod]
 simp only [Int.toNat_natCast]
 rw [Nat.gcd_comm m (n % m), ← Nat.gcd_rec m n, Nat.gcd_comm m n]
theorem lowI_den_pos {a b : Int} (hb : 0 < b) : 0 < (lowI a b).2 := by
 unfold lowI
 have h1 := gcdI_pos (a := a) (Or.inr hb)
 have h2 := gcdI_le_right (a := a) hb
 exact Int.ediv_pos_of_pos_of_dvd hb (by omega) (gcdI_dvd_right (by omega))
theorem lowI_same {a b : Int} (ha : 0 ≤ a) (hb : 0 < b) : lowI a b = (a, b) ↔ gcdI a b = 1 := by
 have h1 := gcdI_pos (a := a) (Or.inr hb)
 have h2 := gcdI_dvd_right (a := a) (b := b) (by omega)
 constructor
 ·intro h;have e : b / gcdI a b = b := congrArg Prod.snd h;obtain ⟨c, hc⟩ := h2;have : b / gcdI a b = c := Int.ediv_eq_of_eq_mul_right (by omega) hc;have hcb : c = b := this.symm.trans e;rw [hcb] at hc;have hb' : b * 1 = b * gcdI a b := by rw [Int.mul_one, Int.mul_comm]; exact hc
  exact (Int.eq_of_mul_eq_mul_left (by omega) hb').symm
 ·intro h;unfold lowI
  rw [h]; simp
end Go.Proofs.YtppighiaffppkaaDoor.H
end
