/- What the statement HangRoots needs beyond the common part: walks of the functions that it calls, the plain law, the row and its card, part 1. Condition: the laid table hang.tens, as the card ties it. -/
import Derived.Test.YtppighiaffppkaaDoorZHangRoots0
section
namespace Go.Proofs.YtppighiaffppkaaDoor.H
open Go.RowKit Go.Proofs.YtppighiaffppkaaDoorW.PrintWords Go.Proofs.YtppighiaffppkaaDoorW.PrintLast Go.Proofs.YtppighiaffppkaaDoorW.PrintMore
attribute [local go_sem] max2_int min2_int max_two min_two max_three min_three max_four min_four
set_option linter.unusedVariables false
set_option linter.unusedSimpArgs false
mutual
def cr6_Fullest.l0 : Nat → Int → Int → Int → Int → Option (Int × Int)
 | 0, _, _, _, _ => none
 | k + 1, x0, x4, x340000, x340001 => if x4 ≤ x0 then (cr6_Fullest.l1 k x0 x4 1 x340000 x340001) else (some (x340000, x340001))
def cr6_Fullest.l1 : Nat → Int → Int → Int → Int → Int → Option (Int × Int)
 | 0, _, _, _, _, _ => none
 | k + 1, x0, x4, x5, x340000, x340001 => if x5 ≤ x4 then ((cr6_Divisor.f k x5 x4).bind fun t340 => (if t340 = 1 then ((cr6_Fullness.f k x5 x4).bind fun bt342 => ((cr6_Fullness.f k x340000 x340001).bind fun bt344 => ((cr6_Compare.f bt342.1 bt342.2 bt344.1 bt344.2).bind fun t346 => (if t346 > 0 then (cr6_Fullest.l1 k x0 x4 (wrap64 (x5 + 1)) x5 x4) else (if t346 = 0 then (if (wrap64 (x5 * x340001)) < (wrap64 (x340000 * x4)) then (cr6_Fullest.l1 k x0 x4 (wrap64 (x5 + 1)) x5 x4) else (cr6_Fullest.l1 k x0 x4 (wrap64 (x5 + 1)) x340000 x340001)) else (cr6_Fullest.l1 k x0 x4 (wrap64 (x5 + 1)) x340000 x340001)))))) else (cr6_Fullest.l1 k x0 x4 (wrap64 (x5 + 1)) x340000 x340001))) else (cr6_Fullest.l0 k x0 (wrap64 (x4 + 1)) x340000 x340001)
end
def cr6_Fullest.f (k : Nat) (a0 : Int) : Option (Int × Int) := cr6_Fullest.l0 k a0 1 1 1
set_option maxHeartbeats 8000000 in
set_option maxRecDepth 100000 in
theorem cr6_Fullest.calls (k : Nat) (a0 : Int) (r1 : Int) (r2 : Int) (w : World) (h : cr6_Fullest.f k a0 = some (r1, r2)) :
  Calls Tryd.prog 37 #[.int .i64 a0] w fun e w' => e = .returned (.agg #[.int .i64 r1, .int .i64 r2]) ∧ Below w.heap.size w w' := by
 have hu23 := Tryd.underlying23
 have HB := Z0.mk (Below.refl w.heap.size w)
 have H : (cr6_Fullest.l0 k a0 1 1 1) = some (r1, r2) := h
 clear h
 have H' := Z0.mk H
 clear H
 go_enter Tryd.func37, Tryd.ntmps37
 go_wp2_with (first | ((with_reducible refine gtD (N := 2) rfl ?_); refine bxE ?hg (N := 2) ?hd (cs := #[.int .i64 0, .int .i64 0]) (t := 23) ?hr ?_; (case hd => rfl); (case hg => rfl); (case hr => first | (go_simp; done) | (go_simp; rfl)); intro gb338 hg w2 hbox hb; have n0_ := Z0.mk (bwT (by repeat (first | (with_reducible first | exact HB.out | apply bwA | apply bwN | apply bw1) | exact HB.out)) hb); have n1_ := Z0.mk (hbox); have n2_ := Z0.mk ((by rw [hg]; exact (bwZ (by repeat (first | (with_reducible first | exact HB.out | apply bwA | apply bwN | apply bw1) | exact HB.out))) : w.heap.size ≤ gb338)); have n3_ := Z0.mk ((by rw [hg]; exact (bwZ (by repeat (first | (with_reducible first | exact HB.out | apply bwA | apply bwN | apply bw1) | exact HB.out))) : w.heap.size ≤ gb338)); clear HB; have HB := n0_; have BK338 := n1_; have GW338 := n2_; have GE338 := n3_; clear n0_ n1_ n2_ n3_; clear hb hbox hg) | ((with_reducible refine gtD (N := 3) rfl ?_); refine bxE ?hg (N := 3) ?hd (cs := #[.int .i64 0, .int .i64 0]) (t := 23) ?hr ?_; (case hd => rfl); (case hg => rfl); (case hr => first | (go_simp; done) | (go_simp; rfl)); intro gb339 hg w3 hbox hb; have n0_ := Z0.mk (bkB (g := gb338) (o := .cells #[.int .i64 0, .int .i64 0] 23 (0, 0)) (by (with_reducible repeat (first | refine bkN ?_ _ | refine bkD ?_ | refine bkA ?_ _)); exact BK338.out) hb); have n1_ := Z0.mk (bwT (by repeat (first | (with_reducible first | exact HB.out | apply bwA | apply bwN | apply bw1 | refine bwS ?_ GE338.out) | exact HB.out)) hb); have n2_ := Z0.mk (hbox); have n3_ := Z0.mk ((by rw [hg]; exact (bwZ (by repeat (first | (with_reducible first | exact HB.out | apply bwA | apply bwN | apply bw1 | refine bwS ?_ GE338.out) | exact HB.out))) : w.heap.size ≤ gb339)); have n4_ := Z0.mk ((by rw [hg]; exact (bwZ (by repeat (first | (with_reducible first | exact HB.out | apply bwA | apply bwN | apply bw1 | refine bwS ?_ GE338.out) | exact HB.out))) : w.heap.size ≤ gb339)); have n5_ := Z0.mk ((by rw [hg]; exact Nat.ne_of_lt (blk_lt (g := gb338) (o := .cells #[.int .i64 0, .int .i64 0] 23 (0, 0)) (by (with_reducible repeat (first | refine bkN ?_ _ | refine bkD ?_ | refine bkA ?_ _)); exact BK338.out)) : gb338 ≠ gb339)); have n6_ := Z0.mk ((by rw [hg]; exact Nat.ne_of_gt (blk_lt (g := gb338) (o := .cells #[.int .i64 0, .int .i64 0] 23 (0, 0)) (by (with_reducible repeat (first | refine bkN ?_ _ | refine bkD ?_ | refine bkA ?_ _)); exact BK338.out)) : gb339 ≠ gb338)); clear BK338; clear HB; have BK338 := n0_; have HB := n1_; have BK339 := n2_; have GW339 := n3_; have GE339 := n4_; have NB338_339 := n5_; have NB339_338 := n6_; clear n0_ n1_ n2_ n3_ n4_ n5_ n6_; clear hb hbox hg; have hnb4 := NB339_338.out; have hnc4 := NB338_339.out; have hcz5_0 : w3.cell? ⟨gb339, 0, none⟩ = some (.int .i64 0) := (bkC BK339.out 0).trans rfl; have hcz5_1 : w3.cell? ⟨gb339, 1, none⟩ = some (.int .i64 0) := (bkC BK339.out 1).trans rfl; have hfz5_0 := bkZ BK339.out 0; have hfz5_1 := bkZ BK339.out 1))
 go_loopg [4] k (fun kq v4 w' => ∃ (x4_1 : Int) (x340000_1 : Int) (x340001_1 : Int), v4 = .int .i64 x4_1 ∧ Z0 (cr6_Fullest.l0 kq a0 x4_1 x340000_1 x340001_1 = some (r1, r2)) ∧ Z0 (kq ≤ k) ∧ Z0 (w'.heap[gb338]? = some (.cells #[.int .i64 0, .int .i64 0] 23 (0, 0))) ∧ Z0 (w'.heap[gb339]? = some (.cells #[.int .i64 x340000_1, .int .i64 x340001_1] 23 (0, 0))) ∧ Z0 (Below w.heap.size w w'))
 case atStart => exact ⟨(1), (1), (1), (by first | rfl | (simp; done) | (simp [*]; done)), H', ⟨Nat.le_refl _⟩, ⟨by (with_reducible repeat (first | refine bkN ?_ _ | refine bkD ?_ | refine bkA ?_ _)); refine bkF ?_ NB338_339.out _; (with_reducible repeat (first | refine bkN ?_ _ | refine bkD ?_ | refine bkA ?_ _)); refine bkF ?_ NB338_339.out _; (with_reducible repeat (first | refine bkN ?_ _ | refine bkD ?_ | refine bkA ?_ _)); exact BK338.out⟩, ⟨by (with_reducible repeat (first | refine bkN ?_ _ | refine bkD ?_ | refine bkA ?_ _)); refine bkP (cs := #[.int .i64 1, .int .i64 0]) ?_ 1 _ rfl; (with_reducible repeat (first | refine bkN ?_ _ | refine bkD ?_ | refine bkA ?_ _)); refine bkP (cs := #[.int .i64 0, .int .i64 0]) ?_ 0 _ rfl; (with_reducible repeat (first | refine bkN ?_ _ | refine bkD ?_ | refine bkA ?_ _)); exact BK339.out⟩, ⟨by repeat (first | (with_reducible first | exact HB.out | apply bwA | apply bwN | apply bw1 | refine bwS ?_ GE338.out | refine bwS ?_ GE339.out) | exact HB.out)⟩⟩
 case round =>
  clear H'
  try clear p2
  try clear c3
  try clear c4
  try clear hcz5_0
  try clear hcz5_1
  try clear hfz5_0
  try clear hfz5_1
  obtain ⟨x4_1, x340000_1, x340001_1, rfl, HA, HK1, BK338, BK339, HB⟩ := hrel
  cases gk with
  | zero => exact absurd HA.out (by simp [cr6_Fullest.l0])
  | succ k1 =>
   have H := HA.out
   clear HA
   simp only [cr6_Fullest.l0] at H
   by_cases c6 : x4_1 ≤ a0
   ·rw [if_pos c6] at H
    have c6b0 : decide (x4_1 ≤ a0) = true := decide_eq_true c6
    clear c6
    have H' := Z0.mk H
    clear H
    go_wp2
    go_loopg [5] k1 (fun kq v5 w' => ∃ (x5_2 : Int) (x340000_2 : Int) (x340001_2 : Int), v5 = .int .i64 x5_2 ∧ Z0 (cr6_Fullest.l1 kq a0 x4_1 x5_2 x340000_2 x340001_2 = some (r1, r2)) ∧ Z0 (kq ≤ k1) ∧ Z0 (w'.heap[gb338]? = some (.cells #[.int .i64 0, .int .i64 0] 23 (0, 0))) ∧ Z0 (w'.heap[gb339]? = some (.cells #[.int .i64 x340000_2, .int .i64 x340001_2] 23 (0, 0))) ∧ Z0 (Below w.heap.size w w'))
    case atStart => exact ⟨(1), (x340000_1), (x340001_1), (by first | rfl | (simp; done) | (simp [*]; done)), H', ⟨Nat.le_refl _⟩, ⟨by (with_reducible repeat (first | refine bkN ?_ _ | refine bkD ?_ | refine bkA ?_ _)); exact BK338.out⟩, ⟨by (with_reducible repeat (first | refine bkN ?_ _ | refine bkD ?_ | refine bkA ?_ _)); exact BK339.out⟩, ⟨by repeat (first | (with_reducible first | exact HB.out | apply bwA | apply bwN | apply bw1 | refine bwS ?_ GE338.out | refine bwS ?_ GE339.out) | exact HB.out)⟩⟩
    case round =>
     clear H'
     try clear p2
     try clear c3
     try clear c4
     try clear c6
     try clear c6b0
     try clear hcz5_0
     try clear hcz5_1
     try clear hfz5_0
     try clear hfz5_1
     try clear p2
     obtain ⟨x5_2, x340000_2, x340001_2, rfl, HA, HK2, BK338, BK339, HB⟩ := hrel
     cases gk with
     | zero => exact absurd HA.out (by simp [cr6_Fullest.l1])
     | succ k2 =>
      have H := HA.out
      clear HA
      simp only [cr6_Fullest.l1] at H
      by_cases c7 : x5_2 ≤ x4_1
      ·rw [if_pos c7] at H
       have c7b0 : decide (x5_2 ≤ x4_1) = true := decide_eq_true c7
       clear c7
       replace H := Option.bind_eq_some_iff.mp H
       obtain ⟨t340, A80, H⟩ := H
       replace H : (if t340 = 1 then ((cr6_Fullness.f k2 x5_2 x4_1).bind fun bt342 => ((cr6_Fullness.f k2 x340000_2 x340001_2).bind fun bt344 => ((cr6_Compare.f bt342.1 bt342.2 bt344.1 bt344.2).bind fun t346 => (if t346 > 0 then (cr6_Fullest.l1 k2 a0 x4_1 (wrap64 (x5_2 + 1)) x5_2 x4_1) else (if t346 = 0 then (if (wrap64 (x5_2 * x340001_2)) < (wrap64 (x340000_2 * x4_1)) then (cr6_Fullest.l1 k2 a0 x4_1 (wrap64 (x5_2 + 1)) x5_2 x4_1) else (cr6_Fullest.l1 k2 a0 x4_1 (wrap64 (x5_2 + 1)) x340000_2 x340001_2)) else (cr6_Fullest.l1 k2 a0 x4_1 (wrap64 (x5_2 + 1)) x340000_2 x340001_2)))))) else (cr6_Fullest.l1 k2 a0 x4_1 (wrap64 (x5_2 + 1)) x340000_2 x340001_2)) = some (r1, r2) := H
       have A8 := Z0.mk A80
       clear A80
       by_cases c9 : t340 = 1
       ·rw [if_pos c9] at H
        have c9b0 : (t340 == 1) = true := beq_iff_eq.mpr c9
        have c9b1 : (t340 != 1) = false := bne_eq_false_iff_eq.mpr c9
        clear c9
        replace H := Option.bind_eq_some_iff.mp H
        obtain ⟨⟨t342, t343⟩, A100, H⟩ := H
        replace H : ((cr6_Fullness.f k2 x340000_2 x340001_2).bind fun bt344 => ((cr6_Compare.f t342 t343 bt344.1 bt344.2).bind fun t346 => (if t346 > 0 then (cr6_Fullest.l1 k2 a0 x4_1 (wrap64 (x5_2 + 1)) x5_2 x4_1) else (if t346 = 0 then (if (wrap64 (x5_2 * x340001_2)) < (wrap64 (x340000_2 * x4_1)) then (cr6_Fullest.l1 k2 a0 x4_1 (wrap64 (x5_2 + 1)) x5_2 x4_1) else (cr6_Fullest.l1 k2 a0 x4_1 (wrap64 (x5_2 + 1)) x340000_2 x340001_2)) else (cr6_Fullest.l1 k2 a0 x4_1 (wrap64 (x5_2 + 1)) x340000_2 x340001_2))))) = some (r1, r2) := H
        have A10 := Z0.mk A100
        clear A100
        replace H := Option.bind_eq_some_iff.mp H
        obtain ⟨⟨t344, t345⟩, A110, H⟩ := H
        replace H : ((cr6_Compare.f t342 t343 t344 t345).bind fun t346 => (if t346 > 0 then (cr6_Fullest.l1 k2 a0 x4_1 (wrap64 (x5_2 + 1)) x5_2 x4_1) else (if t346 = 0 then (if (wrap64 (x5_2 * x340001_2)) < (wrap64 (x340000_2 * x4_1)) then (cr6_Fullest.l1 k2 a0 x4_1 (wrap64 (x5_2 + 1)) x5_2 x4_1) else (cr6_Fullest.l1 k2 a0 x4_1 (wrap64 (x5_2 + 1)) x340000_2 x340001_2)) else (cr6_Fullest.l1 k2 a0 x4_1 (wrap64 (x5_2 + 1)) x340000_2 x340001_2)))) = some (r1, r2) := H
        have A11 := Z0.mk A110
        clear A110
        replace H := Option.bind_eq_some_iff.mp H
        obtain ⟨t346, A120, H⟩ := H
        replace H : (if t346 > 0 then (cr6_Fullest.l1 k2 a0 x4_1 (wrap64 (x5_2 + 1)) x5_2 x4_1) else (if t346 = 0 then (if (wrap64 (x5_2 * x340001_2)) < (wrap64 (x340000_2 * x4_1)) then (cr6_Fullest.l1 k2 a0 x4_1 (wrap64 (x5_2 + 1)) x5_2 x4_1) else (cr6_Fullest.l1 k2 a0 x4_1 (wrap64 (x5_2 + 1)) x340000_2 x340001_2)) else (cr6_Fullest.l1 k2 a0 x4_1 (wrap64 (x5_2 + 1)) x340000_2 x340001_2))) = some (r1, r2) := H
        have A12 := Z0.mk A120
        clear A120
        by_cases c13 : t346 > 0
        ·rw [if_pos c13] at H
         have c13b0 : decide (0 < t346) = true := decide_eq_true c13
         clear c13
         have H' := Z0.mk H
         clear H
         try go_wp2_with (first | ((with_reducible refine gtC (f := 66) rfl ?_); refine goesL_ (some 21) rfl rfl Tryd.func66 (by kernel_rfl) rfl #[.int .i64 x5_2, .int .i64 x4_1] rfl (by (try simp only [List.map_toArray, List.map_cons, List.map_nil]); first | done | rfl | (simp only [List.length_drop, List.length_take]; rfl)) ?_; (with_reducible refine (cr6_Divisor.calls k2 x5_2 x4_1 t340 _ A8.out).mono ?_); rintro e w' ⟨rfl, ⟨nd, rfl⟩⟩; refine ⟨_, rfl, ?_⟩; (try (rw [drewN_self wr]; generalize hq_ : World.drewN wr _ = wr; have n0_ : Z0 (wr.heap[gb338]? = some (.cells #[.int .i64 0, .int .i64 0] 23 (0, 0))) := ⟨by rw [← hq_]; exact (by (with_reducible repeat (first | refine bkN ?_ _ | refine bkD ?_ | refine bkA ?_ _)); exact BK338.out)⟩; have n1_ : Z0 (wr.heap[gb339]? = some (.cells #[.int .i64 x340000_2, .int .i64 x340001_2] 23 (0, 0))) := ⟨by rw [← hq_]; exact (by (with_reducible repeat (first | refine bkN ?_ _ | refine bkD ?_ | refine bkA ?_ _)); exact BK339.out)⟩; have n2_ : Z0 (Below w.heap.size w wr) := ⟨by rw [← hq_]; exact (by repeat (first | (with_reducible first | exact HB.out | apply bwA | apply bwN | apply bw1 | refine bwS ?_ GE338.out | refine bwS ?_ GE339.out) | exact HB.out))⟩; clear BK338 BK339 HB hq_; have BK338 := n0_; have BK339 := n1_; have HB := n2_; clear n0_ n1_ n2_))) | ((with_reducible refine gtD (N := 6) rfl ?_); refine bxE ?hg (N := 6) ?hd (cs := #[.int .i64 0, .int .i64 0]) (t := 23) ?hr ?_; (case hd => rfl); (case hg => rfl); (case hr => first | (go_simp; done) | (go_simp; rfl)); intro gb341 hg w14 hbox hb; have n0_ := Z0.mk (bkB (g := gb338) (o := .cells #[.int .i64 0, .int .i64 0] 23 (0, 0)) (by (with_reducible repeat (first | refine bkN ?_ _ | refine bkD ?_ | refine bkA ?_ _)); exact BK338.out) hb); have n1_ := Z0.mk (bkB (g := gb339) (o := .cells #[.int .i64 x340000_2, .int .i64 x340001_2] 23 (0, 0)) (by (with_reducible repeat (first | refine bkN ?_ _ | refine bkD ?_ | refine bkA ?_ _)); exact BK339.out) hb); have n2_ := Z0.mk (bwT (by repeat (first | (with_reducible first | exact HB.out | apply bwA | apply bwN | apply bw1 | refine bwS ?_ GE338.out | refine bwS ?_ GE339.out) | exact HB.out)) hb); have n3_ := Z0.mk (hbox); have n4_ := Z0.mk ((by rw [hg]; exact (bwZ (by repeat (first | (with_reducible first | exact HB.out | apply bwA | apply bwN | apply bw1 | refine bwS ?_ GE338.out | refine bwS ?_ GE339.out) | exact HB.out))) : w.heap.size ≤ gb341)); have n5_ := Z0.mk ((by rw [hg]; exact (bwZ (by repeat (first | (with_reducible first | exact HB.out | apply bwA | apply bwN | apply bw1 | refine bwS ?_ GE338.out | refine bwS ?_ GE339.out) | exact HB.out))) : w.heap.size ≤ gb341)); have n6_ := Z0.mk ((by rw [hg]; exact Nat.ne_of_lt (blk_lt (g := gb338) (o := .cells #[.int .i64 0, .int .i64 0] 23 (0, 0)) (by (with_reducible repeat (first | refine bkN ?_ _ | refine bkD ?_ | refine bkA ?_ _)); exact BK338.out)) : gb338 ≠ gb341)); have n7_ := Z0.mk ((by rw [hg]; exact Nat.ne_of_gt (blk_lt (g := gb338) (o := .cells #[.int .i64 0, .int .i64 0] 23 (0, 0)) (by (with_reducible repeat (first | refine bkN ?_ _ | refine bkD ?_ | refine bkA ?_ _)); exact BK338.out)) : gb341 ≠ gb338)); have n8_ := Z0.mk ((by rw [hg]; exact Nat.ne_of_lt (blk_lt (g := gb339) (o := .cells #[.int .i64 x340000_2, .int .i64 x340001_2] 23 (0, 0)) (by (with_reducible repeat (first | refine bkN ?_ _ | refine bkD ?_ | refine bkA ?_ _)); exact BK339.out)) : gb339 ≠ gb341)); have n9_ := Z0.mk ((by rw [hg]; exact Nat.ne_of_gt (blk_lt (g := gb339) (o := .cells #[.int .i64 x340000_2, .int .i64 x340001_2] 23 (0, 0)) (by (with_reducible repeat (first | refine bkN ?_ _ | refine bkD ?_ | refine bkA ?_ _)); exact BK339.out)) : gb341 ≠ gb339)); clear BK338; clear BK339; clear HB; have BK338 := n0_; have BK339 := n1_; have HB := n2_; have BK341 := n3_; have GW341 := n4_; have GE341 := n5_; have NB338_341 := n6_; have NB341_338 := n7_; have NB339_341 := n8_; have NB341_339 := n9_; clear n0_ n1_ n2_ n3_ n4_ n5_ n6_ n7_ n8_ n9_; clear hb hbox hg; have hnb15 := NB341_338.out; have hnc15 := NB338_341.out; have hnb16 := NB341_339.out; have hnc16 := NB339_341.out; have hcz17_0 : w14.cell? ⟨gb341, 0, none⟩ = some (.int .i64 0) := (bkC BK341.out 0).trans rfl; have hcz17_1 : w14.cell? ⟨gb341, 1, none⟩ = some (.int .i64 0) := (bkC BK341.out 1).trans rfl; have hfz17_0 := bkZ BK341.out 0; have hfz17_1 := bkZ BK341.out 1))
         have n0_ : Z0 (((w14.setCell ⟨gb341, 0, none⟩ (.int .i64 x5_2)).setCell ⟨gb341, 1, none⟩ (.int .i64 x4_1)).heap[gb338]? = some (.cells #[.int .i64 0, .int .i64 0] 23 (0, 0))) := ⟨by (with_reducible repeat (first | refine bkN ?_ _ | refine bkD ?_ | refine bkA ?_ _)); refine bkF ?_ NB338_341.out _; (with_reducible repeat (first | refine bkN ?_ _ | refine bkD ?_ | refine bkA ?_ _)); refine bkF ?_ NB338_341.out _; (with_reducible repeat (first | refine bkN ?_ _ | refine bkD ?_ | refine bkA ?_ _)); exact BK338.out⟩
         have n1_ : Z0 (((w14.setCell ⟨gb341, 0, none⟩ (.int .i64 x5_2)).setCell ⟨gb341, 1, none⟩ (.int .i64 x4_1)).heap[gb339]? = some (.cells #[.int .i64 x340000_2, .int .i64 x340001_2] 23 (0, 0))) := ⟨by (with_reducible repeat (first | refine bkN ?_ _ | refine bkD ?_ | refine bkA ?_ _)); refine bkF ?_ NB339_341.out _; (with_reducible repeat (first | refine bkN ?_ _ | refine bkD ?_ | refine bkA ?_ _)); refine bkF ?_ NB339_341.out _; (with_reducible repeat (first | refine bkN ?_ _ | refine bkD ?_ | refine bkA ?_ _)); exact BK339.out⟩
         have n2_ : Z0 (((w14.setCell ⟨gb341, 0, none⟩ (.int .i64 x5_2)).setCell ⟨gb341, 1, none⟩ (.int .i64 x4_1)).heap[gb341]? = some (.cells #[.int .i64 x5_2, .int .i64 x4_1] 23 (0, 0))) := ⟨by (with_reducible repeat (first | refine bkN ?_ _ | refine bkD ?_ | refine bkA ?_ _)); refine bkP (cs := #[.int .i64 x5_2, .int .i64 0]) ?_ 1 _ rfl; (with_reducible repeat (first | refine bkN ?_ _ | refine bkD ?_ | refine bkA ?_ _)); refine bkP (cs := #[.int .i64 0, .int .i64 0]) ?_ 0 _ rfl; (with_reducible repeat (first | refine bkN ?_ _ | refine bkD ?_ | refine bkA ?_ _)); exact BK341.out⟩
         have n3_ : Z0 (Below w.heap.size w ((w14.setCell ⟨gb341, 0, none⟩ (.int .i64 x5_2)).setCell ⟨gb341, 1, none⟩ (.int .i64 x4_1))) := ⟨by repeat (first | (with_reducible first | exact HB.out | apply bwA | apply bwN | apply bw1 | refine bwS ?_ GE338.out | refine bwS ?_ GE339.out | refine bwS ?_ GE341.out) | exact HB.out)⟩
         (try clear BK338)
         (try clear BK339)
         (try clear BK341)
         (try clear HB)
         generalize ((w14.setCell ⟨gb341, 0, none⟩ (.int .i64 x5_2)).setCell ⟨gb341, 1, none⟩ (.int .i64 x4_1)) = w18 at n0_ n1_ n2_ n3_ ⊢
         have BK338 := n0_
         have BK339 := n1_
         have BK341 := n2_
         have HB := n3_
         clear n0_ n1_ n2_ n3_
         have n0_ := Z0.mk (bkD BK338.out)
         have n1_ := Z0.mk (bkD BK339.out)
         have n2_ := Z0.mk (bkD BK341.out)
         have n3_ := Z0.mk (bw1 HB.out)
         clear BK338
         clear BK339
         clear BK341
         clear HB
         have BK338 := n0_
         have BK339 := n1_
         have BK341 := n2_
         have HB := n3_
         clear n0_ n1_ n2_ n3_
         refine start_ (n := 6) (S := fun w' => w'.cell? ⟨gb341, 0, none⟩ = some (.int .i64 x5_2) ∧ w'.cell? ⟨gb341, 1, none⟩ = some (.int .i64 x4_1) ∧ w'.cell? ⟨gb339, 0, none⟩ = some (.int .i64 x340000_2) ∧ w'.cell? ⟨gb339, 1, none⟩ = some (.int .i64 x340001_2)) (ds := []) #[false, false, false, false, false, false] (by kernel_rfl) rfl rfl ⟨(bkC BK341.out 0).trans rfl, (bkC BK341.out 1).trans rfl, (bkC BK339.out 0).trans rfl, (bkC BK339.out 1).trans rfl⟩ (fun hHd => ?_)
         generalize w18.drew = w19 at BK338 BK339 BK341 HB hHd ⊢
         refine take_ (i := 0) (N := some 26) (v := ?_) (a' := ?_) #[true, false, false, false, false, false] rfl rfl (by kernel_rfl) (fun _ _ _ h => h) (Or.inl ⟨by rfl, ?_⟩) hHd ?_ ?_
         rotate_left
         ·rintro w' ⟨s0, s1, s2, s3⟩
          go_simp
          with_reducible rfl
         rotate_left
         ·simp only [Act.put, List.setIfInBounds_toArray, List.set_cons_zero, List.set_cons_succ, i64_w, i32_w]
          rfl
         refine take_ (i := 2) (N := some 28) (v := ?_) (a' := ?_) #[true, false, true, false, false, false] rfl rfl (by kernel_rfl) (fun _ _ _ h => h) (Or.inl ⟨by rfl, ?_⟩) hHd ?_ ?_
         rotate_left
         ·rintro w' ⟨s0, s1, s2, s3⟩
          go_simp
          with_reducible rfl
         rotate_left
         ·simp only [Act.put, List.setIfInBounds_toArray, List.set_cons_zero, List.set_cons_succ, i64_w, i32_w]
          rfl
         refine one_ (i := 1) (N := some 27) #[true, true, true, false, false, false] rfl rfl (by kernel_rfl) (by decide) (fun K hK => ?_)
         refine goes_ Tryd.func18 (by kernel_rfl) rfl #[.agg #[.int .i64 x5_2, .int .i64 x4_1]] (by rfl) rfl rfl (by (try simp only [List.map_toArray, List.map_cons, List.map_nil]); first | done | rfl | (simp only [List.length_drop, List.length_take]; rfl)) ?_
         with_reducible refine (cr6_Fullness.calls k2 x5_2 x4_1 t342 t343 _ A10.out).mono ?_
         rintro e w20 ⟨rfl, hb⟩
         refine ⟨_, rfl, ?_⟩
         have n0_ := Z0.mk (bkB (g := gb338) (o := .cells #[.int .i64 0, .int .i64 0] 23 (0, 0)) (by (with_reducible repeat (first | refine bkN ?_ _ | refine bkD ?_ | refine bkA ?_ _)); exact BK338.out) hb)
         have n1_ := Z0.mk (bkB (g := gb339) (o := .cells #[.int .i64 x340000_2, .int .i64 x340001_2] 23 (0, 0)) (by (with_reducible repeat (first | refine bkN ?_ _ | refine bkD ?_ | refine bkA ?_ _)); exact BK339.out) hb)
         have n2_ := Z0.mk (bkB (g := gb341) (o := .cells #[.int .i64 x5_2, .int .i64 x4_1] 23 (0, 0)) (by (with_reducible repeat (first | refine bkN ?_ _ | refine bkD ?_ | refine bkA ?_ _)); exact BK341.out) hb)
         have n3_ := Z0.mk (bwT (by repeat (first | (with_reducible first | exact HB.out | apply bwA | apply bwN | apply bw1 | refine bwS ?_ GE338.out | refine bwS ?_ GE339.out | refine bwS ?_ GE341.out) | exact HB.out)) hb)
         clear BK338
         clear BK339
         clear BK341
         clear HB
         have BK338 := n0_
         have BK339 := n1_
         have BK341 := n2_
         have HB := n3_
         clear n0_ n1_ n2_ n3_
         (try clear hb)
         (try clear hb2)
         (try clear hk)
         (try clear hi)
         refine hK.out _ _ ⟨(bkC BK341.out 0).trans rfl, (bkC BK341.out 1).trans rfl, (bkC BK339.out 0).trans rfl, (bkC BK339.out 1).trans rfl⟩ (fun hHd => ?_)
         clear hK K
         refine norm_ (a' := ?_) ?_ ?_
         rotate_left
         ·show Act.put _ (some 27) _ = _
          simp only [Act.put, List.setIfInBounds_toArray, List.set_cons_zero, List.set_cons_succ, i64_w, i32_w]
          rfl
         refine one_ (i := 3) (N := some 29) #[true, true, true, true, false, false] rfl rfl (by kernel_rfl) (by decide) (fun K hK => ?_)
         refine goes_ Tryd.func18 (by kernel_rfl) rfl #[.agg #[.int .i64 x340000_2, .int .i64 x340001_2]] (by rfl) rfl rfl (by (try simp only [List.map_toArray, List.map_cons, List.map_nil]); first | done | rfl | (simp only [List.length_drop, List.length_take]; rfl)) ?_
         with_reducible refine (cr6_Fullness.calls k2 x340000_2 x340001_2 t344 t345 _ A11.out).mono ?_
         rintro e w21 ⟨rfl, hb⟩
         refine ⟨_, rfl, ?_⟩
         have n0_ := Z0.mk (bkB (g := gb338) (o := .cells #[.int .i64 0, .int .i64 0] 23 (0, 0)) (by (with_reducible repeat (first | refine bkN ?_ _ | refine bkD ?_ | refine bkA ?_ _)); exact BK338.out) hb)
         have n1_ := Z0.mk (bkB (g := gb339) (o := .cells #[.int .i64 x340000_2, .int .i64 x340001_2] 23 (0, 0)) (by (with_reducible repeat (first | refine bkN ?_ _ | refine bkD ?_ | refine bkA ?_ _)); exact BK339.out) hb)
         have n2_ := Z0.mk (bkB (g := gb341) (o := .cells #[.int .i64 x5_2, .int .i64 x4_1] 23 (0, 0)) (by (with_reducible repeat (first | refine bkN ?_ _ | refine bkD ?_ | refine bkA ?_ _)); exact BK341.out) hb)
         have n3_ := Z0.mk (bwT (by repeat (first | (with_reducible first | exact HB.out | apply bwA | apply bwN | apply bw1 | refine bwS ?_ GE338.out | refine bwS ?_ GE339.out | refine bwS ?_ GE341.out) | exact HB.out)) hb)
         clear BK338
         clear BK339
         clear BK341
         clear HB
         have BK338 := n0_
         have BK339 := n1_
         have BK341 := n2_
         have HB := n3_
         clear n0_ n1_ n2_ n3_
         (try clear hb)
         (try clear hb2)
         (try clear hk)
         (try clear hi)
         refine hK.out _ _ ⟨(bkC BK341.out 0).trans rfl, (bkC BK341.out 1).trans rfl, (bkC BK339.out 0).trans rfl, (bkC BK339.out 1).trans rfl⟩ (fun hHd => ?_)
         clear hK K
         refine norm_ (a' := ?_) ?_ ?_
         rotate_left
         ·show Act.put _ (some 29) _ = _
          simp only [Act.put, List.setIfInBounds_toArray, List.set_cons_zero, List.set_cons_succ, i64_w, i32_w]
          rfl
         refine one_ (i := 4) (N := some 30) #[true, true, true, true, true, false] rfl rfl (by kernel_rfl) (by decide) (fun K hK => ?_)
         refine goes_ Tryd.func35 (by kernel_rfl) rfl #[.agg #[.int .i64 t342, .int .i64 t343], .agg #[.int .i64 t344, .int .i64 t345]] (by rfl) rfl rfl (by (try simp only [List.map_toArray, List.map_cons, List.map_nil]); first | done | rfl | (simp only [List.length_drop, List.length_take]; rfl)) ?_
         with_reducible refine (cr6_Compare.calls t342 t343 t344 t345 t346 _ A12.out).mono ?_
         rintro e w22 ⟨rfl, hb⟩
         refine ⟨_, rfl, ?_⟩
         have n0_ := Z0.mk (bkB (g := gb338) (o := .cells #[.int .i64 0, .int .i64 0] 23 (0, 0)) (by (with_reducible repeat (first | refine bkN ?_ _ | refine bkD ?_ | refine bkA ?_ _)); exact BK338.out) hb)
         have n1_ := Z0.mk (bkB (g := gb339) (o := .cells #[.int .i64 x340000_2, .int .i64 x340001_2] 23 (0, 0)) (by (with_reducible repeat (first | refine bkN ?_ _ | refine bkD ?_ | refine bkA ?_ _)); exact BK339.out) hb)
         have n2_ := Z0.mk (bkB (g := gb341) (o := .cells #[.int .i64 x5_2, .int .i64 x4_1] 23 (0, 0)) (by (with_reducible repeat (first | refine bkN ?_ _ | refine bkD ?_ | refine bkA ?_ _)); exact BK341.out) hb)
         have n3_ := Z0.mk (bwT (by repeat (first | (with_reducible first | exact HB.out | apply bwA | apply bwN | apply bw1 | refine bwS ?_ GE338.out | refine bwS ?_ GE339.out | refine bwS ?_ GE341.out) | exact HB.out)) hb)
         clear BK338
         clear BK339
         clear BK341
         clear HB
         have BK338 := n0_
         have BK339 := n1_
         have BK341 := n2_
         have HB := n3_
         clear n0_ n1_ n2_ n3_
         (try clear hb)
         (try clear hb2)
         (try clear hk)
         (try clear hi)
         refine hK.out _ _ ⟨(bkC BK341.out 0).trans rfl, (bkC BK341.out 1).trans rfl, (bkC BK339.out 0).trans rfl, (bkC BK339.out 1).trans rfl⟩ (fun hHd => ?_)
         clear hK K
         refine norm_ (a' := ?_) ?_ ?_
         rotate_left
         ·show Act.put _ (some 30) _ = _
          simp only [Act.put, List.setIfInBounds_toArray, List.set_cons_zero, List.set_cons_succ, i64_w, i32_w]
          rfl
         refine pure_ (i := 5) (N := some 7) (v := ?_) (a' := ?_) #[true, true, true, true, true, true] rfl rfl (by kernel_rfl) (fun _ _ _ h => h) (Or.inl ⟨by rfl, ?_⟩) ?_ ?_
         rotate_left
         ·intro w'
          go_simp
          with_reducible rfl
         rotate_left
         ·simp only [Act.put, List.setIfInBounds_toArray, List.set_cons_zero, List.set_cons_succ, i64_w, i32_w]
          rfl
         refine done_ (by kernel_rfl) ?_
         have hcz23_0 : w22.cell? ⟨gb341, 0, none⟩ = some (.int .i64 x5_2) := (bkC BK341.out 0).trans rfl
         have hcz23_1 : w22.cell? ⟨gb341, 1, none⟩ = some (.int .i64 x4_1) := (bkC BK341.out 1).trans rfl
         have hfz23_0 := bkZ BK341.out 0
         have hfz23_1 := bkZ BK341.out 1
         have hnb24 := NB339_338.out
         have hnc24 := NB338_339.out
         have hcz25_0 : w22.cell? ⟨gb339, 0, none⟩ = some (.int .i64 x340000_2) := (bkC BK339.out 0).trans rfl
         have hcz25_1 : w22.cell? ⟨gb339, 1, none⟩ = some (.int .i64 x340001_2) := (bkC BK339.out 1).trans rfl
         have hfz25_0 := bkZ BK339.out 0
         have hfz25_1 := bkZ BK339.out 1
         try go_wp2
         go_roundg k2
         case measure => have := HK1.out; have := HK2.out; omega
         case rel => exact ⟨(wrap64 (x5_2 + 1)), (x5_2), (x4_1), (by first | rfl | (simp; done) | (simp [*]; done)), H', ⟨by have := HK1.out; have := HK2.out; omega⟩, ⟨by (with_reducible repeat (first | refine bkN ?_ _ | refine bkD ?_ | refine bkA ?_ _)); refine bkF ?_ NB338_339.out _; (with_reducible repeat (first | refine bkN ?_ _ | refine bkD ?_ | refine bkA ?_ _)); refine bkF ?_ NB338_339.out _; (with_reducible repeat (first | refine bkN ?_ _ | refine bkD ?_ | refine bkA ?_ _)); exact BK338.out⟩, ⟨by (with_reducible repeat (first | refine bkN ?_ _ | refine bkD ?_ | refine bkA ?_ _)); refine bkP (cs := #[.int .i64 x5_2, .int .i64 x340001_2]) ?_ 1 _ rfl; (with_reducible repeat (first | refine bkN ?_ _ | refine bkD ?_ | refine bkA ?_ _)); refine bkP (cs := #[.int .i64 x340000_2, .int .i64 x340001_2]) ?_ 0 _ rfl; (with_reducible repeat (first | refine bkN ?_ _ | refine bkD ?_ | refine bkA ?_ _)); exact BK339.out⟩, ⟨by repeat (first | (with_reducible first | exact HB.out | apply bwA | apply bwN | apply bw1 | refine bwS ?_ GE338.out | refine bwS ?_ GE339.out | refine bwS ?_ GE341.out) | exact HB.out)⟩⟩
        ·rw [if_neg c13] at H
         have c13b0 : decide (0 < t346) = false := decide_eq_false c13
         clear c13
         by_cases c26 : t346 = 0
         ·rw [if_pos c26] at H
          have c26b0 : (t346 == 0) = true := beq_iff_eq.mpr c26
          have c26b1 : (t346 != 0) = false := bne_eq_false_iff_eq.mpr c26
          clear c26
          by_cases c27 : (wrap64 (x5_2 * x340001_2)) < (wrap64 (x340000_2 * x4_1))
          ·rw [if_pos c27] at H
           have c27b0 : decide ((wrap64 (x5_2 * x340001_2)) < (wrap64 (x340000_2 * x4_1))) = true := decide_eq_true c27
           clear c27
           have H' := Z0.mk H
           clear H
           try go_wp2_with (first | ((with_reducible refine gtC (f := 66) rfl ?_); refine goesL_ (some 21) rfl rfl Tryd.func66 (by kernel_rfl) rfl #[.int .i64 x5_2, .int .i64 x4_1] rfl (by (try simp only [List.map_toArray, List.map_cons, List.map_nil]); first | done | rfl | (simp only [List.length_drop, List.length_take]; rfl)) ?_; (with_reducible refine (cr6_Divisor.calls k2 x5_2 x4_1 t340 _ A8.out).mono ?_); rintro e w' ⟨rfl, ⟨nd, rfl⟩⟩; refine ⟨_, rfl, ?_⟩; (try (rw [drewN_self wr]; generalize hq_ : World.drewN wr _ = wr; have n0_ : Z0 (wr.heap[gb338]? = some (.cells #[.int .i64 0, .int .i64 0] 23 (0, 0))) := ⟨by rw [← hq_]; exact (by (with_reducible repeat (first | refine bkN ?_ _ | refine bkD ?_ | refine bkA ?_ _)); exact BK338.out)⟩; have n1_ : Z0 (wr.heap[gb339]? = some (.cells #[.int .i64 x340000_2, .int .i64 x340001_2] 23 (0, 0))) := ⟨by rw [← hq_]; exact (by (with_reducible repeat (first | refine bkN ?_ _ | refine bkD ?_ | refine bkA ?_ _)); exact BK339.out)⟩; have n2_ : Z0 (Below w.heap.size w wr) := ⟨by rw [← hq_]; exact (by repeat (first | (with_reducible first | exact HB.out | apply bwA | apply bwN | apply bw1 | refine bwS ?_ GE338.out | refine bwS ?_ GE339.out) | exact HB.out))⟩; clear BK338 BK339 HB hq_; have BK338 := n0_; have BK339 := n1_; have HB := n2_; clear n0_ n1_ n2_))) | ((with_reducible refine gtD (N := 6) rfl ?_); refine bxE ?hg (N := 6) ?hd (cs := #[.int .i64 0, .int .i64 0]) (t := 23) ?hr ?_; (case hd => rfl); (case hg => rfl); (case hr => first | (go_simp; done) | (go_simp; rfl)); intro gb341 hg w28 hbox hb; have n0_ := Z0.mk (bkB (g := gb338) (o := .cells #[.int .i64 0, .int .i64 0] 23 (0, 0)) (by (with_reducible repeat (first | refine bkN ?_ _ | refine bkD ?_ | refine bkA ?_ _)); exact BK338.out) hb); have n1_ := Z0.mk (bkB (g := gb339) (o := .cells #[.int .i64 x340000_2, .int .i64 x340001_2] 23 (0, 0)) (by (with_reducible repeat (first | refine bkN ?_ _ | refine bkD ?_ | refine bkA ?_ _)); exact BK339.out) hb); have n2_ := Z0.mk (bwT (by repeat (first | (with_reducible first | exact HB.out | apply bwA | apply bwN | apply bw1 | refine bwS ?_ GE338.out | refine bwS ?_ GE339.out) | exact HB.out)) hb); have n3_ := Z0.mk (hbox); have n4_ := Z0.mk ((by rw [hg]; exact (bwZ (by repeat (first | (with_reducible first | exact HB.out | apply bwA | apply bwN | apply bw1 | refine bwS ?_ GE338.out | refine bwS ?_ GE339.out) | exact HB.out))) : w.heap.size ≤ gb341)); have n5_ := Z0.mk ((by rw [hg]; exact (bwZ (by repeat (first | (with_reducible first | exact HB.out | apply bwA | apply bwN | apply bw1 | refine bwS ?_ GE338.out | refine bwS ?_ GE339.out) | exact HB.out))) : w.heap.size ≤ gb341)); have n6_ := Z0.mk ((by rw [hg]; exact Nat.ne_of_lt (blk_lt (g := gb338) (o := .cells #[.int .i64 0, .int .i64 0] 23 (0, 0)) (by (with_reducible repeat (first | refine bkN ?_ _ | refine bkD ?_ | refine bkA ?_ _)); exact BK338.out)) : gb338 ≠ gb341)); have n7_ := Z0.mk ((by rw [hg]; exact Nat.ne_of_gt (blk_lt (g := gb338) (o := .cells #[.int .i64 0, .int .i64 0] 23 (0, 0)) (by (with_reducible repeat (first | refine bkN ?_ _ | refine bkD ?_ | refine bkA ?_ _)); exact BK338.out)) : gb341 ≠ gb338)); have n8_ := Z0.mk ((by rw [hg]; exact Nat.ne_of_lt (blk_lt (g := gb339) (o := .cells #[.int .i64 x340000_2, .int .i64 x340001_2] 23 (0, 0)) (by (with_reducible repeat (first | refine bkN ?_ _ | refine bkD ?_ | refine bkA ?_ _)); exact BK339.out)) : gb339 ≠ gb341)); have n9_ := Z0.mk ((by rw [hg]; exact Nat.ne_of_gt (blk_lt (g := gb339) (o := .cells #[.int .i64 x340000_2, .int .i64 x340001_2] 23 (0, 0)) (by (with_reducible repeat (first | refine bkN ?_ _ | refine bkD ?_ | refine bkA ?_ _)); exact BK339.out)) : gb341 ≠ gb339)); clear BK338; clear BK339; clear HB; have BK338 := n0_; have BK339 := n1_; have HB := n2_; have BK341 := n3_; have GW341 := n4_; have GE341 := n5_; have NB338_341 := n6_; have NB341_338 := n7_; have NB339_341 := n8_; have NB341_339 := n9_; clear n0_ n1_ n2_ n3_ n4_ n5_ n6_ n7_ n8_ n9_; clear hb hbox hg; have hnb29 := NB341_338.out; have hnc29 := NB338_341.out; have hnb30 := NB341_339.out; have hnc30 := NB339_341.out; have hcz31_0 : w28.cell? ⟨gb341, 0, none⟩ = some (.int .i64 0) := (bkC BK341.out 0).trans rfl; have hcz31_1 : w28.cell? ⟨gb341, 1, none⟩ = some (.int .i64 0) := (bkC BK341.out 1).trans rfl; have hfz31_0 := bkZ BK341.out 0; have hfz31_1 := bkZ BK341.out 1))
           have n0_ : Z0 (((w28.setCell ⟨gb341, 0, none⟩ (.int .i64 x5_2)).setCell ⟨gb341, 1, none⟩ (.int .i64 x4_1)).heap[gb338]? = some (.cells #[.int .i64 0, .int .i64 0] 23 (0, 0))) := ⟨by (with_reducible repeat (first | refine bkN ?_ _ | refine bkD ?_ | refine bkA ?_ _)); refine bkF ?_ NB338_341.out _; (with_reducible repeat (first | refine bkN ?_ _ | refine bkD ?_ | refine bkA ?_ _)); refine bkF ?_ NB338_341.out _; (with_reducible repeat (first | refine bkN ?_ _ | refine bkD ?_ | refine bkA ?_ _)); exact BK338.out⟩
           have n1_ : Z0 (((w28.setCell ⟨gb341, 0, none⟩ (.int .i64 x5_2)).setCell ⟨gb341, 1, none⟩ (.int .i64 x4_1)).heap[gb339]? = some (.cells #[.int .i64 x340000_2, .int .i64 x340001_2] 23 (0, 0))) := ⟨by (with_reducible repeat (first | refine bkN ?_ _ | refine bkD ?_ | refine bkA ?_ _)); refine bkF ?_ NB339_341.out _; (with_reducible repeat (first | refine bkN ?_ _ | refine bkD ?_ | refine bkA ?_ _)); refine bkF ?_ NB339_341.out _; (with_reducible repeat (first | refine bkN ?_ _ | refine bkD ?_ | refine bkA ?_ _)); exact BK339.out⟩
           have n2_ : Z0 (((w28.setCell ⟨gb341, 0, none⟩ (.int .i64 x5_2)).setCell ⟨gb341, 1, none⟩ (.int .i64 x4_1)).heap[gb341]? = some (.cells #[.int .i64 x5_2, .int .i64 x4_1] 23 (0, 0))) := ⟨by (with_reducible repeat (first | refine bkN ?_ _ | refine bkD ?_ | refine bkA ?_ _)); refine bkP (cs := #[.int .i64 x5_2, .int .i64 0]) ?_ 1 _ rfl; (with_reducible repeat (first | refine bkN ?_ _ | refine bkD ?_ | refine bkA ?_ _)); refine bkP (cs := #[.int .i64 0, .int .i64 0]) ?_ 0 _ rfl; (with_reducible repeat (first | refine bkN ?_ _ | refine bkD ?_ | refine bkA ?_ _)); exact BK341.out⟩
           have n3_ : Z0 (Below w.heap.size w ((w28.setCell ⟨gb341, 0, none⟩ (.int .i64 x5_2)).setCell ⟨gb341, 1, none⟩ (.int .i64 x4_1))) := ⟨by repeat (first | (with_reducible first | exact HB.out | apply bwA | apply bwN | apply bw1 | refine bwS ?_ GE338.out | refine bwS ?_ GE339.out | refine bwS ?_ GE341.out) | exact HB.out)⟩
           (try clear BK338)
           (try clear BK339)
           (try clear BK341)
           (try clear HB)
           generalize ((w28.setCell ⟨gb341, 0, none⟩ (.int .i64 x5_2)).setCell ⟨gb341, 1, none⟩ (.int .i64 x4_1)) = w32 at n0_ n1_ n2_ n3_ ⊢
           have BK338 := n0_
           have BK339 := n1_
           have BK341 := n2_
           have HB := n3_
           clear n0_ n1_ n2_ n3_
           have n0_ := Z0.mk (bkD BK338.out)
           have n1_ := Z0.mk (bkD BK339.out)
           have n2_ := Z0.mk (bkD BK341.out)
           have n3_ := Z0.mk (bw1 HB.out)
           clear BK338
           clear BK339
           clear BK341
           clear HB
           have BK338 := n0_
           have BK339 := n1_
           have BK341 := n2_
           have HB := n3_
           clear n0_ n1_ n2_ n3_
           refine start_ (n := 6) (S := fun w' => w'.cell? ⟨gb341, 0, none⟩ = some (.int .i64 x5_2) ∧ w'.cell? ⟨gb341, 1, none⟩ = some (.int .i64 x4_1) ∧ w'.cell? ⟨gb339, 0, none⟩ = some (.int .i64 x340000_2) ∧ w'.cell? ⟨gb339, 1, none⟩ = some (.int .i64 x340001_2)) (ds := []) #[false, false, false, false, false, false] (by kernel_rfl) rfl rfl ⟨(bkC BK341.out 0).trans rfl, (bkC BK341.out 1).trans rfl, (bkC BK339.out 0).trans rfl, (bkC BK339.out 1).trans rfl⟩ (fun hHd => ?_)
           generalize w32.drew = w33 at BK338 BK339 BK341 HB hHd ⊢
           refine take_ (i := 0) (N := some 26) (v := ?_) (a' := ?_) #[true, false, false, false, false, false] rfl rfl (by kernel_rfl) (fun _ _ _ h => h) (Or.inl ⟨by rfl, ?_⟩) hHd ?_ ?_
           rotate_left
           ·rintro w' ⟨s0, s1, s2, s3⟩
            go_simp
            with_reducible rfl
           rotate_left
           ·simp only [Act.put, List.setIfInBounds_toArray, List.set_cons_zero, List.set_cons_succ, i64_w, i32_w]
            rfl
           refine take_ (i := 2) (N := some 28) (v := ?_) (a' := ?_) #[true, false, true, false, false, false] rfl rfl (by kernel_rfl) (fun _ _ _ h => h) (Or.inl ⟨by rfl, ?_⟩) hHd ?_ ?_
           rotate_left
           ·rintro w' ⟨s0, s1, s2, s3⟩
            go_simp
            with_reducible rfl
           rotate_left
           ·simp only [Act.put, List.setIfInBounds_toArray, List.set_cons_zero, List.set_cons_succ, i64_w, i32_w]
            rfl
           refine one_ (i := 1) (N := some 27) #[true, true, true, false, false, false] rfl rfl (by kernel_rfl) (by decide) (fun K hK => ?_)
           refine goes_ Tryd.func18 (by kernel_rfl) rfl #[.agg #[.int .i64 x5_2, .int .i64 x4_1]] (by rfl) rfl rfl (by (try simp only [List.map_toArray, List.map_cons, List.map_nil]); first | done | rfl | (simp only [List.length_drop, List.length_take]; rfl)) ?_
           with_reducible refine (cr6_Fullness.calls k2 x5_2 x4_1 t342 t343 _ A10.out).mono ?_
           rintro e w34 ⟨rfl, hb⟩
           refine ⟨_, rfl, ?_⟩
           have n0_ := Z0.mk (bkB (g := gb338) (o := .cells #[.int .i64 0, .int .i64 0] 23 (0, 0)) (by (with_reducible repeat (first | refine bkN ?_ _ | refine bkD ?_ | refine bkA ?_ _)); exact BK338.out) hb)
           have n1_ := Z0.mk (bkB (g := gb339) (o := .cells #[.int .i64 x340000_2, .int .i64 x340001_2] 23 (0, 0)) (by (with_reducible repeat (first | refine bkN ?_ _ | refine bkD ?_ | refine bkA ?_ _)); exact BK339.out) hb)
           have n2_ := Z0.mk (bkB (g := gb341) (o := .cells #[.int .i64 x5_2, .int .i64 x4_1] 23 (0, 0)) (by (with_reducible repeat (first | refine bkN ?_ _ | refine bkD ?_ | refine bkA ?_ _)); exact BK341.out) hb)
           have n3_ := Z0.mk (bwT (by repeat (first | (with_reducible first | exact HB.out | apply bwA | apply bwN | apply bw1 | refine bwS ?_ GE338.out | refine bwS ?_ GE339.out | refine bwS ?_ GE341.out) | exact HB.out)) hb)
           clear BK338
           clear BK339
           clear BK341
           clear HB
           have BK338 := n0_
           have BK339 := n1_
           have BK341 := n2_
           have HB := n3_
           clear n0_ n1_ n2_ n3_
           (try clear hb)
           (try clear hb2)
           (try clear hk)
           (try clear hi)
           refine hK.out _ _ ⟨(bkC BK341.out 0).trans rfl, (bkC BK341.out 1).trans rfl, (bkC BK339.out 0).trans rfl, (bkC BK339.out 1).trans rfl⟩ (fun hHd => ?_)
           clear hK K
           refine norm_ (a' := ?_) ?_ ?_
           rotate_left
           ·show Act.put _ (some 27) _ = _
            simp only [Act.put, List.setIfInBounds_toArray, List.set_cons_zero, List.set_cons_succ, i64_w, i32_w]
            rfl
           refine one_ (i := 3) (N := some 29) #[true, true, true, true, false, false] rfl rfl (by kernel_rfl) (by decide) (fun K hK => ?_)
           refine goes_ Tryd.func18 (by kernel_rfl) rfl #[.agg #[.int .i64 x340000_2, .int .i64 x340001_2]] (by rfl) rfl rfl (by (try simp only [List.map_toArray, List.map_cons, List.map_nil]); first | done | rfl | (simp only [List.length_drop, List.length_take]; rfl)) ?_
           with_reducible refine (cr6_Fullness.calls k2 x340000_2 x340001_2 t344 t345 _ A11.out).mono ?_
           rintro e w35 ⟨rfl, hb⟩
           refine ⟨_, rfl, ?_⟩
           have n0_ := Z0.mk (bkB (g := gb338) (o := .cells #[.int .i64 0, .int .i64 0] 23 (0, 0)) (by (with_reducible repeat (first | refine bkN ?_ _ | refine bkD ?_ | refine bkA ?_ _)); exact BK338.out) hb)
           have n1_ := Z0.mk (bkB (g := gb339) (o := .cells #[.int .i64 x340000_2, .int .i64 x340001_2] 23 (0, 0)) (by (with_reducible repeat (first | refine bkN ?_ _ | refine bkD ?_ | refine bkA ?_ _)); exact BK339.out) hb)
           have n2_ := Z0.mk (bkB (g := gb341) (o := .cells #[.int .i64 x5_2, .int .i64 x4_1] 23 (0, 0)) (by (with_reducible repeat (first | refine bkN ?_ _ | refine bkD ?_ | refine bkA ?_ _)); exact BK341.out) hb)
           have n3_ := Z0.mk (bwT (by repeat (first | (with_reducible first | exact HB.out | apply bwA | apply bwN | apply bw1 | refine bwS ?_ GE338.out | refine bwS ?_ GE339.out | refine bwS ?_ GE341.out) | exact HB.out)) hb)
           clear BK338
           clear BK339
           clear BK341
           clear HB
           have BK338 := n0_
           have BK339 := n1_
           have BK341 := n2_
           have HB := n3_
           clear n0_ n1_ n2_ n3_
           (try clear hb)
           (try clear hb2)
           (try clear hk)
           (try clear hi)
           refine hK.out _ _ ⟨(bkC BK341.out 0).trans rfl, (bkC BK341.out 1).trans rfl, (bkC BK339.out 0).trans rfl, (bkC BK339.out 1).trans rfl⟩ (fun hHd => ?_)
           clear hK K
           refine norm_ (a' := ?_) ?_ ?_
           rotate_left
           ·show Act.put _ (some 29) _ = _
            simp only [Act.put, List.setIfInBounds_toArray, List.set_cons_zero, List.set_cons_succ, i64_w, i32_w]
            rfl
           refine one_ (i := 4) (N := some 30) #[true, true, true, true, true, false] rfl rfl (by kernel_rfl) (by decide) (fun K hK => ?_)
           refine goes_ Tryd.func35 (by kernel_rfl) rfl #[.agg #[.int .i64 t342, .int .i64 t343], .agg #[.int .i64 t344, .int .i64 t345]] (by rfl) rfl rfl (by (try simp only [List.map_toArray, List.map_cons, List.map_nil]); first | done | rfl | (simp only [List.length_drop, List.length_take]; rfl)) ?_
           with_reducible refine (cr6_Compare.calls t342 t343 t344 t345 t346 _ A12.out).mono ?_
           rintro e w36 ⟨rfl, hb⟩
           refine ⟨_, rfl, ?_⟩
           have n0_ := Z0.mk (bkB (g := gb338) (o := .cells #[.int .i64 0, .int .i64 0] 23 (0, 0)) (by (with_reducible repeat (first | refine bkN ?_ _ | refine bkD ?_ | refine bkA ?_ _)); exact BK338.out) hb)
           have n1_ := Z0.mk (bkB (g := gb339) (o := .cells #[.int .i64 x340000_2, .int .i64 x340001_2] 23 (0, 0)) (by (with_reducible repeat (first | refine bkN ?_ _ | refine bkD ?_ | refine bkA ?_ _)); exact BK339.out) hb)
           have n2_ := Z0.mk (bkB (g := gb341) (o := .cells #[.int .i64 x5_2, .int .i64 x4_1] 23 (0, 0)) (by (with_reducible repeat (first | refine bkN ?_ _ | refine bkD ?_ | refine bkA ?_ _)); exact BK341.out) hb)
           have n3_ := Z0.mk (bwT (by repeat (first | (with_reducible first | exact HB.out | apply bwA | apply bwN | apply bw1 | refine bwS ?_ GE338.out | refine bwS ?_ GE339.out | refine bwS ?_ GE341.out) | exact HB.out)) hb)
           clear BK338
           clear BK339
           clear BK341
           clear HB
           have BK338 := n0_
           have BK339 := n1_
           have BK341 := n2_
           have HB := n3_
           clear n0_ n1_ n2_ n3_
           (try clear hb)
           (try clear hb2)
           (try clear hk)
           (try clear hi)
           refine hK.out _ _ ⟨(bkC BK341.out 0).trans rfl, (bkC BK341.out 1).trans rfl, (bkC BK339.out 0).trans rfl, (bkC BK339.out 1).trans rfl⟩ (fun hHd => ?_)
           clear hK K
           refine norm_ (a' := ?_) ?_ ?_
           rotate_left
           ·show Act.put _ (some 30) _ = _
            simp only [Act.put, List.setIfInBounds_toArray, List.set_cons_zero, List.set_cons_succ, i64_w, i32_w]
            rfl
           refine pure_ (i := 5) (N := some 7) (v := ?_) (a' := ?_) #[true, true, true, true, true, true] rfl rfl (by kernel_rfl) (fun _ _ _ h => h) (Or.inl ⟨by rfl, ?_⟩) ?_ ?_
           rotate_left
           ·intro w'
            go_simp
            with_reducible rfl
           rotate_left
           ·simp only [Act.put, List.setIfInBounds_toArray, List.set_cons_zero, List.set_cons_succ, i64_w, i32_w]
            rfl
           refine done_ (by kernel_rfl) ?_
           have hnb37 := NB339_338.out
           have hnc37 := NB338_339.out
           have hcz38_0 : w36.cell? ⟨gb339, 0, none⟩ = some (.int .i64 x340000_2) := (bkC BK339.out 0).trans rfl
           have hcz38_1 : w36.cell? ⟨gb339, 1, none⟩ = some (.int .i64 x340001_2) := (bkC BK339.out 1).trans rfl
           have hfz38_0 := bkZ BK339.out 0
           have hfz38_1 := bkZ BK339.out 1
           have hcz39_0 : w36.cell? ⟨gb341, 0, none⟩ = some (.int .i64 x5_2) := (bkC BK341.out 0).trans rfl
           have hcz39_1 : w36.cell? ⟨gb341, 1, none⟩ = some (.int .i64 x4_1) := (bkC BK341.out 1).trans rfl
           have hfz39_0 := bkZ BK341.out 0
           have hfz39_1 := bkZ BK341.out 1
           try go_wp2
           go_roundg k2
           case measure => have := HK1.out; have := HK2.out; omega
           case rel => exact ⟨(wrap64 (x5_2 + 1)), (x5_2), (x4_1), (by first | rfl | (simp; done) | (simp [*]; done)), H', ⟨by have := HK1.out; have := HK2.out; omega⟩, ⟨by (with_reducible repeat (first | refine bkN ?_ _ | refine bkD ?_ | refine bkA ?_ _)); refine bkF ?_ NB338_339.out _; (with_reducible repeat (first | refine bkN ?_ _ | refine bkD ?_ | refine bkA ?_ _)); refine bkF ?_ NB338_339.out _; (with_reducible repeat (first | refine bkN ?_ _ | refine bkD ?_ | refine bkA ?_ _)); exact BK338.out⟩, ⟨by (with_reducible repeat (first | refine bkN ?_ _ | refine bkD ?_ | refine bkA ?_ _)); refine bkP (cs := #[.int .i64 x5_2, .int .i64 x340001_2]) ?_ 1 _ rfl; (with_reducible repeat (first | refine bkN ?_ _ | refine bkD ?_ | refine bkA ?_ _)); refine bkP (cs := #[.int .i64 x340000_2, .int .i64 x340001_2]) ?_ 0 _ rfl; (with_reducible repeat (first | refine bkN ?_ _ | refine bkD ?_ | refine bkA ?_ _)); exact BK339.out⟩, ⟨by repeat (first | (with_reducible first | exact HB.out | apply bwA | apply bwN | apply bw1 | refine bwS ?_ GE338.out | refine bwS ?_ GE339.out | refine bwS ?_ GE341.out) | exact HB.out)⟩⟩
          ·rw [if_neg c27] at H
           have c27b0 : decide ((wrap64 (x5_2 * x340001_2)) < (wrap64 (x340000_2 * x4_1))) = false := decide_eq_false c27
           clear c27
           have H' := Z0.mk H
           clear H
           try go_wp2_with (first | ((with_reducible refine gtC (f := 66) rfl ?_); refine goesL_ (some 21) rfl rfl Tryd.func66 (by kernel_rfl) rfl #[.int .i64 x5_2, .int .i64 x4_1] rfl (by (try simp only [List.map_toArray, List.map_cons, List.map_nil]); first | done | rfl | (simp only [List.length_drop, List.length_take]; rfl)) ?_; (with_reducible refine (cr6_Divisor.calls k2 x5_2 x4_1 t340 _ A8.out).mono ?_); rintro e w' ⟨rfl, ⟨nd, rfl⟩⟩; refine ⟨_, rfl, ?_⟩; (try (rw [drewN_self wr]; generalize hq_ : World.drewN wr _ = wr; have n0_ : Z0 (wr.heap[gb338]? = some (.cells #[.int .i64 0, .int .i64 0] 23 (0, 0))) := ⟨by rw [← hq_]; exact (by (with_reducible repeat (first | refine bkN ?_ _ | refine bkD ?_ | refine bkA ?_ _)); exact BK338.out)⟩; have n1_ : Z0 (wr.heap[gb339]? = some (.cells #[.int .i64 x340000_2, .int .i64 x340001_2] 23 (0, 0))) := ⟨by rw [← hq_]; exact (by (with_reducible repeat (first | refine bkN ?_ _ | refine bkD ?_ | refine bkA ?_ _)); exact BK339.out)⟩; have n2_ : Z0 (Below w.heap.size w wr) := ⟨by rw [← hq_]; exact (by repeat (first | (with_reducible first | exact HB.out | apply bwA | apply bwN | apply bw1 | refine bwS ?_ GE338.out | refine bwS ?_ GE339.out) | exact HB.out))⟩; clear BK338 BK339 HB hq_; have BK338 := n0_; have BK339 := n1_; have HB := n2_; clear n0_ n1_ n2_))) | ((with_reducible refine gtD (N := 6) rfl ?_); refine bxE ?hg (N := 6) ?hd (cs := #[.int .i64 0, .int .i64 0]) (t := 23) ?hr ?_; (case hd => rfl); (case hg => rfl); (case hr => first | (go_simp; done) | (go_simp; rfl)); intro gb341 hg w40 hbox hb; have n0_ := Z0.mk (bkB (g := gb338) (o := .cells #[.int .i64 0, .int .i64 0] 23 (0, 0)) (by (with_reducible repeat (first | refine bkN ?_ _ | refine bkD ?_ | refine bkA ?_ _)); exact BK338.out) hb); have n1_ := Z0.mk (bkB (g := gb339) (o := .cells #[.int .i64 x340000_2, .int .i64 x340001_2] 23 (0, 0)) (by (with_reducible repeat (first | refine bkN ?_ _ | refine bkD ?_ | refine bkA ?_ _)); exact BK339.out) hb); have n2_ := Z0.mk (bwT (by repeat (first | (with_reducible first | exact HB.out | apply bwA | apply bwN | apply bw1 | refine bwS ?_ GE338.out | refine bwS ?_ GE339.out) | exact HB.out)) hb); have n3_ := Z0.mk (hbox); have n4_ := Z0.mk ((by rw [hg]; exact (bwZ (by repeat (first | (with_reducible first | exact HB.out | apply bwA | apply bwN | apply bw1 | refine bwS ?_ GE338.out | refine bwS ?_ GE339.out) | exact HB.out))) : w.heap.size ≤ gb341)); have n5_ := Z0.mk ((by rw [hg]; exact (bwZ (by repeat (first | (with_reducible first | exact HB.out | apply bwA | apply bwN | apply bw1 | refine bwS ?_ GE338.out | refine bwS ?_ GE339.out) | exact HB.out))) : w.heap.size ≤ gb341)); have n6_ := Z0.mk ((by rw [hg]; exact Nat.ne_of_lt (blk_lt (g := gb338) (o := .cells #[.int .i64 0, .int .i64 0] 23 (0, 0)) (by (with_reducible repeat (first | refine bkN ?_ _ | refine bkD ?_ | refine bkA ?_ _)); exact BK338.out)) : gb338 ≠ gb341)); have n7_ := Z0.mk ((by rw [hg]; exact Nat.ne_of_gt (blk_lt (g := gb338) (o := .cells #[.int .i64 0, .int .i64 0] 23 (0, 0)) (by (with_reducible repeat (first | refine bkN ?_ _ | refine bkD ?_ | refine bkA ?_ _)); exact BK338.out)) : gb341 ≠ gb338)); have n8_ := Z0.mk ((by rw [hg]; exact Nat.ne_of_lt (blk_lt (g := gb339) (o := .cells #[.int .i64 x340000_2, .int .i64 x340001_2] 23 (0, 0)) (by (with_reducible repeat (first | refine bkN ?_ _ | refine bkD ?_ | refine bkA ?_ _)); exact BK339.out)) : gb339 ≠ gb341)); have n9_ := Z0.mk ((by rw [hg]; exact Nat.ne_of_gt (blk_lt (g := gb339) (o := .cells #[.int .i64 x340000_2, .int .i64 x340001_2] 23 (0, 0)) (by (with_reducible repeat (first | refine bkN ?_ _ | refine bkD ?_ | refine bkA ?_ _)); exact BK339.out)) : gb341 ≠ gb339)); clear BK338; clear BK339; clear HB; have BK338 := n0_; have BK339 := n1_; have HB := n2_; have BK341 := n3_; have GW341 := n4_; have GE341 := n5_; have NB338_341 := n6_; have NB341_338 := n7_; have NB339_341 := n8_; have NB341_339 := n9_; clear n0_ n1_ n2_ n3_ n4_ n5_ n6_ n7_ n8_ n9_; clear hb hbox hg; have hnb41 := NB341_338.out; have hnc41 := NB338_341.out; have hnb42 := NB341_339.out; have hnc42 := NB339_341.out; have hcz43_0 : w40.cell? ⟨gb341, 0, none⟩ = some (.int .i64 0) := (bkC BK341.out 0).trans rfl; have hcz43_1 : w40.cell? ⟨gb341, 1, none⟩ = some (.int .i64 0) := (bkC BK341.out 1).trans rfl; have hfz43_0 := bkZ BK341.out 0; have hfz43_1 := bkZ BK341.out 1))
           have n0_ : Z0 (((w40.setCell ⟨gb341, 0, none⟩ (.int .i64 x5_2)).setCell ⟨gb341, 1, none⟩ (.int .i64 x4_1)).heap[gb338]? = some (.cells #[.int .i64 0, .int .i64 0] 23 (0, 0))) := ⟨by (with_reducible repeat (first | refine bkN ?_ _ | refine bkD ?_ | refine bkA ?_ _)); refine bkF ?_ NB338_341.out _; (with_reducible repeat (first | refine bkN ?_ _ | refine bkD ?_ | refine bkA ?_ _)); refine bkF ?_ NB338_341.out _; (with_reducible repeat (first | refine bkN ?_ _ | refine bkD ?_ | refine bkA ?_ _)); exact BK338.out⟩
           have n1_ : Z0 (((w40.setCell ⟨gb341, 0, none⟩ (.int .i64 x5_2)).setCell ⟨gb341, 1, none⟩ (.int .i64 x4_1)).heap[gb339]? = some (.cells #[.int .i64 x340000_2, .int .i64 x340001_2] 23 (0, 0))) := ⟨by (with_reducible repeat (first | refine bkN ?_ _ | refine bkD ?_ | refine bkA ?_ _)); refine bkF ?_ NB339_341.out _; (with_reducible repeat (first | refine bkN ?_ _ | refine bkD ?_ | refine bkA ?_ _)); refine bkF ?_ NB339_341.out _; (with_reducible repeat (first | refine bkN ?_ _ | refine bkD ?_ | refine bkA ?_ _)); exact BK339.out⟩
           have n2_ : Z0 (((w40.setCell ⟨gb341, 0, none⟩ (.int .i64 x5_2)).setCell ⟨gb341, 1, none⟩ (.int .i64 x4_1)).heap[gb341]? = some (.cells #[.int .i64 x5_2, .int .i64 x4_1] 23 (0, 0))) := ⟨by (with_reducible repeat (first | refine bkN ?_ _ | refine bkD ?_ | refine bkA ?_ _)); refine bkP (cs := #[.int .i64 x5_2, .int .i64 0]) ?_ 1 _ rfl; (with_reducible repeat (first | refine bkN ?_ _ | refine bkD ?_ | refine bkA ?_ _)); refine bkP (cs := #[.int .i64 0, .int .i64 0]) ?_ 0 _ rfl; (with_reducible repeat (first | refine bkN ?_ _ | refine bkD ?_ | refine bkA ?_ _)); exact BK341.out⟩
           have n3_ : Z0 (Below w.heap.size w ((w40.setCell ⟨gb341, 0, none⟩ (.int .i64 x5_2)).setCell ⟨gb341, 1, none⟩ (.int .i64 x4_1))) := ⟨by repeat (first | (with_reducible first | exact HB.out | apply bwA | apply bwN | apply bw1 | refine bwS ?_ GE338.out | refine bwS ?_ GE339.out | refine bwS ?_ GE341.out) | exact HB.out)⟩
           (try clear BK338)
           (try clear BK339)
           (try clear BK341)
           (try clear HB)
           generalize ((w40.setCell ⟨gb341, 0, none⟩ (.int .i64 x5_2)).setCell ⟨gb341, 1, none⟩ (.int .i64 x4_1)) = w44 at n0_ n1_ n2_ n3_ ⊢
           have BK338 := n0_
           have BK339 := n1_
           have BK341 := n2_
           have HB := n3_
           clear n0_ n1_ n2_ n3_
           have n0_ := Z0.mk (bkD BK338.out)
           have n1_ := Z0.mk (bkD BK339.out)
           have n2_ := Z0.mk (bkD BK341.out)
           have n3_ := Z0.mk (bw1 HB.out)
           clear BK338
           clear BK339
           clear BK341
           clear HB
           have BK338 := n0_
           have BK339 := n1_
           have BK341 := n2_
           have HB := n3_
           clear n0_ n1_ n2_ n3_
           refine start_ (n := 6) (S := fun w' => w'.cell? ⟨gb341, 0, none⟩ = some (.int .i64 x5_2) ∧ w'.cell? ⟨gb341, 1, none⟩ = some (.int .i64 x4_1) ∧ w'.cell? ⟨gb339, 0, none⟩ = some (.int .i64 x340000_2) ∧ w'.cell? ⟨gb339, 1, none⟩ = some (.int .i64 x340001_2)) (ds := []) #[false, false, false, false, false, false] (by kernel_rfl) rfl rfl ⟨(bkC BK341.out 0).trans rfl, (bkC BK341.out 1).trans rfl, (bkC BK339.out 0).trans rfl, (bkC BK339.out 1).trans rfl⟩ (fun hHd => ?_)
           generalize w44.drew = w45 at BK338 BK339 BK341 HB hHd ⊢
           refine take_ (i := 0) (N := some 26) (v := ?_) (a' := ?_) #[true, false, false, false, false, false] rfl rfl (by kernel_rfl) (fun _ _ _ h => h) (Or.inl ⟨by rfl, ?_⟩) hHd ?_ ?_
           rotate_left
           ·rintro w' ⟨s0, s1, s2, s3⟩
            go_simp
            with_reducible rfl
           rotate_left
           ·simp only [Act.put, List.setIfInBounds_toArray, List.set_cons_zero, List.set_cons_succ, i64_w, i32_w]
            rfl
           refine take_ (i := 2) (N := some 28) (v := ?_) (a' := ?_) #[true, false, true, false, false, false] rfl rfl (by kernel_rfl) (fun _ _ _ h => h) (Or.inl ⟨by rfl, ?_⟩) hHd ?_ ?_
           rotate_left
           ·rintro w' ⟨s0, s1, s2, s3⟩
            go_simp
            with_reducible rfl
           rotate_left
           ·simp only [Act.put, List.setIfInBounds_toArray, List.set_cons_zero, List.set_cons_succ, i64_w, i32_w]
            rfl
           refine one_ (i := 1) (N := some 27) #[true, true, true, false, false, false] rfl rfl (by kernel_rfl) (by decide) (fun K hK => ?_)
           refine goes_ Tryd.func18 (by kernel_rfl) rfl #[.agg #[.int .i64 x5_2, .int .i64 x4_1]] (by rfl) rfl rfl (by (try simp only [List.map_toArray, List.map_cons, List.map_nil]); first | done | rfl | (simp only [List.length_drop, List.length_take]; rfl)) ?_
           with_reducible refine (cr6_Fullness.calls k2 x5_2 x4_1 t342 t343 _ A10.out).mono ?_
           rintro e w46 ⟨rfl, hb⟩
           refine ⟨_, rfl, ?_⟩
           have n0_ := Z0.mk (bkB (g := gb338) (o := .cells #[.int .i64 0, .int .i64 0] 23 (0, 0)) (by (with_reducible repeat (first | refine bkN ?_ _ | refine bkD ?_ | refine bkA ?_ _)); exact BK338.out) hb)
           have n1_ := Z0.mk (bkB (g := gb339) (o := .cells #[.int .i64 x340000_2, .int .i64 x340001_2] 23 (0, 0)) (by (with_reducible repeat (first | refine bkN ?_ _ | refine bkD ?_ | refine bkA ?_ _)); exact BK339.out) hb)
           have n2_ := Z0.mk (bkB (g := gb341) (o := .cells #[.int .i64 x5_2, .int .i64 x4_1] 23 (0, 0)) (by (with_reducible repeat (first | refine bkN ?_ _ | refine bkD ?_ | refine bkA ?_ _)); exact BK341.out) hb)
           have n3_ := Z0.mk (bwT (by repeat (first | (with_reducible first | exact HB.out | apply bwA | apply bwN | apply bw1 | refine bwS ?_ GE338.out | refine bwS ?_ GE339.out | refine bwS ?_ GE341.out) | exact HB.out)) hb)
           clear BK338
           clear BK339
           clear BK341
           clear HB
           have BK338 := n0_
           have BK339 := n1_
           have BK341 := n2_
           have HB := n3_
           clear n0_ n1_ n2_ n3_
           (try clear hb)
           (try clear hb2)
           (try clear hk)
           (try clear hi)
           refine hK.out _ _ ⟨(bkC BK341.out 0).trans rfl, (bkC BK341.out 1).trans rfl, (bkC BK339.out 0).trans rfl, (bkC BK339.out 1).trans rfl⟩ (fun hHd => ?_)
           clear hK K
           refine norm_ (a' := ?_) ?_ ?_
           rotate_left
           ·show Act.put _ (some 27) _ = _
            simp only [Act.put, List.setIfInBounds_toArray, List.set_cons_zero, List.set_cons_succ, i64_w, i32_w]
            rfl
           refine one_ (i := 3) (N := some 29) #[true, true, true, true, false, false] rfl rfl (by kernel_rfl) (by decide) (fun K hK => ?_)
           refine goes_ Tryd.func18 (by kernel_rfl) rfl #[.agg #[.int .i64 x340000_2, .int .i64 x340001_2]] (by rfl) rfl rfl (by (try simp only [List.map_toArray, List.map_cons, List.map_nil]); first | done | rfl | (simp only [List.length_drop, List.length_take]; rfl)) ?_
           with_reducible refine (cr6_Fullness.calls k2 x340000_2 x340001_2 t344 t345 _ A11.out).mono ?_
           rintro e w47 ⟨rfl, hb⟩
           refine ⟨_, rfl, ?_⟩
           have n0_ := Z0.mk (bkB (g := gb338) (o := .cells #[.int .i64 0, .int .i64 0] 23 (0, 0)) (by (with_reducible repeat (first | refine bkN ?_ _ | refine bkD ?_ | refine bkA ?_ _)); exact BK338.out) hb)
           have n1_ := Z0.mk (bkB (g := gb339) (o := .cells #[.int .i64 x340000_2, .int .i64 x340001_2] 23 (0, 0)) (by (with_reducible repeat (first | refine bkN ?_ _ | refine bkD ?_ | refine bkA ?_ _)); exact BK339.out) hb)
           have n2_ := Z0.mk (bkB (g := gb341) (o := .cells #[.int .i64 x5_2, .int .i64 x4_1] 23 (0, 0)) (by (with_reducible repeat (first | refine bkN ?_ _ | refine bkD ?_ | refine bkA ?_ _)); exact BK341.out) hb)
           have n3_ := Z0.mk (bwT (by repeat (first | (with_reducible first | exact HB.out | apply bwA | apply bwN | apply bw1 | refine bwS ?_ GE338.out | refine bwS ?_ GE339.out | refine bwS ?_ GE341.out) | exact HB.out)) hb)
           clear BK338
           clear BK339
           clear BK341
           clear HB
           have BK338 := n0_
           have BK339 := n1_
           have BK341 := n2_
           have HB := n3_
           clear n0_ n1_ n2_ n3_
           (try clear hb)
           (try clear hb2)
           (try clear hk)
           (try clear hi)
           refine hK.out _ _ ⟨(bkC BK341.out 0).trans rfl, (bkC BK341.out 1).trans rfl, (bkC BK339.out 0).trans rfl, (bkC BK339.out 1).trans rfl⟩ (fun hHd => ?_)
           clear hK K
           refine norm_ (a' := ?_) ?_ ?_
           rotate_left
           ·show Act.put _ (some 29) _ = _
            simp only [Act.put, List.setIfInBounds_toArray, List.set_cons_zero, List.set_cons_succ, i64_w, i32_w]
            rfl
           refine one_ (i := 4) (N := some 30) #[true, true, true, true, true, false] rfl rfl (by kernel_rfl) (by decide) (fun K hK => ?_)
           refine goes_ Tryd.func35 (by kernel_rfl) rfl #[.agg #[.int .i64 t342, .int .i64 t343], .agg #[.int .i64 t344, .int .i64 t345]] (by rfl) rfl rfl (by (try simp only [List.map_toArray, List.map_cons, List.map_nil]); first | done | rfl | (simp only [List.length_drop, List.length_take]; rfl)) ?_
           with_reducible refine (cr6_Compare.calls t342 t343 t344 t345 t346 _ A12.out).mono ?_
           rintro e w48 ⟨rfl, hb⟩
           refine ⟨_, rfl, ?_⟩
           have n0_ := Z0.mk (bkB (g := gb338) (o := .cells #[.int .i64 0, .int .i64 0] 23 (0, 0)) (by (with_reducible repeat (first | refine bkN ?_ _ | refine bkD ?_ | refine bkA ?_ _)); exact BK338.out) hb)
           have n1_ := Z0.mk (bkB (g := gb339) (o := .cells #[.int .i64 x340000_2, .int .i64 x340001_2] 23 (0, 0)) (by (with_reducible repeat (first | refine bkN ?_ _ | refine bkD ?_ | refine bkA ?_ _)); exact BK339.out) hb)
           have n2_ := Z0.mk (bkB (g := gb341) (o := .cells #[.int .i64 x5_2, .int .i64 x4_1] 23 (0, 0)) (by (with_reducible repeat (first | refine bkN ?_ _ | refine bkD ?_ | refine bkA ?_ _)); exact BK341.out) hb)
           have n3_ := Z0.mk (bwT (by repeat (first | (with_reducible first | exact HB.out | apply bwA | apply bwN | apply bw1 | refine bwS ?_ GE338.out | refine bwS ?_ GE339.out | refine bwS ?_ GE341.out) | exact HB.out)) hb)
           clear BK338
           clear BK339
           clear BK341
           clear HB
           have BK338 := n0_
           have BK339 := n1_
           have BK341 := n2_
           have HB := n3_
           clear n0_ n1_ n2_ n3_
           (try clear hb)
           (try clear hb2)
           (try clear hk)
           (try clear hi)
           refine hK.out _ _ ⟨(bkC BK341.out 0).trans rfl, (bkC BK341.out 1).trans rfl, (bkC BK339.out 0).trans rfl, (bkC BK339.out 1).trans rfl⟩ (fun hHd => ?_)
           clear hK K
           refine norm_ (a' := ?_) ?_ ?_
           rotate_left
           ·show Act.put _ (some 30) _ = _
            simp only [Act.put, List.setIfInBounds_toArray, List.set_cons_zero, List.set_cons_succ, i64_w, i32_w]
            rfl
           refine pure_ (i := 5) (N := some 7) (v := ?_) (a' := ?_) #[true, true, true, true, true, true] rfl rfl (by kernel_rfl) (fun _ _ _ h => h) (Or.inl ⟨by rfl, ?_⟩) ?_ ?_
           rotate_left
           ·intro w'
            go_simp
            with_reducible rfl
           rotate_left
           ·simp only [Act.put, List.setIfInBounds_toArray, List.set_cons_zero, List.set_cons_succ, i64_w, i32_w]
            rfl
           refine done_ (by kernel_rfl) ?_
           have hnb49 := NB339_338.out
           have hnc49 := NB338_339.out
           have hcz50_0 : w48.cell? ⟨gb339, 0, none⟩ = some (.int .i64 x340000_2) := (bkC BK339.out 0).trans rfl
           have hcz50_1 : w48.cell? ⟨gb339, 1, none⟩ = some (.int .i64 x340001_2) := (bkC BK339.out 1).trans rfl
           have hfz50_0 := bkZ BK339.out 0
           have hfz50_1 := bkZ BK339.out 1
           try go_wp2
           go_roundg k2
           case measure => have := HK1.out; have := HK2.out; omega
           case rel => exact ⟨(wrap64 (x5_2 + 1)), (x340000_2), (x340001_2), (by first | rfl | (simp; done) | (simp [*]; done)), H', ⟨by have := HK1.out; have := HK2.out; omega⟩, ⟨by (with_reducible repeat (first | refine bkN ?_ _ | refine bkD ?_ | refine bkA ?_ _)); exact BK338.out⟩, ⟨by (with_reducible repeat (first | refine bkN ?_ _ | refine bkD ?_ | refine bkA ?_ _)); exact BK339.out⟩, ⟨by repeat (first | (with_reducible first | exact HB.out | apply bwA | apply bwN | apply bw1 | refine bwS ?_ GE338.out | refine bwS ?_ GE339.out | refine bwS ?_ GE341.out) | exact HB.out)⟩⟩
         ·rw [if_neg c26] at H
          have c26b0 : (t346 == 0) = false := beq_eq_false_iff_ne.mpr c26
          have c26b1 : (t346 != 0) = true := bne_iff_ne.mpr c26
          have H' := Z0.mk H
          clear H
          try go_wp2_with (first | ((with_reducible refine gtC (f := 66) rfl ?_); refine goesL_ (some 21) rfl rfl Tryd.func66 (by kernel_rfl) rfl #[.int .i64 x5_2, .int .i64 x4_1] rfl (by (try simp only [List.map_toArray, List.map_cons, List.map_nil]); first | done | rfl | (simp only [List.length_drop, List.length_take]; rfl)) ?_; (with_reducible refine (cr6_Divisor.calls k2 x5_2 x4_1 t340 _ A8.out).mono ?_); rintro e w' ⟨rfl, ⟨nd, rfl⟩⟩; refine ⟨_, rfl, ?_⟩; (try (rw [drewN_self wr]; generalize hq_ : World.drewN wr _ = wr; have n0_ : Z0 (wr.heap[gb338]? = some (.cells #[.int .i64 0, .int .i64 0] 23 (0, 0))) := ⟨by rw [← hq_]; exact (by (with_reducible repeat (first | refine bkN ?_ _ | refine bkD ?_ | refine bkA ?_ _)); exact BK338.out)⟩; have n1_ : Z0 (wr.heap[gb339]? = some (.cells #[.int .i64 x340000_2, .int .i64 x340001_2] 23 (0, 0))) := ⟨by rw [← hq_]; exact (by (with_reducible repeat (first | refine bkN ?_ _ | refine bkD ?_ | refine bkA ?_ _)); exact BK339.out)⟩; have n2_ : Z0 (Below w.heap.size w wr) := ⟨by rw [← hq_]; exact (by repeat (first | (with_reducible first | exact HB.out | apply bwA | apply bwN | apply bw1 | refine bwS ?_ GE338.out | refine bwS ?_ GE339.out) | exact HB.out))⟩; clear BK338 BK339 HB hq_; have BK338 := n0_; have BK339 := n1_; have HB := n2_; clear n0_ n1_ n2_))) | ((with_reducible refine gtD (N := 6) rfl ?_); refine bxE ?hg (N := 6) ?hd (cs := #[.int .i64 0, .int .i64 0]) (t := 23) ?hr ?_; (case hd => rfl); (case hg => rfl); (case hr => first | (go_simp; done) | (go_simp; rfl)); intro gb341 hg w51 hbox hb; have n0_ := Z0.mk (bkB (g := gb338) (o := .cells #[.int .i64 0, .int .i64 0] 23 (0, 0)) (by (with_reducible repeat (first | refine bkN ?_ _ | refine bkD ?_ | refine bkA ?_ _)); exact BK338.out) hb); have n1_ := Z0.mk (bkB (g := gb339) (o := .cells #[.int .i64 x340000_2, .int .i64 x340001_2] 23 (0, 0)) (by (with_reducible repeat (first | refine bkN ?_ _ | refine bkD ?_ | refine bkA ?_ _)); exact BK339.out) hb); have n2_ := Z0.mk (bwT (by repeat (first | (with_reducible first | exact HB.out | apply bwA | apply bwN | apply bw1 | refine bwS ?_ GE338.out | refine bwS ?_ GE339.out) | exact HB.out)) hb); have n3_ := Z0.mk (hbox); have n4_ := Z0.mk ((by rw [hg]; exact (bwZ (by repeat (first | (with_reducible first | exact HB.out | apply bwA | apply bwN | apply bw1 | refine bwS ?_ GE338.out | refine bwS ?_ GE339.out) | exact HB.out))) : w.heap.size ≤ gb341)); have n5_ := Z0.mk ((by rw [hg]; exact (bwZ (by repeat (first | (with_reducible first | exact HB.out | apply bwA | apply bwN | apply bw1 | refine bwS ?_ GE338.out | refine bwS ?_ GE339.out) | exact HB.out))) : w.heap.size ≤ gb341)); have n6_ := Z0.mk ((by rw [hg]; exact Nat.ne_of_lt (blk_lt (g := gb338) (o := .cells #[.int .i64 0, .int .i64 0] 23 (0, 0)) (by (with_reducible repeat (first | refine bkN ?_ _ | refine bkD ?_ | refine bkA ?_ _)); exact BK338.out)) : gb338 ≠ gb341)); have n7_ := Z0.mk ((by rw [hg]; exact Nat.ne_of_gt (blk_lt (g := gb338) (o := .cells #[.int .i64 0, .int .i64 0] 23 (0, 0)) (by (with_reducible repeat (first | refine bkN ?_ _ | refine bkD ?_ | refine bkA ?_ _)); exact BK338.out)) : gb341 ≠ gb338)); have n8_ := Z0.mk ((by rw [hg]; exact Nat.ne_of_lt (blk_lt (g := gb339) (o := .cells #[.int .i64 x340000_2, .int .i64 x340001_2] 23 (0, 0)) (by (with_reducible repeat (first | refine bkN ?_ _ | refine bkD ?_ | refine bkA ?_ _)); exact BK339.out)) : gb339 ≠ gb341)); have n9_ := Z0.mk ((by rw [hg]; exact Nat.ne_of_gt (blk_lt (g := gb339) (o := .cells #[.int .i64 x340000_2, .int .i64 x340001_2] 23 (0, 0)) (by (with_reducible repeat (first | refine bkN ?_ _ | refine bkD ?_ | refine bkA ?_ _)); exact BK339.out)) : gb341 ≠ gb339)); clear BK338; clear BK339; clear HB; have BK338 := n0_; have BK339 := n1_; have HB := n2_; have BK341 := n3_; have GW341 := n4_; have GE341 := n5_; have NB338_341 := n6_; have NB341_338 := n7_; have NB339_341 := n8_; have NB341_339 := n9_; clear n0_ n1_ n2_ n3_ n4_ n5_ n6_ n7_ n8_ n9_; clear hb hbox hg; have hnb52 := NB341_338.out; have hnc52 := NB338_341.out; have hnb53 := NB341_339.out; have hnc53 := NB339_341.out; have hcz54_0 : w51.cell? ⟨gb341, 0, none⟩ = some (.int .i64 0) := (bkC BK341.out 0).trans rfl; have hcz54_1 : w51.cell? ⟨gb341, 1, none⟩ = some (.int .i64 0) := (bkC BK341.out 1).trans rfl; have hfz54_0 := bkZ BK341.out 0; have hfz54_1 := bkZ BK341.out 1))
          have n0_ : Z0 (((w51.setCell ⟨gb341, 0, none⟩ (.int .i64 x5_2)).setCell ⟨gb341, 1, none⟩ (.int .i64 x4_1)).heap[gb338]? = some (.cells #[.int .i64 0, .int .i64 0] 23 (0, 0))) := ⟨by (with_reducible repeat (first | refine bkN ?_ _ | refine bkD ?_ | refine bkA ?_ _)); refine bkF ?_ NB338_341.out _; (with_reducible repeat (first | refine bkN ?_ _ | refine bkD ?_ | refine bkA ?_ _)); refine bkF ?_ NB338_341.out _; (with_reducible repeat (first | refine bkN ?_ _ | refine bkD ?_ | refine bkA ?_ _)); exact BK338.out⟩
          have n1_ : Z0 (((w51.setCell ⟨gb341, 0, none⟩ (.int .i64 x5_2)).setCell ⟨gb341, 1, none⟩ (.int .i64 x4_1)).heap[gb339]? = some (.cells #[.int .i64 x340000_2, .int .i64 x340001_2] 23 (0, 0))) := ⟨by (with_reducible repeat (first | refine bkN ?_ _ | refine bkD ?_ | refine bkA ?_ _)); refine bkF ?_ NB339_341.out _; (with_reducible repeat (first | refine bkN ?_ _ | refine bkD ?_ | refine bkA ?_ _)); refine bkF ?_ NB339_341.out _; (with_reducible repeat (first | refine bkN ?_ _ | refine bkD ?_ | refine bkA ?_ _)); exact BK339.out⟩
          have n2_ : Z0 (((w51.setCell ⟨gb341, 0, none⟩ (.int .i64 x5_2)).setCell ⟨gb341, 1, none⟩ (.int .i64 x4_1)).heap[gb341]? = some (.cells #[.int .i64 x5_2, .int .i64 x4_1] 23 (0, 0))) := ⟨by (with_reducible repeat (first | refine bkN ?_ _ | refine bkD ?_ | refine bkA ?_ _)); refine bkP (cs := #[.int .i64 x5_2, .int .i64 0]) ?_ 1 _ rfl; (with_reducible repeat (first | refine bkN ?_ _ | refine bkD ?_ | refine bkA ?_ _)); refine bkP (cs := #[.int .i64 0, .int .i64 0]) ?_ 0 _ rfl; (with_reducible repeat (first | refine bkN ?_ _ | refine bkD ?_ | refine bkA ?_ _)); exact BK341.out⟩
          have n3_ : Z0 (Below w.heap.size w ((w51.setCell ⟨gb341, 0, none⟩ (.int .i64 x5_2)).setCell ⟨gb341, 1, none⟩ (.int .i64 x4_1))) := ⟨by repeat (first | (with_reducible first | exact HB.out | apply bwA | apply bwN | apply bw1 | refine bwS ?_ GE338.out | refine bwS ?_ GE339.out | refine bwS ?_ GE341.out) | exact HB.out)⟩
          (try clear BK338)
          (try clear BK339)
          (try clear BK341)
          (try clear HB)
          generalize ((w51.setCell ⟨gb341, 0, none⟩ (.int .i64 x5_2)).setCell ⟨gb341, 1, none⟩ (.int .i64 x4_1)) = w55 at n0_ n1_ n2_ n3_ ⊢
          have BK338 := n0_
          have BK339 := n1_
          have BK341 := n2_
          have HB := n3_
          clear n0_ n1_ n2_ n3_
          have n0_ := Z0.mk (bkD BK338.out)
          have n1_ := Z0.mk (bkD BK339.out)
          have n2_ := Z0.mk (bkD BK341.out)
          have n3_ := Z0.mk (bw1 HB.out)
          clear BK338
          clear BK339
          clear BK341
          clear HB
          have BK338 := n0_
          have BK339 := n1_
          have BK341 := n2_
          have HB := n3_
          clear n0_ n1_ n2_ n3_
          refine start_ (n := 6) (S := fun w' => w'.cell? ⟨gb341, 0, none⟩ = some (.int .i64 x5_2) ∧ w'.cell? ⟨gb341, 1, none⟩ = some (.int .i64 x4_1) ∧ w'.cell? ⟨gb339, 0, none⟩ = some (.int .i64 x340000_2) ∧ w'.cell? ⟨gb339, 1, none⟩ = some (.int .i64 x340001_2)) (ds := []) #[false, false, false, false, false, false] (by kernel_rfl) rfl rfl ⟨(bkC BK341.out 0).trans rfl, (bkC BK341.out 1).trans rfl, (bkC BK339.out 0).trans rfl, (bkC BK339.out 1).trans rfl⟩ (fun hHd => ?_)
          generalize w55.drew = w56 at BK338 BK339 BK341 HB hHd ⊢
          refine take_ (i := 0) (N := some 26) (v := ?_) (a' := ?_) #[true, false, false, false, false, false] rfl rfl (by kernel_rfl) (fun _ _ _ h => h) (Or.inl ⟨by rfl, ?_⟩) hHd ?_ ?_
          rotate_left
          ·rintro w' ⟨s0, s1, s2, s3⟩
           go_simp
           with_reducible rfl
          rotate_left
          ·simp only [Act.put, List.setIfInBounds_toArray, List.set_cons_zero, List.set_cons_succ, i64_w, i32_w]
           rfl
          refine take_ (i := 2) (N := some 28) (v := ?_) (a' := ?_) #[true, false, true, false, false, false] rfl rfl (by kernel_rfl) (fun _ _ _ h => h) (Or.inl ⟨by rfl, ?_⟩) hHd ?_ ?_
          rotate_left
          ·rintro w' ⟨s0, s1, s2, s3⟩
           go_simp
           with_reducible rfl
          rotate_left
          ·simp only [Act.put, List.setIfInBounds_toArray, List.set_cons_zero, List.set_cons_succ, i64_w, i32_w]
           rfl
          refine one_ (i := 1) (N := some 27) #[true, true, true, false, false, false] rfl rfl (by kernel_rfl) (by decide) (fun K hK => ?_)
          refine goes_ Tryd.func18 (by kernel_rfl) rfl #[.agg #[.int .i64 x5_2, .int .i64 x4_1]] (by rfl) rfl rfl (by (try simp only [List.map_toArray, List.map_cons, List.map_nil]); first | done | rfl | (simp only [List.length_drop, List.length_take]; rfl)) ?_
          with_reducible refine (cr6_Fullness.calls k2 x5_2 x4_1 t342 t343 _ A10.out).mono ?_
          rintro e w57 ⟨rfl, hb⟩
          refine ⟨_, rfl, ?_⟩
          have n0_ := Z0.mk (bkB (g := gb338) (o := .cells #[.int .i64 0, .int .i64 0] 23 (0, 0)) (by (with_reducible repeat (first | refine bkN ?_ _ | refine bkD ?_ | refine bkA ?_ _)); exact BK338.out) hb)
          have n1_ := Z0.mk (bkB (g := gb339) (o := .cells #[.int .i64 x340000_2, .int .i64 x340001_2] 23 (0, 0)) (by (with_reducible repeat (first | refine bkN ?_ _ | refine bkD ?_ | refine bkA ?_ _)); exact BK339.out) hb)
          have n2_ := Z0.mk (bkB (g := gb341) (o := .cells #[.int .i64 x5_2, .int .i64 x4_1] 23 (0, 0)) (by (with_reducible repeat (first | refine bkN ?_ _ | refine bkD ?_ | refine bkA ?_ _)); exact BK341.out) hb)
          have n3_ := Z0.mk (bwT (by repeat (first | (with_reducible first | exact HB.out | apply bwA | apply bwN | apply bw1 | refine bwS ?_ GE338.out | refine bwS ?_ GE339.out | refine bwS ?_ GE341.out) | exact HB.out)) hb)
          clear BK338
          clear BK339
          clear BK341
          clear HB
          have BK338 := n0_
          have BK339 := n1_
          have BK341 := n2_
          have HB := n3_
          clear n0_ n1_ n2_ n3_
          (try clear hb)
          (try clear hb2)
          (try clear hk)
          (try clear hi)
          refine hK.out _ _ ⟨(bkC BK341.out 0).trans rfl, (bkC BK341.out 1).trans rfl, (bkC BK339.out 0).trans rfl, (bkC BK339.out 1).trans rfl⟩ (fun hHd => ?_)
          clear hK K
          refine norm_ (a' := ?_) ?_ ?_
          rotate_left
          ·show Act.put _ (some 27) _ = _
           simp only [Act.put, List.setIfInBounds_toArray, List.set_cons_zero, List.set_cons_succ, i64_w, i32_w]
           rfl
          refine one_ (i := 3) (N := some 29) #[true, true, true, true, false, false] rfl rfl (by kernel_rfl) (by decide) (fun K hK => ?_)
          refine goes_ Tryd.func18 (by kernel_rfl) rfl #[.agg #[.int .i64 x340000_2, .int .i64 x340001_2]] (by rfl) rfl rfl (by (try simp only [List.map_toArray, List.map_cons, List.map_nil]); first | done | rfl | (simp only [List.length_drop, List.length_take]; rfl)) ?_
          with_reducible refine (cr6_Fullness.calls k2 x340000_2 x340001_2 t344 t345 _ A11.out).mono ?_
          rintro e w58 ⟨rfl, hb⟩
          refine ⟨_, rfl, ?_⟩
          have n0_ := Z0.mk (bkB (g := gb338) (o := .cells #[.int .i64 0, .int .i64 0] 23 (0, 0)) (by (with_reducible repeat (first | refine bkN ?_ _ | refine bkD ?_ | refine bkA ?_ _)); exact BK338.out) hb)
          have n1_ := Z0.mk (bkB (g := gb339) (o := .cells #[.int .i64 x340000_2, .int .i64 x340001_2] 23 (0, 0)) (by (with_reducible repeat (first | refine bkN ?_ _ | refine bkD ?_ | refine bkA ?_ _)); exact BK339.out) hb)
          have n2_ := Z0.mk (bkB (g := gb341) (o := .cells #[.int .i64 x5_2, .int .i64 x4_1] 23 (0, 0)) (by (with_reducible repeat (first | refine bkN ?_ _ | refine bkD ?_ | refine bkA ?_ _)); exact BK341.out) hb)
          have n3_ := Z0.mk (bwT (by repeat (first | (with_reducible first | exact HB.out | apply bwA | apply bwN | apply bw1 | refine bwS ?_ GE338.out | refine bwS ?_ GE339.out | refine bwS ?_ GE341.out) | exact HB.out)) hb)
          clear BK338
          clear BK339
          clear BK341
          clear HB
          have BK338 := n0_
          have BK339 := n1_
          have BK341 := n2_
          have HB := n3_
          clear n0_ n1_ n2_ n3_
          (try clear hb)
          (try clear hb2)
          (try clear hk)
          (try clear hi)
          refine hK.out _ _ ⟨(bkC BK341.out 0).trans rfl, (bkC BK341.out 1).trans rfl, (bkC BK339.out 0).trans rfl, (bkC BK339.out 1).trans rfl⟩ (fun hHd => ?_)
          clear hK K
          refine norm_ (a' := ?_) ?_ ?_
          rotate_left
          ·show Act.put _ (some 29) _ = _
           simp only [Act.put, List.setIfInBounds_toArray, List.set_cons_zero, List.set_cons_succ, i64_w, i32_w]
           rfl
          refine one_ (i := 4) (N := some 30) #[true, true, true, true, true, false] rfl rfl (by kernel_rfl) (by decide) (fun K hK => ?_)
          refine goes_ Tryd.func35 (by kernel_rfl) rfl #[.agg #[.int .i64 t342, .int .i64 t343], .agg #[.int .i64 t344, .int .i64 t345]] (by rfl) rfl rfl (by (try simp only [List.map_toArray, List.map_cons, List.map_nil]); first | done | rfl | (simp only [List.length_drop, List.length_take]; rfl)) ?_
          with_reducible refine (cr6_Compare.calls t342 t343 t344 t345 t346 _ A12.out).mono ?_
          rintro e w59 ⟨rfl, hb⟩
          refine ⟨_, rfl, ?_⟩
          have n0_ := Z0.mk (bkB (g := gb338) (o := .cells #[.int .i64 0, .int .i64 0] 23 (0, 0)) (by (with_reducible repeat (first | refine bkN ?_ _ | refine bkD ?_ | refine bkA ?_ _)); exact BK338.out) hb)
          have n1_ := Z0.mk (bkB (g := gb339) (o := .cells #[.int .i64 x340000_2, .int .i64 x340001_2] 23 (0, 0)) (by (with_reducible repeat (first | refine bkN ?_ _ | refine bkD ?_ | refine bkA ?_ _)); exact BK339.out) hb)
          have n2_ := Z0.mk (bkB (g := gb341) (o := .cells #[.int .i64 x5_2, .int .i64 x4_1] 23 (0, 0)) (by (with_reducible repeat (first | refine bkN ?_ _ | refine bkD ?_ | refine bkA ?_ _)); exact BK341.out) hb)
          have n3_ := Z0.mk (bwT (by repeat (first | (with_reducible first | exact HB.out | apply bwA | apply bwN | apply bw1 | refine bwS ?_ GE338.out | refine bwS ?_ GE339.out | refine bwS ?_ GE341.out) | exact HB.out)) hb)
          clear BK338
          clear BK339
          clear BK341
          clear HB
          have BK338 := n0_
          have BK339 := n1_
          have BK341 := n2_
          have HB := n3_
          clear n0_ n1_ n2_ n3_
          (try clear hb)
          (try clear hb2)
          (try clear hk)
          (try clear hi)
          refine hK.out _ _ ⟨(bkC BK341.out 0).trans rfl, (bkC BK341.out 1).trans rfl, (bkC BK339.out 0).trans rfl, (bkC BK339.out 1).trans rfl⟩ (fun hHd => ?_)
          clear hK K
          refine norm_ (a' := ?_) ?_ ?_
          rotate_left
          ·show Act.put _ (some 30) _ = _
           simp only [Act.put, List.setIfInBounds_toArray, List.set_cons_zero, List.set_cons_succ, i64_w, i32_w]
           rfl
          refine pure_ (i := 5) (N := some 7) (v := ?_) (a' := ?_) #[true, true, true, true, true, true] rfl rfl (by kernel_rfl) (fun _ _ _ h => h) (Or.inl ⟨by rfl, ?_⟩) ?_ ?_
          rotate_left
          ·intro w'
           go_simp
           with_reducible rfl
          rotate_left
          ·simp only [Act.put, List.setIfInBounds_toArray, List.set_cons_zero, List.set_cons_succ, i64_w, i32_w]
           rfl
          refine done_ (by kernel_rfl) ?_
          try go_wp2
          go_roundg k2
          case measure => have := HK1.out; have := HK2.out; omega
          case rel => exact ⟨(wrap64 (x5_2 + 1)), (x340000_2), (x340001_2), (by first | rfl | (simp; done) | (simp [*]; done)), H', ⟨by have := HK1.out; have := HK2.out; omega⟩, ⟨by (with_reducible repeat (first | refine bkN ?_ _ | refine bkD ?_ | refine bkA ?_ _)); exact BK338.out⟩, ⟨by (with_reducible repeat (first | refine bkN ?_ _ | refine bkD ?_ | refine bkA ?_ _)); exact BK339.out⟩, ⟨by repeat (first | (with_reducible first | exact HB.out | apply bwA | apply bwN | apply bw1 | refine bwS ?_ GE338.out | refine bwS ?_ GE339.out | refine bwS ?_ GE341.out) | exact HB.out)⟩⟩
       ·rw [if_neg c9] at H
        have c9b0 : (t340 == 1) = false := beq_eq_false_iff_ne.mpr c9
        have c9b1 : (t340 != 1) = true := bne_iff_ne.mpr c9
        have H' := Z0.mk H
        clear H
        go_wp2_with (first | ((with_reducible refine gtC (f := 66) rfl ?_); refine goesL_ (some 21) rfl rfl Tryd.func66 (by kernel_rfl) rfl #[.int .i64 x5_2, .int .i64 x4_1] rfl (by (try simp only [List.map_toArray, List.map_cons, List.map_nil]); first | done | rfl | (simp only [List.length_drop, List.length_take]; rfl)) ?_; (with_reducible refine (cr6_Divisor.calls k2 x5_2 x4_1 t340 _ A8.out).mono ?_); rintro e w' ⟨rfl, ⟨nd, rfl⟩⟩; refine ⟨_, rfl, ?_⟩))
        go_roundg k2
        case measure => have := HK1.out; have := HK2.out; omega
        case rel => exact ⟨(wrap64 (x5_2 + 1)), (x340000_2), (x340001_2), (by first | rfl | (simp; done) | (simp [*]; done)), H', ⟨by have := HK1.out; have := HK2.out; omega⟩, ⟨by (with_reducible repeat (first | refine bkN ?_ _ | refine bkD ?_ | refine bkA ?_ _)); exact BK338.out⟩, ⟨by (with_reducible repeat (first | refine bkN ?_ _ | refine bkD ?_ | refine bkA ?_ _)); exact BK339.out⟩, ⟨by repeat (first | (with_reducible first | exact HB.out | apply bwA | apply bwN | apply bw1 | refine bwS ?_ GE338.out | refine bwS ?_ GE339.out) | exact HB.out)⟩⟩
      ·rw [if_neg c7] at H
       have c7b0 : decide (x5_2 ≤ x4_1) = false := decide_eq_false c7
       clear c7
       have H' := Z0.mk H
       clear H
       go_wp2
       go_roundg k2
       case measure => have := HK1.out; have := HK2.out; omega
       case rel => exact ⟨(wrap64 (x4_1 + 1)), (x340000_2), (x340001_2), (by first | rfl | (simp; done) | (simp [*]; done)), H', ⟨by have := HK1.out; have := HK2.out; omega⟩, ⟨by (with_reducible repeat (first | refine bkN ?_ _ | refine bkD ?_ | refine bkA ?_ _)); exact BK338.out⟩, ⟨by (with_reducible repeat (first | refine bkN ?_ _ | refine bkD ?_ | refine bkA ?_ _)); exact BK339.out⟩, ⟨by repeat (first | (with_reducible first | exact HB.out | apply bwA | apply bwN | apply bw1 | refine bwS ?_ GE338.out | refine bwS ?_ GE339.out) | exact HB.out)⟩⟩
   ·rw [if_neg c6] at H
    have c6b0 : decide (x4_1 ≤ a0) = false := decide_eq_false c6
    clear c6
    simp only [Option.some.injEq, Prod.mk.injEq] at H
    obtain ⟨rfl, rfl⟩ := H
    have hnb60 := NB339_338.out
    have hnc60 := NB338_339.out
    have hcz61_0 : wr.cell? ⟨gb339, 0, none⟩ = some (.int .i64 x340000_1) := (bkC BK339.out 0).trans rfl
    have hcz61_1 : wr.cell? ⟨gb339, 1, none⟩ = some (.int .i64 x340001_1) := (bkC BK339.out 1).trans rfl
    have hfz61_0 := bkZ BK339.out 0
    have hfz61_1 := bkZ BK339.out 1
    have hcz62_0 : wr.cell? ⟨gb338, 0, none⟩ = some (.int .i64 0) := (bkC BK338.out 0).trans rfl
    have hcz62_1 : wr.cell? ⟨gb338, 1, none⟩ = some (.int .i64 0) := (bkC BK338.out 1).trans rfl
    have hfz62_0 := bkZ BK338.out 0
    have hfz62_1 := bkZ BK338.out 1
    go_wp2
    refine bodyPost_ret (results_cell_row rfl _ _ gb338 23 #[.int .i64 x340000_1, .int .i64 x340001_1] (0, 0) _ rfl (by (with_reducible repeat (first | refine bkN ?_ _ | refine bkD ?_ | refine bkA ?_ _)); refine bkP (cs := #[.int .i64 x340000_1, .int .i64 0]) ?_ 1 _ rfl; (with_reducible repeat (first | refine bkN ?_ _ | refine bkD ?_ | refine bkA ?_ _)); refine bkP (cs := #[.int .i64 0, .int .i64 0]) ?_ 0 _ rfl; (with_reducible repeat (first | refine bkN ?_ _ | refine bkD ?_ | refine bkA ?_ _)); exact BK338.out) Tryd.underlying23 rfl (by kernel_rfl)) rfl ?_
    exact ⟨by first | rfl | (simp [errW_none, errW_some] <;> rfl) | (simp [*, errW_none, errW_some] <;> rfl), by repeat (first | (with_reducible first | exact HB.out | apply bwA | apply bwN | apply bw1 | refine bwS ?_ GE338.out | refine bwS ?_ GE339.out) | exact HB.out)⟩
end Go.Proofs.YtppighiaffppkaaDoor.H
end
