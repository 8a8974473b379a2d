/- What the statement HangRopes needs beyond the common part: walks of the functions that it calls, the plain law, the row and its card, part 1. Condition: the laid table hang.tens, as the card ties it. -/
import Derived.Test.YtppighiaffppkaaDoorZHangRopes0
section
namespace Go.Proofs.YtppighiaffppkaaDoor.H
open Go.RowKit Go.Proofs.YtppighiaffppkaaDoorW.PrintWords Go.Proofs.YtppighiaffppkaaDoorW.PrintLast Go.Proofs.YtppighiaffppkaaDoorW.PrintMore
attribute [local go_sem] max2_int min2_int max_two min_two max_three min_three max_four min_four
set_option linter.unusedVariables false
set_option linter.unusedSimpArgs false
mutual
def cr6_Marks.l0 : Nat → List (S112) → Int → List (S23) → Int → Int → Option ((List (S23)) × Int)
 | 0, _, _, _, _, _ => none
 | k + 1, x0, x1, x6, x7, x8 => if x8 < (x0.length : Int) then (cr6_Marks.l1 k x0 x1 x6 x7 x8 0) else (some (x6, 0))
def cr6_Marks.l1 : Nat → List (S112) → Int → List (S23) → Int → Int → Int → Option ((List (S23)) × Int)
 | 0, _, _, _, _, _, _ => none
 | k + 1, x0, x1, x6, x7, x8, x9 => if 0 ≤ x8 then (if x8 < (x0.length : Int) then (if x9 < ((rd_T112 x0 x8).f0) then (if ((rd_T112 x0 x8).f1.f1) = 0 then (none) else ((cr6_ratio.f k (wrap64 (x7 + (wrap64 ((wrap64 ((wrap64 (2 * x1)) * ((rd_T112 x0 x8).f1.f0))) * (wrap64 (Int.tdiv (2329089562800 : Int) ((rd_T112 x0 x8).f1.f1))))))) 2329089562800).bind fun bt410 => (if bt410.1 > 999999999 then (some (([] : List (S23)), 4)) else (if bt410.2 > 999999999 then (some (([] : List (S23)), 4)) else (if x6.length < 8796093022208 then (cr6_Marks.l1 k x0 x1 (x6 ++ [(⟨bt410.1, bt410.2⟩ : S23)]) (wrap64 (x7 + (wrap64 ((wrap64 ((wrap64 (2 * x1)) * ((rd_T112 x0 x8).f1.f0))) * (wrap64 (Int.tdiv (2329089562800 : Int) ((rd_T112 x0 x8).f1.f1))))))) x8 (wrap64 (x9 + 1))) else (none)))))) else (cr6_Marks.l0 k x0 x1 x6 x7 (wrap64 (x8 + 1)))) else (none)) else (none)
end
def cr6_Marks.f (k : Nat) (l0 : List (S112)) (a1 : Int) : Option ((List (S23)) × Int) := cr6_Marks.l0 k l0 a1 (([(⟨0, 1⟩ : S23)] : List (S23))) 0 0
set_option maxHeartbeats 8000000 in
set_option maxRecDepth 100000 in
theorem cr6_Marks.calls (k : Nat) (A0 : Option Addr) (c0 : Nat) (l0 : List (S112)) (a1 : Int) (r1 : List (S23)) (r2 : Int) (w : World) (hr0 : Kd.C k112 w A0 l0.length l0) (hc0 : l0.length ≤ c0) (h : cr6_Marks.f k l0 a1 = some (r1, r2)) :
  Calls Tryd.prog 45 #[.slice A0 l0.length c0, .int .i64 a1] w fun e w' => ∃ v0_ : Value, e = .returned (.tuple #[v0_, .int .i64 r2]) ∧ Kd.R k23 23 w' w.heap.size (fun _ => True) v0_ r1 ∧ Below w.heap.size w w' := by
 have hu23 := Tryd.underlying23
 have HR0 := Z0.mk hr0
 have HC0 := Z0.mk hc0
 clear hr0 hc0
 have HB := Z0.mk (Below.refl w.heap.size w)
 have H : (cr6_Marks.l0 k l0 a1 (([(⟨0, 1⟩ : S23)] : List (S23))) 0 0) = some (r1, r2) := h
 clear h
 obtain ⟨y404, hy404⟩ : ∃ y_ : List (S23), y_ = (([(⟨0, 1⟩ : S23)] : List (S23))) := ⟨_, rfl⟩
 replace H : (cr6_Marks.l0 k l0 a1 y404 0 0) = some (r1, r2) := by first | (rw [hy404]; with_reducible exact H) | (have H2_ := (Option.bind_some _ _).symm.trans H; rw [hy404]; with_reducible exact H2_) | (have H2_ := (Option.bind_some _ _).symm.trans H; with_reducible exact H2_) | with_reducible exact H | (rw [hy404]; exact H) | exact H
 have Ny404 := Z0.mk hy404
 clear hy404
 have H' := Z0.mk H
 clear H
 go_enter Tryd.func45, Tryd.ntmps45
 go_wp2_with (first | ((with_reducible refine gtD (N := 12) rfl ?_); refine Kd.R_lit k23 _ 23 ?hg (N := 12) ?hd (xs := ([(⟨0, 1⟩ : S23)] : List (S23))) (inner := [.int .i64 0, .int .i64 1]) (ok := fun _ => True) (okp := fun _ => True) ?hr ?hp (fun _ hk => hk) trivial (Below.refl _ _) (Nat.le_refl _) (by simp) ?_; (case hd => rfl); (case hg => rfl); (case hr => first | (go_simp; done) | (go_simp; rfl)); (case hp => exact (Reps.c2 (show Kd.M k23 _ _ _ (⟨0, 1⟩ : S23) [.int .i64 0, .int .i64 1] from (k23_mkM _ _ _ (⟨0, 1⟩ : S23) )) (Reps.none _ _))); intro v405 w3 ho4 hb hg_ hnew_; clear hg_ hnew_; (first | rw [← Ny404.out] at ho4 | (simp only [Int.reduceToNat] at ho4; rw [← Ny404.out] at ho4)); have n0_ := Z0.mk (Kd.R_lower ho4 (bwZ (by repeat (first | (with_reducible first | exact HB.out | apply bwA | apply bwN | apply bw1) | exact HB.out)))); have n1_ := Z0.mk (bwT (by repeat (first | (with_reducible first | exact HB.out | apply bwA | apply bwN | apply bw1) | exact HB.out)) hb); clear HB; have HO406 := n0_; have HB := n1_; clear n0_ n1_; clear hb ho4))
 repeat (go_quiet (first | ((with_reducible refine gtD (N := 12) rfl ?_); refine Kd.R_lit k23 _ 23 ?hg (N := 12) ?hd (xs := ([(⟨0, 1⟩ : S23)] : List (S23))) (inner := [.int .i64 0, .int .i64 1]) (ok := fun _ => True) (okp := fun _ => True) ?hr ?hp (fun _ hk => hk) trivial (Below.refl _ _) (Nat.le_refl _) (by simp) ?_; (case hd => rfl); (case hg => rfl); (case hr => first | (go_simp; done) | (go_simp; rfl)); (case hp => exact (Reps.c2 (show Kd.M k23 _ _ _ (⟨0, 1⟩ : S23) [.int .i64 0, .int .i64 1] from (k23_mkM _ _ _ (⟨0, 1⟩ : S23) )) (Reps.none _ _))); intro v405 w3 ho4 hb hg_ hnew_; clear hg_ hnew_; (first | rw [← Ny404.out] at ho4 | (simp only [Int.reduceToNat] at ho4; rw [← Ny404.out] at ho4)); have n0_ := Z0.mk (Kd.R_lower ho4 (bwZ (by repeat (first | (with_reducible first | exact HB.out | apply bwA | apply bwN | apply bw1) | exact HB.out)))); have n1_ := Z0.mk (bwT (by repeat (first | (with_reducible first | exact HB.out | apply bwA | apply bwN | apply bw1) | exact HB.out)) hb); clear HB; have HO406 := n0_; have HB := n1_; clear n0_ n1_; clear hb ho4)); try go_wp2_with (first | ((with_reducible refine gtD (N := 12) rfl ?_); refine Kd.R_lit k23 _ 23 ?hg (N := 12) ?hd (xs := ([(⟨0, 1⟩ : S23)] : List (S23))) (inner := [.int .i64 0, .int .i64 1]) (ok := fun _ => True) (okp := fun _ => True) ?hr ?hp (fun _ hk => hk) trivial (Below.refl _ _) (Nat.le_refl _) (by simp) ?_; (case hd => rfl); (case hg => rfl); (case hr => first | (go_simp; done) | (go_simp; rfl)); (case hp => exact (Reps.c2 (show Kd.M k23 _ _ _ (⟨0, 1⟩ : S23) [.int .i64 0, .int .i64 1] from (k23_mkM _ _ _ (⟨0, 1⟩ : S23) )) (Reps.none _ _))); intro v405 w3 ho4 hb hg_ hnew_; clear hg_ hnew_; (first | rw [← Ny404.out] at ho4 | (simp only [Int.reduceToNat] at ho4; rw [← Ny404.out] at ho4)); have n0_ := Z0.mk (Kd.R_lower ho4 (bwZ (by repeat (first | (with_reducible first | exact HB.out | apply bwA | apply bwN | apply bw1) | exact HB.out)))); have n1_ := Z0.mk (bwT (by repeat (first | (with_reducible first | exact HB.out | apply bwA | apply bwN | apply bw1) | exact HB.out)) hb); clear HB; have HO406 := n0_; have HB := n1_; clear n0_ n1_; clear hb ho4)))
 go_loopg [6, 7, 8] k (fun kq v6 v7 v8 w' => ∃ (x6_1 : List (S23)) (x7_1 : Int) (x8_1 : Int), v7 = .int .i64 x7_1 ∧ v8 = .int .i64 x8_1 ∧ Z0 (cr6_Marks.l0 kq l0 a1 x6_1 x7_1 x8_1 = some (r1, r2)) ∧ Z0 (kq ≤ k) ∧ Z0 (Kd.R k23 23 w' w.heap.size (fun _ => True) v6 x6_1) ∧ Z0 (Below w.heap.size w w'))
 case atStart => exact ⟨(y404), (0), (0), (by first | rfl | (simp; done) | (simp [*]; done)), (by first | rfl | (simp; done) | (simp [*]; done)), H', ⟨Nat.le_refl _⟩, ⟨by (with_reducible repeat (first | apply Kd.R_alloc | apply Kd.R_drewN | apply Kd.R_drew)); exact HO406.out⟩, ⟨by repeat (first | (with_reducible first | exact HB.out | apply bwA | apply bwN | apply bw1) | exact HB.out)⟩⟩
 case round =>
  clear H'
  try clear c2
  try clear p2
  try clear c4
  obtain ⟨x6_1, x7_1, x8_1, rfl, rfl, HA, HK1, HO_6, HB⟩ := hrel
  cases gk with
  | zero => exact absurd HA.out (by simp [cr6_Marks.l0])
  | succ k1 =>
   have H := HA.out
   clear HA
   simp only [cr6_Marks.l0] at H
   by_cases c5 : x8_1 < (l0.length : Int)
   ·rw [if_pos c5] at H
    have c5b0 : decide (x8_1 < (l0.length : Int)) = true := decide_eq_true c5
    clear c5
    have H' := Z0.mk H
    clear H
    go_wp2
    repeat (go_quiet (fail); try go_wp2)
    go_loopg [6, 7, 9] k1 (fun kq v6 v7 v9 w' => ∃ (x6_2 : List (S23)) (x7_2 : Int) (x9_2 : Int), v7 = .int .i64 x7_2 ∧ v9 = .int .i64 x9_2 ∧ Z0 (cr6_Marks.l1 kq l0 a1 x6_2 x7_2 x8_1 x9_2 = some (r1, r2)) ∧ Z0 (kq ≤ k1) ∧ Z0 (Kd.R k23 23 w' w.heap.size (fun _ => True) v6 x6_2) ∧ Z0 (Below w.heap.size w w'))
    case atStart => exact ⟨(x6_1), (x7_1), (0), (by first | rfl | (simp; done) | (simp [*]; done)), (by first | rfl | (simp; done) | (simp [*]; done)), H', ⟨Nat.le_refl _⟩, ⟨by (with_reducible repeat (first | apply Kd.R_alloc | apply Kd.R_drewN | apply Kd.R_drew)); exact HO_6.out⟩, ⟨by repeat (first | (with_reducible first | exact HB.out | apply bwA | apply bwN | apply bw1) | exact HB.out)⟩⟩
    case round =>
     clear H'
     try clear c2
     try clear p2
     try clear c4
     try clear c5
     try clear c5b0
     try clear p2
     obtain ⟨x6_2, x7_2, x9_2, rfl, rfl, HA, HK2, HO_6, HB⟩ := hrel
     cases gk with
     | zero => exact absurd HA.out (by simp [cr6_Marks.l1])
     | succ k2 =>
      have H := HA.out
      clear HA
      simp only [cr6_Marks.l1] at H
      by_cases c6 : 0 ≤ x8_1
      ·rw [if_pos c6] at H
       have c6b0 : decide (0 ≤ x8_1) = true := decide_eq_true c6
       clear c6
       by_cases c7 : x8_1 < (l0.length : Int)
       ·rw [if_pos c7] at H
        have c7b0 : decide (x8_1 < (l0.length : Int)) = true := decide_eq_true c7
        clear c7
        by_cases c8 : x9_2 < ((rd_T112 l0 x8_1).f0)
        ·rw [if_pos c8] at H
         have c8b0 : decide (x9_2 < ((rd_T112 l0 x8_1).f0)) = true := decide_eq_true c8
         clear c8
         by_cases c9 : ((rd_T112 l0 x8_1).f1.f1) = 0
         ·rw [if_pos c9] at H
          exact absurd H (by simp)
         ·rw [if_neg c9] at H
          have c9b0 : (((rd_T112 l0 x8_1).f1.f1) == 0) = false := beq_eq_false_iff_ne.mpr c9
          have c9b1 : (((rd_T112 l0 x8_1).f1.f1) != 0) = true := bne_iff_ne.mpr c9
          replace H := Option.bind_eq_some_iff.mp H
          obtain ⟨⟨t410, t411⟩, A100, H⟩ := H
          try dsimp only at H
          have A10 := Z0.mk A100
          clear A100
          by_cases c11 : t410 > 999999999
          ·rw [if_pos c11] at H
           have c11b0 : decide (999999999 < t410) = true := decide_eq_true c11
           clear c11
           simp only [Option.some.injEq, Prod.mk.injEq] at H
           obtain ⟨rfl, rfl⟩ := H
           have p407 : 0 ≤ (x8_1 : Int) := of_decide_eq_true (by first | (with_reducible assumption) | assumption)
           have q407 : x8_1 < (l0.length : Int) := of_decide_eq_true (by first | (with_reducible assumption) | assumption)
           obtain ⟨ad407, e407, hx407_0, hx407_1, hx407_2⟩ := at_T112 HR0.out x8_1 p407 q407
           cases e407
           replace hx407_0 := (HB.out.cell (World.block_lt_of_cell? w _ hx407_0)).trans hx407_0
           replace hx407_1 := (HB.out.cell (World.block_lt_of_cell? w _ hx407_1)).trans hx407_1
           replace hx407_2 := (HB.out.cell (World.block_lt_of_cell? w _ hx407_2)).trans hx407_2
           replace p407 := eq_true p407
           replace q407 := eq_true q407
           have p408 : 0 ≤ (x8_1 : Int) := of_decide_eq_true (by first | (with_reducible assumption) | assumption)
           have q408 : x8_1 < (l0.length : Int) := of_decide_eq_true (by first | (with_reducible assumption) | assumption)
           obtain ⟨ad408, e408, hx408_0, hx408_1, hx408_2⟩ := at_T112 HR0.out x8_1 p408 q408
           obtain rfl : ad407 = ad408 := (by injection e408)
           replace hx408_0 := (HB.out.cell (World.block_lt_of_cell? w _ hx408_0)).trans hx408_0
           replace hx408_1 := (HB.out.cell (World.block_lt_of_cell? w _ hx408_1)).trans hx408_1
           replace hx408_2 := (HB.out.cell (World.block_lt_of_cell? w _ hx408_2)).trans hx408_2
           replace p408 := eq_true p408
           replace q408 := eq_true q408
           have p409 : 0 ≤ (x8_1 : Int) := of_decide_eq_true (by first | (with_reducible assumption) | assumption)
           have q409 : x8_1 < (l0.length : Int) := of_decide_eq_true (by first | (with_reducible assumption) | assumption)
           obtain ⟨ad409, e409, hx409_0, hx409_1, hx409_2⟩ := at_T112 HR0.out x8_1 p409 q409
           obtain rfl : ad407 = ad409 := (by injection e409)
           replace hx409_0 := (HB.out.cell (World.block_lt_of_cell? w _ hx409_0)).trans hx409_0
           replace hx409_1 := (HB.out.cell (World.block_lt_of_cell? w _ hx409_1)).trans hx409_1
           replace hx409_2 := (HB.out.cell (World.block_lt_of_cell? w _ hx409_2)).trans hx409_2
           replace p409 := eq_true p409
           replace q409 := eq_true q409
           go_wp2_with (first | (go_at_call 79; (with_reducible refine (cr6_ratio.calls k2 (wrap64 (x7_2 + (wrap64 ((wrap64 ((wrap64 (2 * a1)) * ((rd_T112 l0 x8_1).f1.f0))) * (wrap64 (Int.tdiv (2329089562800 : Int) ((rd_T112 l0 x8_1).f1.f1))))))) 2329089562800 t410 t411 _ A10.out).mono ?_); rintro e w12 ⟨rfl, hb⟩; have n0_ := Z0.mk (Kd.R_below (by (with_reducible repeat (first | apply Kd.R_alloc | apply Kd.R_drewN | apply Kd.R_drew)); exact HO_6.out) hb); have n1_ := Z0.mk (bwT (by repeat (first | (with_reducible first | exact HB.out | apply bwA | apply bwN | apply bw1) | exact HB.out)) hb); clear HO_6; clear HB; have HO_6 := n0_; have HB := n1_; clear n0_ n1_; (try clear hb); (try clear hb2); (try clear hk); (try clear hi)) | ((with_reducible refine gtD (N := 10) rfl ?_); refine bxE ?hg (N := 10) ?hd (cs := #[.int .i64 0, .int .i64 0]) (t := 23) ?hr ?_; (case hd => rfl); (case hg => rfl); (case hr => first | (go_simp; done) | (go_simp; rfl)); intro gb412 hg w13 hbox hb; have n0_ := Z0.mk (Kd.R_below (Kd.R_elderB (by (with_reducible repeat (first | apply Kd.R_alloc | apply Kd.R_drewN | apply Kd.R_drew)); exact HO_6.out) gb412 (Nat.le_of_eq hg.symm)) hb); have n1_ := Z0.mk (bwT (by repeat (first | (with_reducible first | exact HB.out | apply bwA | apply bwN | apply bw1) | exact HB.out)) hb); have n2_ := Z0.mk (hbox); have n3_ := Z0.mk ((by rw [hg]; exact (bwZ (by repeat (first | (with_reducible first | exact HB.out | apply bwA | apply bwN | apply bw1) | exact HB.out))) : w.heap.size ≤ gb412)); have n4_ := Z0.mk ((by rw [hg]; exact (bwZ (by repeat (first | (with_reducible first | exact HB.out | apply bwA | apply bwN | apply bw1) | exact HB.out))) : w.heap.size ≤ gb412)); clear HO_6; clear HB; have HO_6 := n0_; have HB := n1_; have BK412 := n2_; have GW412 := n3_; have GE412 := n4_; clear n0_ n1_ n2_ n3_ n4_; clear hb hbox hg; have hcz14_0 : w13.cell? ⟨gb412, 0, none⟩ = some (.int .i64 0) := (bkC BK412.out 0).trans rfl; have hcz14_1 : w13.cell? ⟨gb412, 1, none⟩ = some (.int .i64 0) := (bkC BK412.out 1).trans rfl; have hfz14_0 := bkZ BK412.out 0; have hfz14_1 := bkZ BK412.out 1))
           repeat (go_quiet (first | (go_at_call 79; (with_reducible refine (cr6_ratio.calls k2 (wrap64 (x7_2 + (wrap64 ((wrap64 ((wrap64 (2 * a1)) * ((rd_T112 l0 x8_1).f1.f0))) * (wrap64 (Int.tdiv (2329089562800 : Int) ((rd_T112 l0 x8_1).f1.f1))))))) 2329089562800 t410 t411 _ A10.out).mono ?_); rintro e w12 ⟨rfl, hb⟩; have n0_ := Z0.mk (Kd.R_below (by (with_reducible repeat (first | apply Kd.R_alloc | apply Kd.R_drewN | apply Kd.R_drew)); exact HO_6.out) hb); have n1_ := Z0.mk (bwT (by repeat (first | (with_reducible first | exact HB.out | apply bwA | apply bwN | apply bw1) | exact HB.out)) hb); clear HO_6; clear HB; have HO_6 := n0_; have HB := n1_; clear n0_ n1_; (try clear hb); (try clear hb2); (try clear hk); (try clear hi)) | ((with_reducible refine gtD (N := 10) rfl ?_); refine bxE ?hg (N := 10) ?hd (cs := #[.int .i64 0, .int .i64 0]) (t := 23) ?hr ?_; (case hd => rfl); (case hg => rfl); (case hr => first | (go_simp; done) | (go_simp; rfl)); intro gb412 hg w13 hbox hb; have n0_ := Z0.mk (Kd.R_below (Kd.R_elderB (by (with_reducible repeat (first | apply Kd.R_alloc | apply Kd.R_drewN | apply Kd.R_drew)); exact HO_6.out) gb412 (Nat.le_of_eq hg.symm)) hb); have n1_ := Z0.mk (bwT (by repeat (first | (with_reducible first | exact HB.out | apply bwA | apply bwN | apply bw1) | exact HB.out)) hb); have n2_ := Z0.mk (hbox); have n3_ := Z0.mk ((by rw [hg]; exact (bwZ (by repeat (first | (with_reducible first | exact HB.out | apply bwA | apply bwN | apply bw1) | exact HB.out))) : w.heap.size ≤ gb412)); have n4_ := Z0.mk ((by rw [hg]; exact (bwZ (by repeat (first | (with_reducible first | exact HB.out | apply bwA | apply bwN | apply bw1) | exact HB.out))) : w.heap.size ≤ gb412)); clear HO_6; clear HB; have HO_6 := n0_; have HB := n1_; have BK412 := n2_; have GW412 := n3_; have GE412 := n4_; clear n0_ n1_ n2_ n3_ n4_; clear hb hbox hg; have hcz14_0 : w13.cell? ⟨gb412, 0, none⟩ = some (.int .i64 0) := (bkC BK412.out 0).trans rfl; have hcz14_1 : w13.cell? ⟨gb412, 1, none⟩ = some (.int .i64 0) := (bkC BK412.out 1).trans rfl; have hfz14_0 := bkZ BK412.out 0; have hfz14_1 := bkZ BK412.out 1)); try go_wp2_with (first | (go_at_call 79; (with_reducible refine (cr6_ratio.calls k2 (wrap64 (x7_2 + (wrap64 ((wrap64 ((wrap64 (2 * a1)) * ((rd_T112 l0 x8_1).f1.f0))) * (wrap64 (Int.tdiv (2329089562800 : Int) ((rd_T112 l0 x8_1).f1.f1))))))) 2329089562800 t410 t411 _ A10.out).mono ?_); rintro e w12 ⟨rfl, hb⟩; have n0_ := Z0.mk (Kd.R_below (by (with_reducible repeat (first | apply Kd.R_alloc | apply Kd.R_drewN | apply Kd.R_drew)); exact HO_6.out) hb); have n1_ := Z0.mk (bwT (by repeat (first | (with_reducible first | exact HB.out | apply bwA | apply bwN | apply bw1) | exact HB.out)) hb); clear HO_6; clear HB; have HO_6 := n0_; have HB := n1_; clear n0_ n1_; (try clear hb); (try clear hb2); (try clear hk); (try clear hi)) | ((with_reducible refine gtD (N := 10) rfl ?_); refine bxE ?hg (N := 10) ?hd (cs := #[.int .i64 0, .int .i64 0]) (t := 23) ?hr ?_; (case hd => rfl); (case hg => rfl); (case hr => first | (go_simp; done) | (go_simp; rfl)); intro gb412 hg w13 hbox hb; have n0_ := Z0.mk (Kd.R_below (Kd.R_elderB (by (with_reducible repeat (first | apply Kd.R_alloc | apply Kd.R_drewN | apply Kd.R_drew)); exact HO_6.out) gb412 (Nat.le_of_eq hg.symm)) hb); have n1_ := Z0.mk (bwT (by repeat (first | (with_reducible first | exact HB.out | apply bwA | apply bwN | apply bw1) | exact HB.out)) hb); have n2_ := Z0.mk (hbox); have n3_ := Z0.mk ((by rw [hg]; exact (bwZ (by repeat (first | (with_reducible first | exact HB.out | apply bwA | apply bwN | apply bw1) | exact HB.out))) : w.heap.size ≤ gb412)); have n4_ := Z0.mk ((by rw [hg]; exact (bwZ (by repeat (first | (with_reducible first | exact HB.out | apply bwA | apply bwN | apply bw1) | exact HB.out))) : w.heap.size ≤ gb412)); clear HO_6; clear HB; have HO_6 := n0_; have HB := n1_; have BK412 := n2_; have GW412 := n3_; have GE412 := n4_; clear n0_ n1_ n2_ n3_ n4_; clear hb hbox hg; have hcz14_0 : w13.cell? ⟨gb412, 0, none⟩ = some (.int .i64 0) := (bkC BK412.out 0).trans rfl; have hcz14_1 : w13.cell? ⟨gb412, 1, none⟩ = some (.int .i64 0) := (bkC BK412.out 1).trans rfl; have hfz14_0 := bkZ BK412.out 0; have hfz14_1 := bkZ BK412.out 1)))
           go_ret2
           exact ⟨_, by first | rfl | (simp [errW_none, errW_some] <;> rfl) | (simp [*, errW_none, errW_some] <;> rfl), by first | exact Kd.R_nil _ _ _ _ _ | exact Kd.N_nil _ _ _ _ _ | exact Kd.V_nil _ _ _ _ _ | exact Kd.Q_nil _ _ _ _ _ | exact Kd.S_nil _ _ _ _ _, by repeat (first | (with_reducible first | exact HB.out | apply bwA | apply bwN | apply bw1 | refine bwS ?_ GE412.out) | exact HB.out)⟩
          ·rw [if_neg c11] at H
           have c11b0 : decide (999999999 < t410) = false := decide_eq_false c11
           clear c11
           by_cases c15 : t411 > 999999999
           ·rw [if_pos c15] at H
            have c15b0 : decide (999999999 < t411) = true := decide_eq_true c15
            clear c15
            simp only [Option.some.injEq, Prod.mk.injEq] at H
            obtain ⟨rfl, rfl⟩ := H
            have p407 : 0 ≤ (x8_1 : Int) := of_decide_eq_true (by first | (with_reducible assumption) | assumption)
            have q407 : x8_1 < (l0.length : Int) := of_decide_eq_true (by first | (with_reducible assumption) | assumption)
            obtain ⟨ad407, e407, hx407_0, hx407_1, hx407_2⟩ := at_T112 HR0.out x8_1 p407 q407
            cases e407
            replace hx407_0 := (HB.out.cell (World.block_lt_of_cell? w _ hx407_0)).trans hx407_0
            replace hx407_1 := (HB.out.cell (World.block_lt_of_cell? w _ hx407_1)).trans hx407_1
            replace hx407_2 := (HB.out.cell (World.block_lt_of_cell? w _ hx407_2)).trans hx407_2
            replace p407 := eq_true p407
            replace q407 := eq_true q407
            have p408 : 0 ≤ (x8_1 : Int) := of_decide_eq_true (by first | (with_reducible assumption) | assumption)
            have q408 : x8_1 < (l0.length : Int) := of_decide_eq_true (by first | (with_reducible assumption) | assumption)
            obtain ⟨ad408, e408, hx408_0, hx408_1, hx408_2⟩ := at_T112 HR0.out x8_1 p408 q408
            obtain rfl : ad407 = ad408 := (by injection e408)
            replace hx408_0 := (HB.out.cell (World.block_lt_of_cell? w _ hx408_0)).trans hx408_0
            replace hx408_1 := (HB.out.cell (World.block_lt_of_cell? w _ hx408_1)).trans hx408_1
            replace hx408_2 := (HB.out.cell (World.block_lt_of_cell? w _ hx408_2)).trans hx408_2
            replace p408 := eq_true p408
            replace q408 := eq_true q408
            have p409 : 0 ≤ (x8_1 : Int) := of_decide_eq_true (by first | (with_reducible assumption) | assumption)
            have q409 : x8_1 < (l0.length : Int) := of_decide_eq_true (by first | (with_reducible assumption) | assumption)
            obtain ⟨ad409, e409, hx409_0, hx409_1, hx409_2⟩ := at_T112 HR0.out x8_1 p409 q409
            obtain rfl : ad407 = ad409 := (by injection e409)
            replace hx409_0 := (HB.out.cell (World.block_lt_of_cell? w _ hx409_0)).trans hx409_0
            replace hx409_1 := (HB.out.cell (World.block_lt_of_cell? w _ hx409_1)).trans hx409_1
            replace hx409_2 := (HB.out.cell (World.block_lt_of_cell? w _ hx409_2)).trans hx409_2
            replace p409 := eq_true p409
            replace q409 := eq_true q409
            go_wp2_with (first | (go_at_call 79; (with_reducible refine (cr6_ratio.calls k2 (wrap64 (x7_2 + (wrap64 ((wrap64 ((wrap64 (2 * a1)) * ((rd_T112 l0 x8_1).f1.f0))) * (wrap64 (Int.tdiv (2329089562800 : Int) ((rd_T112 l0 x8_1).f1.f1))))))) 2329089562800 t410 t411 _ A10.out).mono ?_); rintro e w16 ⟨rfl, hb⟩; have n0_ := Z0.mk (Kd.R_below (by (with_reducible repeat (first | apply Kd.R_alloc | apply Kd.R_drewN | apply Kd.R_drew)); exact HO_6.out) hb); have n1_ := Z0.mk (bwT (by repeat (first | (with_reducible first | exact HB.out | apply bwA | apply bwN | apply bw1) | exact HB.out)) hb); clear HO_6; clear HB; have HO_6 := n0_; have HB := n1_; clear n0_ n1_; (try clear hb); (try clear hb2); (try clear hk); (try clear hi)) | ((with_reducible refine gtD (N := 10) rfl ?_); refine bxE ?hg (N := 10) ?hd (cs := #[.int .i64 0, .int .i64 0]) (t := 23) ?hr ?_; (case hd => rfl); (case hg => rfl); (case hr => first | (go_simp; done) | (go_simp; rfl)); intro gb412 hg w17 hbox hb; have n0_ := Z0.mk (Kd.R_below (Kd.R_elderB (by (with_reducible repeat (first | apply Kd.R_alloc | apply Kd.R_drewN | apply Kd.R_drew)); exact HO_6.out) gb412 (Nat.le_of_eq hg.symm)) hb); have n1_ := Z0.mk (bwT (by repeat (first | (with_reducible first | exact HB.out | apply bwA | apply bwN | apply bw1) | exact HB.out)) hb); have n2_ := Z0.mk (hbox); have n3_ := Z0.mk ((by rw [hg]; exact (bwZ (by repeat (first | (with_reducible first | exact HB.out | apply bwA | apply bwN | apply bw1) | exact HB.out))) : w.heap.size ≤ gb412)); have n4_ := Z0.mk ((by rw [hg]; exact (bwZ (by repeat (first | (with_reducible first | exact HB.out | apply bwA | apply bwN | apply bw1) | exact HB.out))) : w.heap.size ≤ gb412)); clear HO_6; clear HB; have HO_6 := n0_; have HB := n1_; have BK412 := n2_; have GW412 := n3_; have GE412 := n4_; clear n0_ n1_ n2_ n3_ n4_; clear hb hbox hg; have hcz18_0 : w17.cell? ⟨gb412, 0, none⟩ = some (.int .i64 0) := (bkC BK412.out 0).trans rfl; have hcz18_1 : w17.cell? ⟨gb412, 1, none⟩ = some (.int .i64 0) := (bkC BK412.out 1).trans rfl; have hfz18_0 := bkZ BK412.out 0; have hfz18_1 := bkZ BK412.out 1))
            repeat (go_quiet (first | (go_at_call 79; (with_reducible refine (cr6_ratio.calls k2 (wrap64 (x7_2 + (wrap64 ((wrap64 ((wrap64 (2 * a1)) * ((rd_T112 l0 x8_1).f1.f0))) * (wrap64 (Int.tdiv (2329089562800 : Int) ((rd_T112 l0 x8_1).f1.f1))))))) 2329089562800 t410 t411 _ A10.out).mono ?_); rintro e w16 ⟨rfl, hb⟩; have n0_ := Z0.mk (Kd.R_below (by (with_reducible repeat (first | apply Kd.R_alloc | apply Kd.R_drewN | apply Kd.R_drew)); exact HO_6.out) hb); have n1_ := Z0.mk (bwT (by repeat (first | (with_reducible first | exact HB.out | apply bwA | apply bwN | apply bw1) | exact HB.out)) hb); clear HO_6; clear HB; have HO_6 := n0_; have HB := n1_; clear n0_ n1_; (try clear hb); (try clear hb2); (try clear hk); (try clear hi)) | ((with_reducible refine gtD (N := 10) rfl ?_); refine bxE ?hg (N := 10) ?hd (cs := #[.int .i64 0, .int .i64 0]) (t := 23) ?hr ?_; (case hd => rfl); (case hg => rfl); (case hr => first | (go_simp; done) | (go_simp; rfl)); intro gb412 hg w17 hbox hb; have n0_ := Z0.mk (Kd.R_below (Kd.R_elderB (by (with_reducible repeat (first | apply Kd.R_alloc | apply Kd.R_drewN | apply Kd.R_drew)); exact HO_6.out) gb412 (Nat.le_of_eq hg.symm)) hb); have n1_ := Z0.mk (bwT (by repeat (first | (with_reducible first | exact HB.out | apply bwA | apply bwN | apply bw1) | exact HB.out)) hb); have n2_ := Z0.mk (hbox); have n3_ := Z0.mk ((by rw [hg]; exact (bwZ (by repeat (first | (with_reducible first | exact HB.out | apply bwA | apply bwN | apply bw1) | exact HB.out))) : w.heap.size ≤ gb412)); have n4_ := Z0.mk ((by rw [hg]; exact (bwZ (by repeat (first | (with_reducible first | exact HB.out | apply bwA | apply bwN | apply bw1) | exact HB.out))) : w.heap.size ≤ gb412)); clear HO_6; clear HB; have HO_6 := n0_; have HB := n1_; have BK412 := n2_; have GW412 := n3_; have GE412 := n4_; clear n0_ n1_ n2_ n3_ n4_; clear hb hbox hg; have hcz18_0 : w17.cell? ⟨gb412, 0, none⟩ = some (.int .i64 0) := (bkC BK412.out 0).trans rfl; have hcz18_1 : w17.cell? ⟨gb412, 1, none⟩ = some (.int .i64 0) := (bkC BK412.out 1).trans rfl; have hfz18_0 := bkZ BK412.out 0; have hfz18_1 := bkZ BK412.out 1)); try go_wp2_with (first | (go_at_call 79; (with_reducible refine (cr6_ratio.calls k2 (wrap64 (x7_2 + (wrap64 ((wrap64 ((wrap64 (2 * a1)) * ((rd_T112 l0 x8_1).f1.f0))) * (wrap64 (Int.tdiv (2329089562800 : Int) ((rd_T112 l0 x8_1).f1.f1))))))) 2329089562800 t410 t411 _ A10.out).mono ?_); rintro e w16 ⟨rfl, hb⟩; have n0_ := Z0.mk (Kd.R_below (by (with_reducible repeat (first | apply Kd.R_alloc | apply Kd.R_drewN | apply Kd.R_drew)); exact HO_6.out) hb); have n1_ := Z0.mk (bwT (by repeat (first | (with_reducible first | exact HB.out | apply bwA | apply bwN | apply bw1) | exact HB.out)) hb); clear HO_6; clear HB; have HO_6 := n0_; have HB := n1_; clear n0_ n1_; (try clear hb); (try clear hb2); (try clear hk); (try clear hi)) | ((with_reducible refine gtD (N := 10) rfl ?_); refine bxE ?hg (N := 10) ?hd (cs := #[.int .i64 0, .int .i64 0]) (t := 23) ?hr ?_; (case hd => rfl); (case hg => rfl); (case hr => first | (go_simp; done) | (go_simp; rfl)); intro gb412 hg w17 hbox hb; have n0_ := Z0.mk (Kd.R_below (Kd.R_elderB (by (with_reducible repeat (first | apply Kd.R_alloc | apply Kd.R_drewN | apply Kd.R_drew)); exact HO_6.out) gb412 (Nat.le_of_eq hg.symm)) hb); have n1_ := Z0.mk (bwT (by repeat (first | (with_reducible first | exact HB.out | apply bwA | apply bwN | apply bw1) | exact HB.out)) hb); have n2_ := Z0.mk (hbox); have n3_ := Z0.mk ((by rw [hg]; exact (bwZ (by repeat (first | (with_reducible first | exact HB.out | apply bwA | apply bwN | apply bw1) | exact HB.out))) : w.heap.size ≤ gb412)); have n4_ := Z0.mk ((by rw [hg]; exact (bwZ (by repeat (first | (with_reducible first | exact HB.out | apply bwA | apply bwN | apply bw1) | exact HB.out))) : w.heap.size ≤ gb412)); clear HO_6; clear HB; have HO_6 := n0_; have HB := n1_; have BK412 := n2_; have GW412 := n3_; have GE412 := n4_; clear n0_ n1_ n2_ n3_ n4_; clear hb hbox hg; have hcz18_0 : w17.cell? ⟨gb412, 0, none⟩ = some (.int .i64 0) := (bkC BK412.out 0).trans rfl; have hcz18_1 : w17.cell? ⟨gb412, 1, none⟩ = some (.int .i64 0) := (bkC BK412.out 1).trans rfl; have hfz18_0 := bkZ BK412.out 0; have hfz18_1 := bkZ BK412.out 1)))
            go_ret2
            exact ⟨_, by first | rfl | (simp [errW_none, errW_some] <;> rfl) | (simp [*, errW_none, errW_some] <;> rfl), by first | exact Kd.R_nil _ _ _ _ _ | exact Kd.N_nil _ _ _ _ _ | exact Kd.V_nil _ _ _ _ _ | exact Kd.Q_nil _ _ _ _ _ | exact Kd.S_nil _ _ _ _ _, by repeat (first | (with_reducible first | exact HB.out | apply bwA | apply bwN | apply bw1 | refine bwS ?_ GE412.out) | exact HB.out)⟩
           ·rw [if_neg c15] at H
            have c15b0 : decide (999999999 < t411) = false := decide_eq_false c15
            clear c15
            by_cases c19 : x6_2.length < 8796093022208
            ·rw [if_pos c19] at H
             have LMc19 := Z0.mk c19
             clear c19
             obtain ⟨y413, hy413⟩ : ∃ y_ : List (S23), y_ = (x6_2 ++ [(⟨t410, t411⟩ : S23)]) := ⟨_, rfl⟩
             replace H : (cr6_Marks.l1 k2 l0 a1 y413 (wrap64 (x7_2 + (wrap64 ((wrap64 ((wrap64 (2 * a1)) * ((rd_T112 l0 x8_1).f1.f0))) * (wrap64 (Int.tdiv (2329089562800 : Int) ((rd_T112 l0 x8_1).f1.f1))))))) x8_1 (wrap64 (x9_2 + 1))) = some (r1, r2) := by first | (rw [hy413]; with_reducible exact H) | (have H2_ := (Option.bind_some _ _).symm.trans H; rw [hy413]; with_reducible exact H2_) | (have H2_ := (Option.bind_some _ _).symm.trans H; with_reducible exact H2_) | with_reducible exact H | (rw [hy413]; exact H) | exact H
             have Ny413 := Z0.mk hy413
             clear hy413
             have H' := Z0.mk H
             clear H
             have p407 : 0 ≤ (x8_1 : Int) := of_decide_eq_true (by first | (with_reducible assumption) | assumption)
             have q407 : x8_1 < (l0.length : Int) := of_decide_eq_true (by first | (with_reducible assumption) | assumption)
             obtain ⟨ad407, e407, hx407_0, hx407_1, hx407_2⟩ := at_T112 HR0.out x8_1 p407 q407
             cases e407
             replace hx407_0 := (HB.out.cell (World.block_lt_of_cell? w _ hx407_0)).trans hx407_0
             replace hx407_1 := (HB.out.cell (World.block_lt_of_cell? w _ hx407_1)).trans hx407_1
             replace hx407_2 := (HB.out.cell (World.block_lt_of_cell? w _ hx407_2)).trans hx407_2
             replace p407 := eq_true p407
             replace q407 := eq_true q407
             have p408 : 0 ≤ (x8_1 : Int) := of_decide_eq_true (by first | (with_reducible assumption) | assumption)
             have q408 : x8_1 < (l0.length : Int) := of_decide_eq_true (by first | (with_reducible assumption) | assumption)
             obtain ⟨ad408, e408, hx408_0, hx408_1, hx408_2⟩ := at_T112 HR0.out x8_1 p408 q408
             obtain rfl : ad407 = ad408 := (by injection e408)
             replace hx408_0 := (HB.out.cell (World.block_lt_of_cell? w _ hx408_0)).trans hx408_0
             replace hx408_1 := (HB.out.cell (World.block_lt_of_cell? w _ hx408_1)).trans hx408_1
             replace hx408_2 := (HB.out.cell (World.block_lt_of_cell? w _ hx408_2)).trans hx408_2
             replace p408 := eq_true p408
             replace q408 := eq_true q408
             have p409 : 0 ≤ (x8_1 : Int) := of_decide_eq_true (by first | (with_reducible assumption) | assumption)
             have q409 : x8_1 < (l0.length : Int) := of_decide_eq_true (by first | (with_reducible assumption) | assumption)
             obtain ⟨ad409, e409, hx409_0, hx409_1, hx409_2⟩ := at_T112 HR0.out x8_1 p409 q409
             obtain rfl : ad407 = ad409 := (by injection e409)
             replace hx409_0 := (HB.out.cell (World.block_lt_of_cell? w _ hx409_0)).trans hx409_0
             replace hx409_1 := (HB.out.cell (World.block_lt_of_cell? w _ hx409_1)).trans hx409_1
             replace hx409_2 := (HB.out.cell (World.block_lt_of_cell? w _ hx409_2)).trans hx409_2
             replace p409 := eq_true p409
             replace q409 := eq_true q409
             go_wp2_with (first | (go_at_call 79; (with_reducible refine (cr6_ratio.calls k2 (wrap64 (x7_2 + (wrap64 ((wrap64 ((wrap64 (2 * a1)) * ((rd_T112 l0 x8_1).f1.f0))) * (wrap64 (Int.tdiv (2329089562800 : Int) ((rd_T112 l0 x8_1).f1.f1))))))) 2329089562800 t410 t411 _ A10.out).mono ?_); rintro e w20 ⟨rfl, hb⟩; have n0_ := Z0.mk (Kd.R_below (by (with_reducible repeat (first | apply Kd.R_alloc | apply Kd.R_drewN | apply Kd.R_drew)); exact HO_6.out) hb); have n1_ := Z0.mk (bwT (by repeat (first | (with_reducible first | exact HB.out | apply bwA | apply bwN | apply bw1) | exact HB.out)) hb); clear HO_6; clear HB; have HO_6 := n0_; have HB := n1_; clear n0_ n1_; (try clear hb); (try clear hb2); (try clear hk); (try clear hi)) | ((with_reducible refine gtD (N := 10) rfl ?_); refine bxE ?hg (N := 10) ?hd (cs := #[.int .i64 0, .int .i64 0]) (t := 23) ?hr ?_; (case hd => rfl); (case hg => rfl); (case hr => first | (go_simp; done) | (go_simp; rfl)); intro gb412 hg w21 hbox hb; have n0_ := Z0.mk (Kd.R_below (Kd.R_elderB (by (with_reducible repeat (first | apply Kd.R_alloc | apply Kd.R_drewN | apply Kd.R_drew)); exact HO_6.out) gb412 (Nat.le_of_eq hg.symm)) hb); have n1_ := Z0.mk (bwT (by repeat (first | (with_reducible first | exact HB.out | apply bwA | apply bwN | apply bw1) | exact HB.out)) hb); have n2_ := Z0.mk (hbox); have n3_ := Z0.mk ((by rw [hg]; exact (bwZ (by repeat (first | (with_reducible first | exact HB.out | apply bwA | apply bwN | apply bw1) | exact HB.out))) : w.heap.size ≤ gb412)); have n4_ := Z0.mk ((by rw [hg]; exact (bwZ (by repeat (first | (with_reducible first | exact HB.out | apply bwA | apply bwN | apply bw1) | exact HB.out))) : w.heap.size ≤ gb412)); clear HO_6; clear HB; have HO_6 := n0_; have HB := n1_; have BK412 := n2_; have GW412 := n3_; have GE412 := n4_; clear n0_ n1_ n2_ n3_ n4_; clear hb hbox hg; have hcz22_0 : w21.cell? ⟨gb412, 0, none⟩ = some (.int .i64 0) := (bkC BK412.out 0).trans rfl; have hcz22_1 : w21.cell? ⟨gb412, 1, none⟩ = some (.int .i64 0) := (bkC BK412.out 1).trans rfl; have hfz22_0 := bkZ BK412.out 0; have hfz22_1 := bkZ BK412.out 1) | ((with_reducible refine gate_builtin (b := .append) (xs := #[.tmp 57, .tmp 59]) rfl ?_); at_builtin; refine Kd.R_append k23 (w0 := w) w.heap.size rfl (.tmp 57) (.tmp 59) 65 23 (.agg #[(.int .i64 0), (.int .i64 0)]) 16 rfl Tryd.underlying65 info23 rfl (by decide) (by omega) u6 x6_2 (⟨t410, t411⟩ : S23) [.int .i64 t410, .int .i64 t411] (fun k_ => k_ ≠ gb412) (fun _ => False) rfl (by first | (go_simp; done) | (go_simp; rfl)) ?aP (fun _ hk => hk.elim) ?aF ?aO ?aB ?aS ?aL ?_; (case aP => exact k23_mkM _ _ _ (⟨t410, t411⟩ : S23)); (case aB => exact (by repeat (first | (with_reducible first | exact HB.out | apply bwA | apply bwN | apply bw1 | refine bwS ?_ GE412.out) | exact HB.out))); (case aF => exact (fun k_ hk => Kd.freshB (g := gb412) (o := .cells #[.int .i64 t410, .int .i64 t411] 23 (0, 0)) (by (with_reducible repeat (first | refine bkN ?_ _ | refine bkD ?_ | refine bkA ?_ _)); refine bkP (cs := #[.int .i64 t410, .int .i64 0]) ?_ 1 _ rfl; (with_reducible repeat (first | refine bkN ?_ _ | refine bkD ?_ | refine bkA ?_ _)); refine bkP (cs := #[.int .i64 0, .int .i64 0]) ?_ 0 _ rfl; (with_reducible repeat (first | refine bkN ?_ _ | refine bkD ?_ | refine bkA ?_ _)); exact BK412.out) k_ hk)); (case aO => exact (by (with_reducible repeat (first | apply Kd.R_alloc | apply Kd.R_drewN | apply Kd.R_drew)); exact Kd.R_mono (Kd.R_far (p := ⟨gb412, 1, none⟩) (Kd.R_far (p := ⟨gb412, 0, none⟩) (Kd.R_mono HO_6.out (fun k_ hk => (⟨hk, hk.2⟩ : _ ∧ k_ ≠ gb412))) (fun _ hk => hk.2) (.int .i64 t410)) (fun _ hk => hk.2) (.int .i64 t411)) (fun _ hk => hk.1.2))); (case aS => exact (bwZ (by repeat (first | (with_reducible first | exact HB.out | apply bwA | apply bwN | apply bw1 | refine bwS ?_ GE412.out) | exact HB.out)))); (case aL => have := LMc19.out; omega); intro v414 w23 ho hb hg hat; rw [← Ny413.out] at ho; have n0_ := Z0.mk (blk_grown (g := gb412) (o := .cells #[.int .i64 t410, .int .i64 t411] 23 (0, 0)) (by (with_reducible repeat (first | refine bkN ?_ _ | refine bkD ?_ | refine bkA ?_ _)); refine bkP (cs := #[.int .i64 t410, .int .i64 0]) ?_ 1 _ rfl; (with_reducible repeat (first | refine bkN ?_ _ | refine bkD ?_ | refine bkA ?_ _)); refine bkP (cs := #[.int .i64 0, .int .i64 0]) ?_ 0 _ rfl; (with_reducible repeat (first | refine bkN ?_ _ | refine bkD ?_ | refine bkA ?_ _)); exact BK412.out) hg (Kd.R_away HO_6.out (fun _ hk => hk.2))); have n1_ := Z0.mk (hb); have n2_ := Z0.mk (ho); clear BK412; clear HB; clear HO_6; have BK412 := n0_; have HB := n1_; have HO415 := n2_; clear n0_ n1_ n2_; clear ho hb hg hat))
             repeat (go_quiet (first | (go_at_call 79; (with_reducible refine (cr6_ratio.calls k2 (wrap64 (x7_2 + (wrap64 ((wrap64 ((wrap64 (2 * a1)) * ((rd_T112 l0 x8_1).f1.f0))) * (wrap64 (Int.tdiv (2329089562800 : Int) ((rd_T112 l0 x8_1).f1.f1))))))) 2329089562800 t410 t411 _ A10.out).mono ?_); rintro e w20 ⟨rfl, hb⟩; have n0_ := Z0.mk (Kd.R_below (by (with_reducible repeat (first | apply Kd.R_alloc | apply Kd.R_drewN | apply Kd.R_drew)); exact HO_6.out) hb); have n1_ := Z0.mk (bwT (by repeat (first | (with_reducible first | exact HB.out | apply bwA | apply bwN | apply bw1) | exact HB.out)) hb); clear HO_6; clear HB; have HO_6 := n0_; have HB := n1_; clear n0_ n1_; (try clear hb); (try clear hb2); (try clear hk); (try clear hi)) | ((with_reducible refine gtD (N := 10) rfl ?_); refine bxE ?hg (N := 10) ?hd (cs := #[.int .i64 0, .int .i64 0]) (t := 23) ?hr ?_; (case hd => rfl); (case hg => rfl); (case hr => first | (go_simp; done) | (go_simp; rfl)); intro gb412 hg w21 hbox hb; have n0_ := Z0.mk (Kd.R_below (Kd.R_elderB (by (with_reducible repeat (first | apply Kd.R_alloc | apply Kd.R_drewN | apply Kd.R_drew)); exact HO_6.out) gb412 (Nat.le_of_eq hg.symm)) hb); have n1_ := Z0.mk (bwT (by repeat (first | (with_reducible first | exact HB.out | apply bwA | apply bwN | apply bw1) | exact HB.out)) hb); have n2_ := Z0.mk (hbox); have n3_ := Z0.mk ((by rw [hg]; exact (bwZ (by repeat (first | (with_reducible first | exact HB.out | apply bwA | apply bwN | apply bw1) | exact HB.out))) : w.heap.size ≤ gb412)); have n4_ := Z0.mk ((by rw [hg]; exact (bwZ (by repeat (first | (with_reducible first | exact HB.out | apply bwA | apply bwN | apply bw1) | exact HB.out))) : w.heap.size ≤ gb412)); clear HO_6; clear HB; have HO_6 := n0_; have HB := n1_; have BK412 := n2_; have GW412 := n3_; have GE412 := n4_; clear n0_ n1_ n2_ n3_ n4_; clear hb hbox hg; have hcz22_0 : w21.cell? ⟨gb412, 0, none⟩ = some (.int .i64 0) := (bkC BK412.out 0).trans rfl; have hcz22_1 : w21.cell? ⟨gb412, 1, none⟩ = some (.int .i64 0) := (bkC BK412.out 1).trans rfl; have hfz22_0 := bkZ BK412.out 0; have hfz22_1 := bkZ BK412.out 1) | ((with_reducible refine gate_builtin (b := .append) (xs := #[.tmp 57, .tmp 59]) rfl ?_); at_builtin; refine Kd.R_append k23 (w0 := w) w.heap.size rfl (.tmp 57) (.tmp 59) 65 23 (.agg #[(.int .i64 0), (.int .i64 0)]) 16 rfl Tryd.underlying65 info23 rfl (by decide) (by omega) u6 x6_2 (⟨t410, t411⟩ : S23) [.int .i64 t410, .int .i64 t411] (fun k_ => k_ ≠ gb412) (fun _ => False) rfl (by first | (go_simp; done) | (go_simp; rfl)) ?aP (fun _ hk => hk.elim) ?aF ?aO ?aB ?aS ?aL ?_; (case aP => exact k23_mkM _ _ _ (⟨t410, t411⟩ : S23)); (case aB => exact (by repeat (first | (with_reducible first | exact HB.out | apply bwA | apply bwN | apply bw1 | refine bwS ?_ GE412.out) | exact HB.out))); (case aF => exact (fun k_ hk => Kd.freshB (g := gb412) (o := .cells #[.int .i64 t410, .int .i64 t411] 23 (0, 0)) (by (with_reducible repeat (first | refine bkN ?_ _ | refine bkD ?_ | refine bkA ?_ _)); refine bkP (cs := #[.int .i64 t410, .int .i64 0]) ?_ 1 _ rfl; (with_reducible repeat (first | refine bkN ?_ _ | refine bkD ?_ | refine bkA ?_ _)); refine bkP (cs := #[.int .i64 0, .int .i64 0]) ?_ 0 _ rfl; (with_reducible repeat (first | refine bkN ?_ _ | refine bkD ?_ | refine bkA ?_ _)); exact BK412.out) k_ hk)); (case aO => exact (by (with_reducible repeat (first | apply Kd.R_alloc | apply Kd.R_drewN | apply Kd.R_drew)); exact Kd.R_mono (Kd.R_far (p := ⟨gb412, 1, none⟩) (Kd.R_far (p := ⟨gb412, 0, none⟩) (Kd.R_mono HO_6.out (fun k_ hk => (⟨hk, hk.2⟩ : _ ∧ k_ ≠ gb412))) (fun _ hk => hk.2) (.int .i64 t410)) (fun _ hk => hk.2) (.int .i64 t411)) (fun _ hk => hk.1.2))); (case aS => exact (bwZ (by repeat (first | (with_reducible first | exact HB.out | apply bwA | apply bwN | apply bw1 | refine bwS ?_ GE412.out) | exact HB.out)))); (case aL => have := LMc19.out; omega); intro v414 w23 ho hb hg hat; rw [← Ny413.out] at ho; have n0_ := Z0.mk (blk_grown (g := gb412) (o := .cells #[.int .i64 t410, .int .i64 t411] 23 (0, 0)) (by (with_reducible repeat (first | refine bkN ?_ _ | refine bkD ?_ | refine bkA ?_ _)); refine bkP (cs := #[.int .i64 t410, .int .i64 0]) ?_ 1 _ rfl; (with_reducible repeat (first | refine bkN ?_ _ | refine bkD ?_ | refine bkA ?_ _)); refine bkP (cs := #[.int .i64 0, .int .i64 0]) ?_ 0 _ rfl; (with_reducible repeat (first | refine bkN ?_ _ | refine bkD ?_ | refine bkA ?_ _)); exact BK412.out) hg (Kd.R_away HO_6.out (fun _ hk => hk.2))); have n1_ := Z0.mk (hb); have n2_ := Z0.mk (ho); clear BK412; clear HB; clear HO_6; have BK412 := n0_; have HB := n1_; have HO415 := n2_; clear n0_ n1_ n2_; clear ho hb hg hat)); try go_wp2_with (first | (go_at_call 79; (with_reducible refine (cr6_ratio.calls k2 (wrap64 (x7_2 + (wrap64 ((wrap64 ((wrap64 (2 * a1)) * ((rd_T112 l0 x8_1).f1.f0))) * (wrap64 (Int.tdiv (2329089562800 : Int) ((rd_T112 l0 x8_1).f1.f1))))))) 2329089562800 t410 t411 _ A10.out).mono ?_); rintro e w20 ⟨rfl, hb⟩; have n0_ := Z0.mk (Kd.R_below (by (with_reducible repeat (first | apply Kd.R_alloc | apply Kd.R_drewN | apply Kd.R_drew)); exact HO_6.out) hb); have n1_ := Z0.mk (bwT (by repeat (first | (with_reducible first | exact HB.out | apply bwA | apply bwN | apply bw1) | exact HB.out)) hb); clear HO_6; clear HB; have HO_6 := n0_; have HB := n1_; clear n0_ n1_; (try clear hb); (try clear hb2); (try clear hk); (try clear hi)) | ((with_reducible refine gtD (N := 10) rfl ?_); refine bxE ?hg (N := 10) ?hd (cs := #[.int .i64 0, .int .i64 0]) (t := 23) ?hr ?_; (case hd => rfl); (case hg => rfl); (case hr => first | (go_simp; done) | (go_simp; rfl)); intro gb412 hg w21 hbox hb; have n0_ := Z0.mk (Kd.R_below (Kd.R_elderB (by (with_reducible repeat (first | apply Kd.R_alloc | apply Kd.R_drewN | apply Kd.R_drew)); exact HO_6.out) gb412 (Nat.le_of_eq hg.symm)) hb); have n1_ := Z0.mk (bwT (by repeat (first | (with_reducible first | exact HB.out | apply bwA | apply bwN | apply bw1) | exact HB.out)) hb); have n2_ := Z0.mk (hbox); have n3_ := Z0.mk ((by rw [hg]; exact (bwZ (by repeat (first | (with_reducible first | exact HB.out | apply bwA | apply bwN | apply bw1) | exact HB.out))) : w.heap.size ≤ gb412)); have n4_ := Z0.mk ((by rw [hg]; exact (bwZ (by repeat (first | (with_reducible first | exact HB.out | apply bwA | apply bwN | apply bw1) | exact HB.out))) : w.heap.size ≤ gb412)); clear HO_6; clear HB; have HO_6 := n0_; have HB := n1_; have BK412 := n2_; have GW412 := n3_; have GE412 := n4_; clear n0_ n1_ n2_ n3_ n4_; clear hb hbox hg; have hcz22_0 : w21.cell? ⟨gb412, 0, none⟩ = some (.int .i64 0) := (bkC BK412.out 0).trans rfl; have hcz22_1 : w21.cell? ⟨gb412, 1, none⟩ = some (.int .i64 0) := (bkC BK412.out 1).trans rfl; have hfz22_0 := bkZ BK412.out 0; have hfz22_1 := bkZ BK412.out 1) | ((with_reducible refine gate_builtin (b := .append) (xs := #[.tmp 57, .tmp 59]) rfl ?_); at_builtin; refine Kd.R_append k23 (w0 := w) w.heap.size rfl (.tmp 57) (.tmp 59) 65 23 (.agg #[(.int .i64 0), (.int .i64 0)]) 16 rfl Tryd.underlying65 info23 rfl (by decide) (by omega) u6 x6_2 (⟨t410, t411⟩ : S23) [.int .i64 t410, .int .i64 t411] (fun k_ => k_ ≠ gb412) (fun _ => False) rfl (by first | (go_simp; done) | (go_simp; rfl)) ?aP (fun _ hk => hk.elim) ?aF ?aO ?aB ?aS ?aL ?_; (case aP => exact k23_mkM _ _ _ (⟨t410, t411⟩ : S23)); (case aB => exact (by repeat (first | (with_reducible first | exact HB.out | apply bwA | apply bwN | apply bw1 | refine bwS ?_ GE412.out) | exact HB.out))); (case aF => exact (fun k_ hk => Kd.freshB (g := gb412) (o := .cells #[.int .i64 t410, .int .i64 t411] 23 (0, 0)) (by (with_reducible repeat (first | refine bkN ?_ _ | refine bkD ?_ | refine bkA ?_ _)); refine bkP (cs := #[.int .i64 t410, .int .i64 0]) ?_ 1 _ rfl; (with_reducible repeat (first | refine bkN ?_ _ | refine bkD ?_ | refine bkA ?_ _)); refine bkP (cs := #[.int .i64 0, .int .i64 0]) ?_ 0 _ rfl; (with_reducible repeat (first | refine bkN ?_ _ | refine bkD ?_ | refine bkA ?_ _)); exact BK412.out) k_ hk)); (case aO => exact (by (with_reducible repeat (first | apply Kd.R_alloc | apply Kd.R_drewN | apply Kd.R_drew)); exact Kd.R_mono (Kd.R_far (p := ⟨gb412, 1, none⟩) (Kd.R_far (p := ⟨gb412, 0, none⟩) (Kd.R_mono HO_6.out (fun k_ hk => (⟨hk, hk.2⟩ : _ ∧ k_ ≠ gb412))) (fun _ hk => hk.2) (.int .i64 t410)) (fun _ hk => hk.2) (.int .i64 t411)) (fun _ hk => hk.1.2))); (case aS => exact (bwZ (by repeat (first | (with_reducible first | exact HB.out | apply bwA | apply bwN | apply bw1 | refine bwS ?_ GE412.out) | exact HB.out)))); (case aL => have := LMc19.out; omega); intro v414 w23 ho hb hg hat; rw [← Ny413.out] at ho; have n0_ := Z0.mk (blk_grown (g := gb412) (o := .cells #[.int .i64 t410, .int .i64 t411] 23 (0, 0)) (by (with_reducible repeat (first | refine bkN ?_ _ | refine bkD ?_ | refine bkA ?_ _)); refine bkP (cs := #[.int .i64 t410, .int .i64 0]) ?_ 1 _ rfl; (with_reducible repeat (first | refine bkN ?_ _ | refine bkD ?_ | refine bkA ?_ _)); refine bkP (cs := #[.int .i64 0, .int .i64 0]) ?_ 0 _ rfl; (with_reducible repeat (first | refine bkN ?_ _ | refine bkD ?_ | refine bkA ?_ _)); exact BK412.out) hg (Kd.R_away HO_6.out (fun _ hk => hk.2))); have n1_ := Z0.mk (hb); have n2_ := Z0.mk (ho); clear BK412; clear HB; clear HO_6; have BK412 := n0_; have HB := n1_; have HO415 := n2_; clear n0_ n1_ n2_; clear ho hb hg hat)))
             go_roundg k2
             case measure => have := HK1.out; have := HK2.out; omega
             case rel => exact ⟨(y413), (wrap64 (x7_2 + (wrap64 ((wrap64 ((wrap64 (2 * a1)) * ((rd_T112 l0 x8_1).f1.f0))) * (wrap64 (Int.tdiv (2329089562800 : Int) ((rd_T112 l0 x8_1).f1.f1))))))), (wrap64 (x9_2 + 1)), (by first | rfl | (simp; done) | (simp [*]; done)), (by first | rfl | (simp; done) | (simp [*]; done)), H', ⟨by have := HK1.out; have := HK2.out; omega⟩, ⟨by (with_reducible repeat (first | apply Kd.R_alloc | apply Kd.R_drewN | apply Kd.R_drew)); exact Kd.R_mono HO415.out (fun _ hk => trivial)⟩, ⟨by repeat (first | (with_reducible first | exact HB.out | apply bwA | apply bwN | apply bw1 | refine bwS ?_ GE412.out) | exact HB.out)⟩⟩
            ·rw [if_neg c19] at H
             exact absurd H (by simp)
        ·rw [if_neg c8] at H
         have c8b0 : decide (x9_2 < ((rd_T112 l0 x8_1).f0)) = false := decide_eq_false c8
         clear c8
         have H' := Z0.mk H
         clear H
         have p407 : 0 ≤ (x8_1 : Int) := of_decide_eq_true (by first | (with_reducible assumption) | assumption)
         have q407 : x8_1 < (l0.length : Int) := of_decide_eq_true (by first | (with_reducible assumption) | assumption)
         obtain ⟨ad407, e407, hx407_0, hx407_1, hx407_2⟩ := at_T112 HR0.out x8_1 p407 q407
         cases e407
         replace hx407_0 := (HB.out.cell (World.block_lt_of_cell? w _ hx407_0)).trans hx407_0
         replace hx407_1 := (HB.out.cell (World.block_lt_of_cell? w _ hx407_1)).trans hx407_1
         replace hx407_2 := (HB.out.cell (World.block_lt_of_cell? w _ hx407_2)).trans hx407_2
         replace p407 := eq_true p407
         replace q407 := eq_true q407
         go_wp2
         repeat (go_quiet (fail); try go_wp2)
         go_roundg k2
         case measure => have := HK1.out; have := HK2.out; omega
         case rel => exact ⟨(x6_2), (x7_2), (wrap64 (x8_1 + 1)), (by first | rfl | (simp; done) | (simp [*]; done)), (by first | rfl | (simp; done) | (simp [*]; done)), H', ⟨by have := HK1.out; have := HK2.out; omega⟩, ⟨by (with_reducible repeat (first | apply Kd.R_alloc | apply Kd.R_drewN | apply Kd.R_drew)); exact HO_6.out⟩, ⟨by repeat (first | (with_reducible first | exact HB.out | apply bwA | apply bwN | apply bw1) | exact HB.out)⟩⟩
       ·rw [if_neg c7] at H
        exact absurd H (by simp)
      ·rw [if_neg c6] at H
       exact absurd H (by simp)
   ·rw [if_neg c5] at H
    have c5b0 : decide (x8_1 < (l0.length : Int)) = false := decide_eq_false c5
    clear c5
    simp only [Option.some.injEq, Prod.mk.injEq] at H
    obtain ⟨rfl, rfl⟩ := H
    go_wp2
    repeat (go_quiet (fail); try go_wp2)
    go_ret2
    exact ⟨_, by first | rfl | (simp [errW_none, errW_some] <;> rfl) | (simp [*, errW_none, errW_some] <;> rfl), by (with_reducible repeat (first | apply Kd.R_alloc | apply Kd.R_drewN | apply Kd.R_drew)); exact HO_6.out, by repeat (first | (with_reducible first | exact HB.out | apply bwA | apply bwN | apply bw1) | exact HB.out)⟩
end Go.Proofs.YtppighiaffppkaaDoor.H
end
section
namespace Go.Proofs.YtppighiaffppkaaDoor.H
open Go.RowKit Go.Proofs.YtppighiaffppkaaDoorW.PrintWords Go.Proofs.YtppighiaffppkaaDoorW.PrintLast Go.Proofs.YtppighiaffppkaaDoorW.PrintMore
attribute [local go_sem] max2_int min2_int max_two min_two max_three min_three max_four min_four
set_option linter.unusedSimpArgs false
set_option linter.unusedVariables false
def cr6_Ties.l0 : Nat → Int → Int → List Int → Int → Option (List Int)
 | 0, _, _, _, _ => none
 | k + 1, x0, x1, x5, x6 => if x6 < x1 then (if x1 = 0 then (none) else (if x5.length < 17592186044416 then (cr6_Ties.l0 k x0 x1 (x5 ++ [wrap64 ((wrap64 (Int.tdiv (wrap64 ((wrap64 (x6 + 1)) * x0)) x1)) - (wrap64 (Int.tdiv (wrap64 (x6 * x0)) x1)))]) (wrap64 (x6 + 1))) else (none))) else (some x5)
def cr6_Ties.f (k : Nat) (a0 : Int) (a1 : Int) : Option (List Int) := cr6_Ties.l0 k a0 a1 ([] : List Int) 0
def cr6_Ties.T5 : Bool × List (List Nat × List Nat) := (true, [([], []), ([], []), ([1], [1]), ([], []), ([2, 3], [2, 3]), ([], []), ([4, 5], [4, 5]), ([], []), ([], []), ([7, 8], [7, 8]), ([], []), ([9, 10], [9, 10]), ([6, 11], [6, 11]), ([12], [12]), ([0, 13], [0, 13]), ([14, 14, 0, 1, 2, 3, 4, 5, 6, 7, 8, 9, 10, 11, 12, 13, 14], [0, 14])])
def cr6_Ties.B5 : List Nat := [0, 0, 2, 0, 14, 0, 62, 0, 0, 384, 0, 1920, 4094, 8190, 16383, 32767]
theorem cr6_Ties.tab5 : rtab .any (opsOf Tryd.f46 5) = cr6_Ties.T5 := by kernel_rfl
theorem cr6_Ties.bits5 : waitsOk cr6_Ties.T5.2 cr6_Ties.B5 = true := by kernel_rfl
set_option maxHeartbeats 8000000 in
set_option maxRecDepth 100000 in
theorem cr6_Ties.calls (k : Nat) (a0 : Int) (a1 : Int) (r : List Int) (w : World) (h : cr6_Ties.f k a0 a1 = some r) :
  Calls Tryd.prog 46 #[.int .i64 a0, .int .i64 a1] w fun e w' => ∃ v0_ : Value, e = .returned (v0_) ∧ Kd.R (Kd.int .i64) 3 w' w.heap.size (fun _ => True) v0_ r ∧ Below w.heap.size w w' := by
 have HB := Z0.mk (Below.refl w.heap.size w)
 have H : (cr6_Ties.l0 k a0 a1 ([] : List Int) 0) = some r := h
 clear h
 have H' := Z0.mk H
 clear H
 go_enter Tryd.func46, Tryd.ntmps46
 go_wp2
 go_loopg [5, 6] k (fun kq v5 v6 w' => ∃ (x5_1 : List Int) (x6_1 : Int), v6 = .int .i64 x6_1 ∧ Z0 (cr6_Ties.l0 kq a0 a1 x5_1 x6_1 = some r) ∧ Z0 (kq ≤ k) ∧ Z0 (Kd.R (Kd.int .i64) 3 w' w.heap.size (fun _ => True) v5 x5_1) ∧ Z0 (Below w.heap.size w w'))
 case atStart => exact ⟨(([] : List Int)), (0), (by first | rfl | (simp; done) | (simp [*]; done)), H', ⟨Nat.le_refl _⟩, ⟨by first | exact Kd.R_nil _ _ _ _ _ | exact Kd.N_nil _ _ _ _ _ | exact Kd.V_nil _ _ _ _ _ | exact Kd.Q_nil _ _ _ _ _ | exact Kd.S_nil _ _ _ _ _⟩, ⟨by repeat (first | (with_reducible first | exact HB.out | apply bwA | apply bwN | apply bw1) | exact HB.out)⟩⟩
 case round =>
  clear H'
  try clear p2
  obtain ⟨x5_1, x6_1, rfl, HA, HK1, HO_5, HB⟩ := hrel
  cases gk with
  | zero => exact absurd HA.out (by simp [cr6_Ties.l0])
  | succ k1 =>
   have H := HA.out
   clear HA
   simp only [cr6_Ties.l0] at H
   by_cases c3 : x6_1 < a1
   ·rw [if_pos c3] at H
    have c3b0 : decide (x6_1 < a1) = true := decide_eq_true c3
    clear c3
    by_cases c4 : a1 = 0
    ·rw [if_pos c4] at H
     exact absurd H (by simp)
    ·rw [if_neg c4] at H
     have c4b0 : (a1 == 0) = false := beq_eq_false_iff_ne.mpr c4
     have c4b1 : (a1 != 0) = true := bne_iff_ne.mpr c4
     by_cases c5 : x5_1.length < 17592186044416
     ·rw [if_pos c5] at H
      have LMc5 := Z0.mk c5
      clear c5
      obtain ⟨y416, hy416⟩ : ∃ y_ : List Int, y_ = (x5_1 ++ [wrap64 ((wrap64 (Int.tdiv (wrap64 ((wrap64 (x6_1 + 1)) * a0)) a1)) - (wrap64 (Int.tdiv (wrap64 (x6_1 * a0)) a1)))]) := ⟨_, rfl⟩
      replace H : (cr6_Ties.l0 k1 a0 a1 y416 (wrap64 (x6_1 + 1))) = some r := by first | (rw [hy416]; with_reducible exact H) | (have H2_ := (Option.bind_some _ _).symm.trans H; rw [hy416]; with_reducible exact H2_) | (have H2_ := (Option.bind_some _ _).symm.trans H; with_reducible exact H2_) | with_reducible exact H | (rw [hy416]; exact H) | exact H
      have Ny416 := Z0.mk hy416
      clear hy416
      have H' := Z0.mk H
      clear H
      try go_wp2
      have n0_ := Z0.mk (Kd.R_drew HO_5.out)
      have n1_ := Z0.mk (bw1 HB.out)
      clear HO_5
      clear HB
      have HO_5 := n0_
      have HB := n1_
      clear n0_ n1_
      refine start_ (n := 16) (S := fun w' => True) (ds := []) #[false, false, false, false, false, false, false, false, false, false, false, false, false, false, false, false] (by kernel_rfl) rfl rfl trivial (fun hHd => ?_); refine with_tabW cr6_Ties.tab5 cr6_Ties.bits5 (fun HT_ HW_ => ?_)
      generalize wr.drew = w6 at HO_5 HB hHd ⊢
      refine pure_ (i := 0) (N := some 12) (v := ?_) (a' := ?_) #[true, false, false, false, false, false, false, false, false, false, false, false, false, false, false, false] rfl rfl (any_of HT_.out (by kernel_rfl)) (fun _ _ _ h => h) (Or.inl ⟨by rfl, ?_⟩) ?_ ?_
      rotate_left
      ·intro w'
       go_simp
       with_reducible rfl
      rotate_left
      ·simp only [Act.put, List.setIfInBounds_toArray, List.set_cons_zero, List.set_cons_succ, i64_w, i32_w]
       rfl
      refine pure_ (i := 1) (N := some 13) (v := ?_) (a' := ?_) #[true, true, false, false, false, false, false, false, false, false, false, false, false, false, false, false] rfl rfl (any_of HT_.out (by kernel_rfl)) (fun _ _ _ h => h) (Or.inl ⟨by rfl, ?_⟩) ?_ ?_
      rotate_left
      ·intro w'
       go_simp
       with_reducible rfl
      rotate_left
      ·simp only [Act.put, List.setIfInBounds_toArray, List.set_cons_zero, List.set_cons_succ, i64_w, i32_w]
       rfl
      refine pure_ (i := 2) (N := some 14) (v := ?_) (a' := ?_) #[true, true, true, false, false, false, false, false, false, false, false, false, false, false, false, false] rfl rfl (any_of HT_.out (by kernel_rfl)) (fun _ _ _ h => h) (Or.inl ⟨by rfl, ?_⟩) ?_ ?_
      rotate_left
      ·intro w'
       go_simp
       with_reducible rfl
      rotate_left
      ·simp only [Act.put, List.setIfInBounds_toArray, List.set_cons_zero, List.set_cons_succ, i64_w, i32_w]
       rfl
      refine pure_ (i := 3) (N := some 15) (v := ?_) (a' := ?_) #[true, true, true, true, false, false, false, false, false, false, false, false, false, false, false, false] rfl rfl (any_of HT_.out (by kernel_rfl)) (fun _ _ _ h => h) (Or.inl ⟨by rfl, ?_⟩) ?_ ?_
      rotate_left
      ·intro w'
       go_simp
       with_reducible rfl
      rotate_left
      ·simp only [Act.put, List.setIfInBounds_toArray, List.set_cons_zero, List.set_cons_succ, i64_w, i32_w]
       rfl
      refine pure_ (i := 4) (N := some 16) (v := ?_) (a' := ?_) #[true, true, true, true, true, false, false, false, false, false, false, false, false, false, false, false] rfl rfl (any_of HT_.out (by kernel_rfl)) (fun _ _ _ h => h) (Or.inl ⟨by rfl, ?_⟩) ?_ ?_
      rotate_left
      ·intro w'
       go_simp
       with_reducible rfl
      rotate_left
      ·simp only [Act.put, List.setIfInBounds_toArray, List.set_cons_zero, List.set_cons_succ, i64_w, i32_w]
       rfl
      refine pure_ (i := 5) (N := some 17) (v := ?_) (a' := ?_) #[true, true, true, true, true, true, false, false, false, false, false, false, false, false, false, false] rfl rfl (any_of HT_.out (by kernel_rfl)) (fun _ _ _ h => h) (Or.inl ⟨by rfl, ?_⟩) ?_ ?_
      rotate_left
      ·intro w'
       go_simp
       with_reducible rfl
      rotate_left
      ·simp only [Act.put, List.setIfInBounds_toArray, List.set_cons_zero, List.set_cons_succ, i64_w, i32_w]
       rfl
      refine pure_ (i := 6) (N := some 18) (v := ?_) (a' := ?_) #[true, true, true, true, true, true, true, false, false, false, false, false, false, false, false, false] rfl rfl (any_of HT_.out (by kernel_rfl)) (fun _ _ _ h => h) (Or.inl ⟨by rfl, ?_⟩) ?_ ?_
      rotate_left
      ·intro w'
       go_simp
       with_reducible rfl
      rotate_left
      ·simp only [Act.put, List.setIfInBounds_toArray, List.set_cons_zero, List.set_cons_succ, i64_w, i32_w]
       rfl
      refine pure_ (i := 7) (N := some 19) (v := ?_) (a' := ?_) #[true, true, true, true, true, true, true, true, false, false, false, false, false, false, false, false] rfl rfl (any_of HT_.out (by kernel_rfl)) (fun _ _ _ h => h) (Or.inl ⟨by rfl, ?_⟩) ?_ ?_
      rotate_left
      ·intro w'
       go_simp
       with_reducible rfl
      rotate_left
      ·simp only [Act.put, List.setIfInBounds_toArray, List.set_cons_zero, List.set_cons_succ, i64_w, i32_w]
       rfl
      refine pure_ (i := 8) (N := some 20) (v := ?_) (a' := ?_) #[true, true, true, true, true, true, true, true, true, false, false, false, false, false, false, false] rfl rfl (any_of HT_.out (by kernel_rfl)) (fun _ _ _ h => h) (Or.inl ⟨by rfl, ?_⟩) ?_ ?_
      rotate_left
      ·intro w'
       go_simp
       with_reducible rfl
      rotate_left
      ·simp only [Act.put, List.setIfInBounds_toArray, List.set_cons_zero, List.set_cons_succ, i64_w, i32_w]
       rfl
      refine pure_ (i := 9) (N := some 21) (v := ?_) (a' := ?_) #[true, true, true, true, true, true, true, true, true, true, false, false, false, false, false, false] rfl rfl (any_of HT_.out (by kernel_rfl)) (fun _ _ _ h => h) (Or.inl ⟨by rfl, ?_⟩) ?_ ?_
      rotate_left
      ·intro w'
       go_simp
       with_reducible rfl
      rotate_left
      ·simp only [Act.put, List.setIfInBounds_toArray, List.set_cons_zero, List.set_cons_succ, i64_w, i32_w]
       rfl
      refine pure_ (i := 10) (N := some 22) (v := ?_) (a' := ?_) #[true, true, true, true, true, true, true, true, true, true, true, false, false, false, false, false] rfl rfl (any_of HT_.out (by kernel_rfl)) (fun _ _ _ h => h) (Or.inl ⟨by rfl, ?_⟩) ?_ ?_
      rotate_left
      ·intro w'
       go_simp
       with_reducible rfl
      rotate_left
      ·simp only [Act.put, List.setIfInBounds_toArray, List.set_cons_zero, List.set_cons_succ, i64_w, i32_w]
       rfl
      refine pure_ (i := 11) (N := some 23) (v := ?_) (a' := ?_) #[true, true, true, true, true, true, true, true, true, true, true, true, false, false, false, false] rfl rfl (any_of HT_.out (by kernel_rfl)) (fun _ _ _ h => h) (Or.inl ⟨by rfl, ?_⟩) ?_ ?_
      rotate_left
      ·intro w'
       go_simp
       with_reducible rfl
      rotate_left
      ·simp only [Act.put, List.setIfInBounds_toArray, List.set_cons_zero, List.set_cons_succ, i64_w, i32_w]
       rfl
      refine pure_ (i := 12) (N := some 24) (v := ?_) (a' := ?_) #[true, true, true, true, true, true, true, true, true, true, true, true, true, false, false, false] rfl rfl (any_of HT_.out (by kernel_rfl)) (fun _ _ _ h => h) (Or.inl ⟨by rfl, ?_⟩) ?_ ?_
      rotate_left
      ·intro w'
       go_simp
       with_reducible rfl
      rotate_left
      ·simp only [Act.put, List.setIfInBounds_toArray, List.set_cons_zero, List.set_cons_succ, i64_w, i32_w]
       rfl
      refine one_ (i := 13) (N := some 25) #[true, true, true, true, true, true, true, true, true, true, true, true, true, true, false, false] rfl rfl (one_of HT_.out (by kernel_rfl)) (by decide) (fun K hK => ?_)
      refine value_ (w1 := ?_) (v := ?_) (by rfl) rfl ?_ ?_
      rotate_left 2
      ·go_simp
       constructor
       ·rfl
       ·rfl
      refine hK.out _ _ trivial (fun hHd => ?_)
      clear hK K
      refine norm_ (a' := ?_) ?_ ?_
      rotate_left
      ·show Act.put _ (some 25) _ = _
       simp only [Act.put, List.setIfInBounds_toArray, List.set_cons_zero, List.set_cons_succ, i64_w, i32_w]
       rfl
      refine one_ (i := 14) (N := some 26) #[true, true, true, true, true, true, true, true, true, true, true, true, true, true, true, false] rfl rfl (one_of HT_.out (by kernel_rfl)) (by decide) (fun K hK => ?_)
      refine Kd.R_append_step (Kd.int .i64) (w0 := w) w.heap.size (by rfl) (.tmp 12) (.tmp 25) 45 3 (.int .i64 0) 8 rfl Tryd.underlying45 info3 rfl (by decide) (by omega) u5 x5_1 (wrap64 ((wrap64 (Int.tdiv (wrap64 ((wrap64 (x6_1 + 1)) * a0)) a1)) - (wrap64 (Int.tdiv (wrap64 (x6_1 * a0)) a1)))) [.int .i64 (wrap64 ((wrap64 (Int.tdiv (wrap64 ((wrap64 (x6_1 + 1)) * a0)) a1)) - (wrap64 (Int.tdiv (wrap64 (x6_1 * a0)) a1))))] (fun _ => True) (fun _ => False) rfl rfl ?aP (fun _ hk => hk.elim) ?aF ?aO ?aB ?aS ?aL ?_
      (case aP => exact rfl)
      (case aB => exact (by repeat (first | (with_reducible first | exact HB.out | apply bwA | apply bwN | apply bw1) | exact HB.out)))
      (case aF => exact (fun _ _ => trivial))
      (case aO => exact (by (with_reducible repeat (first | apply Kd.R_alloc | apply Kd.R_drewN | apply Kd.R_drew)); exact HO_5.out))
      (case aS => exact (bwZ (by repeat (first | (with_reducible first | exact HB.out | apply bwA | apply bwN | apply bw1) | exact HB.out))))
      (case aL => have := LMc5.out; omega)
      intro v417 w7 ho hb hg hat
      rw [← Ny416.out] at ho
      have n0_ := Z0.mk (hb)
      have n1_ := Z0.mk (ho)
      clear HB
      clear HO_5
      have HB := n0_
      have HO418 := n1_
      clear n0_ n1_
      clear ho hb hg hat
      refine hK.out _ _ trivial (fun hHd => ?_)
      clear hK K
      refine norm_ (a' := ?_) ?_ ?_
      rotate_left
      ·show Act.put _ (some 26) _ = _
       simp only [Act.put, List.setIfInBounds_toArray, List.set_cons_zero, List.set_cons_succ, i64_w, i32_w]
       rfl
      refine pure_ (i := 15) (N := some 5) (v := ?_) (a' := ?_) #[true, true, true, true, true, true, true, true, true, true, true, true, true, true, true, true] rfl rfl (any_of HT_.out (by kernel_rfl)) (fun _ _ _ h => h) (Or.inl ⟨by rfl, ?_⟩) ?_ ?_
      rotate_left
      ·intro w'
       go_simp
       with_reducible rfl
      rotate_left
      ·simp only [Act.put, List.setIfInBounds_toArray, List.set_cons_zero, List.set_cons_succ, i64_w, i32_w]
       rfl
      refine done_ (done_of HT_.out (by kernel_rfl)) ?_
      try go_wp2
      go_roundg k1
      case measure => have := HK1.out; omega
      case rel => exact ⟨(y416), (wrap64 (x6_1 + 1)), (by first | rfl | (simp; done) | (simp [*]; done)), H', ⟨by have := HK1.out; omega⟩, ⟨by (with_reducible repeat (first | apply Kd.R_alloc | apply Kd.R_drewN | apply Kd.R_drew)); exact HO418.out⟩, ⟨by repeat (first | (with_reducible first | exact HB.out | apply bwA | apply bwN | apply bw1) | exact HB.out)⟩⟩
     ·rw [if_neg c5] at H
      exact absurd H (by simp)
   ·rw [if_neg c3] at H
    have c3b0 : decide (x6_1 < a1) = false := decide_eq_false c3
    clear c3
    obtain rfl := Option.some.inj H
    go_wp2
    go_ret
    exact ⟨_, by first | rfl | (simp [errW_none, errW_some] <;> rfl) | (simp [*, errW_none, errW_some] <;> rfl), by (with_reducible repeat (first | apply Kd.R_alloc | apply Kd.R_drewN | apply Kd.R_drew)); exact HO_5.out, by repeat (first | (with_reducible first | exact HB.out | apply bwA | apply bwN | apply bw1) | exact HB.out)⟩
end Go.Proofs.YtppighiaffppkaaDoor.H
end
section
namespace Go.Proofs.YtppighiaffppkaaDoor.H
open Go.RowKit Go.Proofs.YtppighiaffppkaaDoorW.PrintWords Go.Proofs.YtppighiaffppkaaDoorW.PrintLast Go.Proofs.YtppighiaffppkaaDoorW.PrintMore
attribute [local go_sem] max2_int min2_int max_two min_two max_three min_three max_four min_four
set_option linter.unusedVariables false
set_option linter.unusedSimpArgs false
attribute [local go_sem high] eqA23
mutual
def cl6_HangRopes.j0 : Nat → List (S112) → Int → Int → List (S23) → Int → List Int → Int → Int → Int → Int → Int → Int → Int → Int → Option (Bool)
 | 0, _, _, _, _, _, _, _, _, _, _, _, _, _, _ => none
 | k + 1, x0, x1, x8, x9, x10, x11, x12, x13, x14, x15, x420000, x420001, x429000, x429001 => if x13 = 0 then ((cr6_Rope.f k x0 x1).bind fun bt449 => ((cr6_Marks.f k x0 x1).bind fun bt452 => (cl6_HangRopes.j1 k x8 x9 x10 x11 x12 bt449.2.2 bt452.2 x15 bt452.1 ([] : List Int) x420000 x420001 x429000 x429001 bt449.1 bt449.2.1))) else (cl6_HangRopes.j1 k x8 x9 x10 x11 x12 x13 x14 x15 ([] : List (S23)) ([] : List Int) x420000 x420001 x429000 x429001 0 0)
def cl6_HangRopes.j1 : Nat → Int → List (S23) → Int → List Int → Int → Int → Int → Int → List (S23) → List Int → Int → Int → Int → Int → Int → Int → Option (Bool)
 | 0, _, _, _, _, _, _, _, _, _, _, _, _, _, _, _, _ => none
 | k + 1, x8, x9, x10, x11, x12, x13, x14, x15, x17, x18, x420000, x420001, x429000, x429001, x449000, x449001 => if x15 = 0 then ((cr6_Ties.f k x420000 x420001).bind fun t456 => (if (x429000 == x449000 && (x429001 == x449001)) = true then (if x8 = x13 then ((cr6_SameRatios.f k x9 x17).bind fun t459 => (if t459 = true then (if x10 = x14 then ((cr1_SameInts.f k x11 t456).bind fun t460 => (if t460 = true then (if x12 = x15 then ((cl6_awake.f k).bind fun t461 => (some t461)) else (none)) else (none))) else (none)) else (none))) else (none)) else (none))) else (if (x429000 == x449000 && (x429001 == x449001)) = true then (if x8 = x13 then ((cr6_SameRatios.f k x9 x17).bind fun t462 => (if t462 = true then (if x10 = x14 then ((cr1_SameInts.f k x11 x18).bind fun t463 => (if t463 = true then (if x12 = x15 then ((cl6_awake.f k).bind fun t464 => (some t464)) else (none)) else (none))) else (none)) else (none))) else (none)) else (none))
end
def cl6_HangRopes.f (k : Nat) (l0 : List (S112)) (a1 : Int) (a2_0 : Int) (a2_1 : Int) : Option (Bool) := (cr6_ShortSections.f k l0).bind fun t420 => (if t420 = true then ((cl6_sections.f k l0).bind fun t422 => ((hang_Rope.f k t422 a1).bind fun bt425 => ((cl6_sections.f k l0).bind fun t429 => ((hang_Marks.f k t429 a1).bind fun bt432 => ((hang_Ties.f k a2_0 a2_1).bind fun bt436 => ((cr6_CheckSections.f k l0).bind fun t440 => ((cr1_CheckRange.f a1 1 100).bind fun t441 => ((cr1_First.f k (([t440, t441] : List Int))).bind fun t445 => ((cr1_CheckRange.f a2_0 1 300).bind fun t446 => (if t446 = 0 then ((cr1_CheckRange.f a2_1 1 a2_0).bind fun t447 => (cl6_HangRopes.j0 k l0 a1 bt425.2.2 bt432.1 bt432.2 bt436.1 bt436.2 t445 t445 t447 a2_0 a2_1 bt425.1 bt425.2.1)) else (cl6_HangRopes.j0 k l0 a1 bt425.2.2 bt432.1 bt432.2 bt436.1 bt436.2 t445 t445 t446 a2_0 a2_1 bt425.1 bt425.2.1))))))))))) else ((cl6_awake.f k).bind fun t421 => (some t421)))
set_option maxHeartbeats 8000000 in
set_option maxRecDepth 100000 in
theorem cl6_HangRopes.calls (k : Nat) (A0 : Option Addr) (c0 : Nat) (l0 : List (S112)) (a1 : Int) (a2_0 : Int) (a2_1 : Int) (r : Bool) (w : World) (hG : GH w) (hr0 : Kd.C k112 w A0 l0.length l0) (hc0 : l0.length ≤ c0) (h : cl6_HangRopes.f k l0 a1 a2_0 a2_1 = some r) :
  Calls Tryd.prog 6 #[.slice A0 l0.length c0, .int .i64 a1, .agg #[.int .i64 a2_0, .int .i64 a2_1]] w fun e w' => e = .returned (.bool r) ∧ Below w.heap.size w w' := by
 have hu51 := Tryd.underlying51
 have hu23 := Tryd.underlying23
 have HR0 := Z0.mk hr0
 have HC0 := Z0.mk hc0
 clear hr0 hc0
 have HB := Z0.mk (Below.refl w.heap.size w)
 have H : ((cr6_ShortSections.f k l0).bind fun t420 => (if t420 = true then ((cl6_sections.f k l0).bind fun t422 => ((hang_Rope.f k t422 a1).bind fun bt425 => ((cl6_sections.f k l0).bind fun t429 => ((hang_Marks.f k t429 a1).bind fun bt432 => ((hang_Ties.f k a2_0 a2_1).bind fun bt436 => ((cr6_CheckSections.f k l0).bind fun t440 => ((cr1_CheckRange.f a1 1 100).bind fun t441 => ((cr1_First.f k (([t440, t441] : List Int))).bind fun t445 => ((cr1_CheckRange.f a2_0 1 300).bind fun t446 => (if t446 = 0 then ((cr1_CheckRange.f a2_1 1 a2_0).bind fun t447 => (cl6_HangRopes.j0 k l0 a1 bt425.2.2 bt432.1 bt432.2 bt436.1 bt436.2 t445 t445 t447 a2_0 a2_1 bt425.1 bt425.2.1)) else (cl6_HangRopes.j0 k l0 a1 bt425.2.2 bt432.1 bt432.2 bt436.1 bt436.2 t445 t445 t446 a2_0 a2_1 bt425.1 bt425.2.1))))))))))) else ((cl6_awake.f k).bind fun t421 => (some t421)))) = some r := h
 clear h
 replace H := Option.bind_eq_some_iff.mp H
 obtain ⟨t420, A40, H⟩ := H
 try dsimp only at H
 have A4 := Z0.mk A40
 clear A40
 by_cases c5 : t420 = true
 ·subst c5
  have H1 : ((cl6_sections.f k l0).bind fun t422 => ((hang_Rope.f k t422 a1).bind fun bt425 => ((cl6_sections.f k l0).bind fun t429 => ((hang_Marks.f k t429 a1).bind fun bt432 => ((hang_Ties.f k a2_0 a2_1).bind fun bt436 => ((cr6_CheckSections.f k l0).bind fun t440 => ((cr1_CheckRange.f a1 1 100).bind fun t441 => ((cr1_First.f k (([t440, t441] : List Int))).bind fun t445 => ((cr1_CheckRange.f a2_0 1 300).bind fun t446 => (if t446 = 0 then ((cr1_CheckRange.f a2_1 1 a2_0).bind fun t447 => (cl6_HangRopes.j0 k l0 a1 bt425.2.2 bt432.1 bt432.2 bt436.1 bt436.2 t445 t445 t447 a2_0 a2_1 bt425.1 bt425.2.1)) else (cl6_HangRopes.j0 k l0 a1 bt425.2.2 bt432.1 bt432.2 bt436.1 bt436.2 t445 t445 t446 a2_0 a2_1 bt425.1 bt425.2.1))))))))))) = some r := by rw [if_pos rfl] at H; exact H
  clear H
  have H := H1
  clear H1
  replace H := Option.bind_eq_some_iff.mp H
  obtain ⟨t422, A60, H⟩ := H
  try dsimp only at H
  have A6 := Z0.mk A60
  clear A60
  replace H := Option.bind_eq_some_iff.mp H
  obtain ⟨⟨t425, t426, t427⟩, A70, H⟩ := H
  try dsimp only at H
  have A7 := Z0.mk A70
  clear A70
  replace H := Option.bind_eq_some_iff.mp H
  obtain ⟨t429, A80, H⟩ := H
  try dsimp only at H
  have A8 := Z0.mk A80
  clear A80
  replace H := Option.bind_eq_some_iff.mp H
  obtain ⟨⟨t432, t433⟩, A90, H⟩ := H
  try dsimp only at H
  have A9 := Z0.mk A90
  clear A90
  replace H := Option.bind_eq_some_iff.mp H
  obtain ⟨⟨t436, t437⟩, A100, H⟩ := H
  try dsimp only at H
  have A10 := Z0.mk A100
  clear A100
  replace H := Option.bind_eq_some_iff.mp H
  obtain ⟨t440, A110, H⟩ := H
  try dsimp only at H
  have A11 := Z0.mk A110
  clear A110
  replace H := Option.bind_eq_some_iff.mp H
  obtain ⟨t441, A120, H⟩ := H
  try dsimp only at H
  have A12 := Z0.mk A120
  clear A120
  obtain ⟨y442, hy442⟩ : ∃ y_ : List Int, y_ = (([t440, t441] : List Int)) := ⟨_, rfl⟩
  replace H : ((cr1_First.f k y442).bind fun t445 => ((cr1_CheckRange.f a2_0 1 300).bind fun t446 => (if t446 = 0 then ((cr1_CheckRange.f a2_1 1 a2_0).bind fun t447 => (cl6_HangRopes.j0 k l0 a1 t427 t432 t433 t436 t437 t445 t445 t447 a2_0 a2_1 t425 t426)) else (cl6_HangRopes.j0 k l0 a1 t427 t432 t433 t436 t437 t445 t445 t446 a2_0 a2_1 t425 t426)))) = some r := by first | (rw [hy442]; with_reducible exact H) | (have H2_ := (Option.bind_some _ _).symm.trans H; rw [hy442]; with_reducible exact H2_) | (have H2_ := (Option.bind_some _ _).symm.trans H; with_reducible exact H2_) | with_reducible exact H | (rw [hy442]; exact H) | exact H
  have Ny442 := Z0.mk hy442
  clear hy442
  replace H := Option.bind_eq_some_iff.mp H
  obtain ⟨t445, A130, H⟩ := H
  try dsimp only at H
  have A13 := Z0.mk A130
  clear A130
  replace H := Option.bind_eq_some_iff.mp H
  obtain ⟨t446, A140, H⟩ := H
  try dsimp only at H
  have A14 := Z0.mk A140
  clear A140
  have HC15 := Z0.mk H
  clear H
  go_enter Tryd.func6, Tryd.ntmps6
  go_upto_if 56 with (first | ((with_reducible refine gtD (N := 5) rfl ?_); refine bxE ?hg (N := 5) ?hd (cs := #[.int .i64 a2_0, .int .i64 a2_1]) (t := 51) ?hr ?_; (case hd => rfl); (case hg => rfl); (case hr => first | (go_simp; done) | (go_simp; rfl)); intro gb419 hg w16 hbox hb; have n0_ := Z0.mk (bwT (by repeat (first | (with_reducible first | exact HB.out | apply bwA | apply bwN | apply bw1) | exact HB.out)) hb); have n1_ := Z0.mk (hbox); have n2_ := Z0.mk ((by rw [hg]; exact (bwZ (by repeat (first | (with_reducible first | exact HB.out | apply bwA | apply bwN | apply bw1) | exact HB.out))) : w.heap.size ≤ gb419)); have n3_ := Z0.mk ((by rw [hg]; exact (bwZ (by repeat (first | (with_reducible first | exact HB.out | apply bwA | apply bwN | apply bw1) | exact HB.out))) : w.heap.size ≤ gb419)); clear HB; have HB := n0_; have BK419 := n1_; have GW419 := n2_; have GE419 := n3_; clear n0_ n1_ n2_ n3_; clear hb hbox hg) | ((with_reducible refine gtC (f := 38) rfl ?_); refine goesL_ (some 20) rfl rfl Tryd.func38 (by kernel_rfl) rfl #[.slice A0 l0.length c0] rfl (by (try simp only [List.map_toArray, List.map_cons, List.map_nil]) <;> rfl) ?_; (with_reducible refine (cr6_ShortSections.calls k _ _ l0 true _ ?side1 ?side2 A4.out).mono ?_); (case side1 => repeat (first | exact (Kd.C_below HR0.out HB.out) | (with_reducible refine Kd.C_alloc ?_ _) | (with_reducible refine Kd.C_drewN ?_ _) | (with_reducible refine Kd.C_drew ?_))); (case side2 => exact HC0.out); rintro e w' ⟨rfl, ⟨nd, rfl⟩⟩; refine ⟨_, rfl, ?_⟩; (try (rw [drewN_self w16]; generalize hq_ : World.drewN w16 _ = w16; have n0_ : Z0 (w16.heap[gb419]? = some (.cells #[.int .i64 a2_0, .int .i64 a2_1] 51 (0, 0))) := ⟨by rw [← hq_]; exact (by (with_reducible repeat (first | refine bkN ?_ _ | refine bkD ?_ | refine bkA ?_ _)); exact BK419.out)⟩; have n1_ : Z0 (Below w.heap.size w w16) := ⟨by rw [← hq_]; exact (by repeat (first | (with_reducible first | exact HB.out | apply bwA | apply bwN | apply bw1 | refine bwS ?_ GE419.out) | exact HB.out))⟩; clear BK419 HB hq_; have BK419 := n0_; have HB := n1_; clear n0_ n1_))) | ((with_reducible refine gtC (f := 40) rfl ?_); refine goesL_ (some 25) rfl rfl Tryd.func40 (by kernel_rfl) rfl #[.slice A0 l0.length c0] rfl (by (try simp only [List.map_toArray, List.map_cons, List.map_nil]) <;> rfl) ?_; (with_reducible refine (cl6_sections.calls k _ _ l0 t422 _ ?side1 ?side2 A6.out).mono ?_); (case side1 => repeat (first | exact (Kd.C_below HR0.out HB.out) | (with_reducible refine Kd.C_alloc ?_ _) | (with_reducible refine Kd.C_drewN ?_ _) | (with_reducible refine Kd.C_drew ?_))); (case side2 => exact HC0.out); rintro e w17 ⟨v423, rfl, ho0, hb⟩; refine ⟨_, rfl, ?_⟩; have n0_ := Z0.mk (Kd.R_lower ho0 (bwZ (by repeat (first | (with_reducible first | exact HB.out | apply bwA | apply bwN | apply bw1 | refine bwS ?_ GE419.out) | exact HB.out)))); have n1_ := Z0.mk (bkB (g := gb419) (o := .cells #[.int .i64 a2_0, .int .i64 a2_1] 51 (0, 0)) (by (with_reducible repeat (first | refine bkN ?_ _ | refine bkD ?_ | refine bkA ?_ _)); exact BK419.out) hb); have n2_ := Z0.mk (bwT (by repeat (first | (with_reducible first | exact HB.out | apply bwA | apply bwN | apply bw1 | refine bwS ?_ GE419.out) | exact HB.out)) hb); clear BK419; clear HB; have HO424 := n0_; have BK419 := n1_; have HB := n2_; clear n0_ n1_ n2_; (try clear hb); (try clear hb2); (try clear hk); (try clear hi); (try clear ho0); obtain ⟨Ao18, co18, eo18⟩ := Kd.R_slice HO424.out; subst eo18) | ((with_reducible refine gtC (f := 39) rfl ?_); refine goesL_ (some 27) rfl rfl Tryd.func39 (by kernel_rfl) rfl #[.slice Ao18 t422.length co18, .int .i64 a1] rfl (by (try simp only [List.map_toArray, List.map_cons, List.map_nil]) <;> rfl) ?_; (with_reducible refine (hang_Rope.calls k _ _ t422 a1 t425 t426 t427 _ ?side1 ?side2 A7.out).mono ?_); (case side1 => repeat (first | exact (Kd.R_reads' HO424.out).2.2 | (with_reducible refine Kd.C_alloc ?_ _) | (with_reducible refine Kd.C_drewN ?_ _) | (with_reducible refine Kd.C_drew ?_))); (case side2 => exact (Kd.R_reads' HO424.out).2.1); rintro e w19 ⟨rfl, hb⟩; refine ⟨_, rfl, ?_⟩; have n0_ := Z0.mk (Kd.R_below (by (with_reducible repeat (first | apply Kd.R_alloc | apply Kd.R_drewN | apply Kd.R_drew)); exact HO424.out) hb); have n1_ := Z0.mk (bkB (g := gb419) (o := .cells #[.int .i64 a2_0, .int .i64 a2_1] 51 (0, 0)) (by (with_reducible repeat (first | refine bkN ?_ _ | refine bkD ?_ | refine bkA ?_ _)); exact BK419.out) hb); have n2_ := Z0.mk (bwT (by repeat (first | (with_reducible first | exact HB.out | apply bwA | apply bwN | apply bw1 | refine bwS ?_ GE419.out) | exact HB.out)) hb); clear HO424; clear BK419; clear HB; have HO424 := n0_; have BK419 := n1_; have HB := n2_; clear n0_ n1_ n2_; (try clear hb); (try clear hb2); (try clear hk); (try clear hi)) | ((with_reducible refine gtD (N := 7) rfl ?_); refine bxE ?hg (N := 7) ?hd (cs := #[.int .i64 0, .int .i64 0]) (t := 23) ?hr ?_; (case hd => rfl); (case hg => rfl); (case hr => first | (go_simp; done) | (go_simp; rfl)); intro gb428 hg w20 hbox hb; have n0_ := Z0.mk (Kd.R_below (by (with_reducible repeat (first | apply Kd.R_alloc | apply Kd.R_drewN | apply Kd.R_drew)); exact HO424.out) hb); have n1_ := Z0.mk (bkB (g := gb419) (o := .cells #[.int .i64 a2_0, .int .i64 a2_1] 51 (0, 0)) (by (with_reducible repeat (first | refine bkN ?_ _ | refine bkD ?_ | refine bkA ?_ _)); exact BK419.out) hb); have n2_ := Z0.mk (bwT (by repeat (first | (with_reducible first | exact HB.out | apply bwA | apply bwN | apply bw1 | refine bwS ?_ GE419.out) | exact HB.out)) hb); have n3_ := Z0.mk (hbox); have n4_ := Z0.mk ((by rw [hg]; exact (bwZ (by repeat (first | (with_reducible first | exact HB.out | apply bwA | apply bwN | apply bw1 | refine bwS ?_ GE419.out) | exact HB.out))) : w.heap.size ≤ gb428)); have n5_ := Z0.mk ((by rw [hg]; exact (bwZ (by repeat (first | (with_reducible first | exact HB.out | apply bwA | apply bwN | apply bw1 | refine bwS ?_ GE419.out) | exact HB.out))) : w.heap.size ≤ gb428)); have n6_ := Z0.mk ((by rw [hg]; exact Nat.ne_of_lt (blk_lt (g := gb419) (o := .cells #[.int .i64 a2_0, .int .i64 a2_1] 51 (0, 0)) (by (with_reducible repeat (first | refine bkN ?_ _ | refine bkD ?_ | refine bkA ?_ _)); exact BK419.out)) : gb419 ≠ gb428)); have n7_ := Z0.mk ((by rw [hg]; exact Nat.ne_of_gt (blk_lt (g := gb419) (o := .cells #[.int .i64 a2_0, .int .i64 a2_1] 51 (0, 0)) (by (with_reducible repeat (first | refine bkN ?_ _ | refine bkD ?_ | refine bkA ?_ _)); exact BK419.out)) : gb428 ≠ gb419)); clear HO424; clear BK419; clear HB; have HO424 := n0_; have BK419 := n1_; have HB := n2_; have BK428 := n3_; have GW428 := n4_; have GE428 := n5_; have NB419_428 := n6_; have NB428_419 := n7_; clear n0_ n1_ n2_ n3_ n4_ n5_ n6_ n7_; clear hb hbox hg; have hnb21 := NB428_419.out; have hnc21 := NB419_428.out; have hcz22_0 : w20.cell? ⟨gb428, 0, none⟩ = some (.int .i64 0) := (bkC BK428.out 0).trans rfl; have hcz22_1 : w20.cell? ⟨gb428, 1, none⟩ = some (.int .i64 0) := (bkC BK428.out 1).trans rfl; have hfz22_0 := bkZ BK428.out 0; have hfz22_1 := bkZ BK428.out 1) | ((with_reducible refine gtC (f := 40) rfl ?_); refine goesL_ (some 32) rfl rfl Tryd.func40 (by kernel_rfl) rfl #[.slice A0 l0.length c0] rfl (by (try simp only [List.map_toArray, List.map_cons, List.map_nil]) <;> rfl) ?_; (with_reducible refine (cl6_sections.calls k _ _ l0 t429 _ ?side1 ?side2 A8.out).mono ?_); (case side1 => exact Kd.C_below HR0.out (by repeat (first | (with_reducible first | exact HB.out | apply bwA | apply bwN | apply bw1 | refine bwS ?_ GE419.out | refine bwS ?_ GE428.out) | exact HB.out))); (case side2 => exact HC0.out); rintro e w23 ⟨v430, rfl, ho0, hb⟩; refine ⟨_, rfl, ?_⟩; have n0_ := Z0.mk (Kd.R_elder' (by (with_reducible repeat (first | apply Kd.R_alloc | apply Kd.R_drewN | apply Kd.R_drew)); exact (Kd.R_mono (Kd.R_far (p := ⟨gb428, 1, none⟩) (Kd.R_far (p := ⟨gb428, 0, none⟩) (Kd.R_types HO424.out BK428.out (by decide)) (fun _ hk => hk.2) (.int .i64 t425)) (fun _ hk => hk.2) (.int .i64 t426)) (fun _ h_ => h_.1))) (Kd.R_base ho0) hb); have n1_ := Z0.mk (Kd.R_lower (Kd.R_new' ho0 (Kd.R_lt (by (with_reducible repeat (first | apply Kd.R_alloc | apply Kd.R_drewN | apply Kd.R_drew)); exact (Kd.R_mono (Kd.R_far (p := ⟨gb428, 1, none⟩) (Kd.R_far (p := ⟨gb428, 0, none⟩) (Kd.R_types HO424.out BK428.out (by decide)) (fun _ hk => hk.2) (.int .i64 t425)) (fun _ hk => hk.2) (.int .i64 t426)) (fun _ h_ => h_.1))))) (bwZ (by repeat (first | (with_reducible first | exact HB.out | apply bwA | apply bwN | apply bw1 | refine bwS ?_ GE419.out | refine bwS ?_ GE428.out) | exact HB.out)))); have n2_ := Z0.mk (bkB (g := gb419) (o := .cells #[.int .i64 a2_0, .int .i64 a2_1] 51 (0, 0)) (by (with_reducible repeat (first | refine bkN ?_ _ | refine bkD ?_ | refine bkA ?_ _)); refine bkF ?_ NB419_428.out _; (with_reducible repeat (first | refine bkN ?_ _ | refine bkD ?_ | refine bkA ?_ _)); refine bkF ?_ NB419_428.out _; (with_reducible repeat (first | refine bkN ?_ _ | refine bkD ?_ | refine bkA ?_ _)); exact BK419.out) hb); have n3_ := Z0.mk (bkB (g := gb428) (o := .cells #[.int .i64 t425, .int .i64 t426] 23 (0, 0)) (by (with_reducible repeat (first | refine bkN ?_ _ | refine bkD ?_ | refine bkA ?_ _)); refine bkP (cs := #[.int .i64 t425, .int .i64 0]) ?_ 1 _ rfl; (with_reducible repeat (first | refine bkN ?_ _ | refine bkD ?_ | refine bkA ?_ _)); refine bkP (cs := #[.int .i64 0, .int .i64 0]) ?_ 0 _ rfl; (with_reducible repeat (first | refine bkN ?_ _ | refine bkD ?_ | refine bkA ?_ _)); exact BK428.out) hb); have n4_ := Z0.mk (bwT (by repeat (first | (with_reducible first | exact HB.out | apply bwA | apply bwN | apply bw1 | refine bwS ?_ GE419.out | refine bwS ?_ GE428.out) | exact HB.out)) hb); clear HO424; clear BK419; clear BK428; clear HB; have HO424 := n0_; have HO431 := n1_; have BK419 := n2_; have BK428 := n3_; have HB := n4_; clear n0_ n1_ n2_ n3_ n4_; (try clear hb); (try clear hb2); (try clear hk); (try clear hi); (try clear ho0); obtain ⟨Ao24, co24, eo24⟩ := Kd.R_slice HO431.out; subst eo24) | ((with_reducible refine gtC (f := 41) rfl ?_); refine goesL_ (some 34) rfl rfl Tryd.func41 (by kernel_rfl) rfl #[.slice Ao24 t429.length co24, .int .i64 a1] rfl (by (try simp only [List.map_toArray, List.map_cons, List.map_nil]) <;> rfl) ?_; (with_reducible refine (hang_Marks.calls k _ _ t429 a1 t432 t433 _ ?side1 ?side2 A9.out).mono ?_); (case side1 => repeat (first | exact (Kd.R_reads' HO431.out).2.2 | (with_reducible refine Kd.C_alloc ?_ _) | (with_reducible refine Kd.C_drewN ?_ _) | (with_reducible refine Kd.C_drew ?_))); (case side2 => exact (Kd.R_reads' HO431.out).2.1); rintro e w25 ⟨v434, rfl, ho0, hb⟩; refine ⟨_, rfl, ?_⟩; have n0_ := Z0.mk (Kd.R_below (by (with_reducible repeat (first | apply Kd.R_alloc | apply Kd.R_drewN | apply Kd.R_drew)); exact HO424.out) hb); have n1_ := Z0.mk (Kd.R_below (by (with_reducible repeat (first | apply Kd.R_alloc | apply Kd.R_drewN | apply Kd.R_drew)); exact HO431.out) hb); have n2_ := Z0.mk (Kd.R_lower (Kd.R_newB ho0 (g := gb428) (o := .cells #[.int .i64 t425, .int .i64 t426] 23 (0, 0)) (by (with_reducible repeat (first | refine bkN ?_ _ | refine bkD ?_ | refine bkA ?_ _)); exact BK428.out)) (bwZ (by repeat (first | (with_reducible first | exact HB.out | apply bwA | apply bwN | apply bw1 | refine bwS ?_ GE419.out | refine bwS ?_ GE428.out) | exact HB.out)))); have n3_ := Z0.mk (bkB (g := gb419) (o := .cells #[.int .i64 a2_0, .int .i64 a2_1] 51 (0, 0)) (by (with_reducible repeat (first | refine bkN ?_ _ | refine bkD ?_ | refine bkA ?_ _)); exact BK419.out) hb); have n4_ := Z0.mk (bkB (g := gb428) (o := .cells #[.int .i64 t425, .int .i64 t426] 23 (0, 0)) (by (with_reducible repeat (first | refine bkN ?_ _ | refine bkD ?_ | refine bkA ?_ _)); exact BK428.out) hb); have n5_ := Z0.mk (bwT (by repeat (first | (with_reducible first | exact HB.out | apply bwA | apply bwN | apply bw1 | refine bwS ?_ GE419.out | refine bwS ?_ GE428.out) | exact HB.out)) hb); clear HO424; clear HO431; clear BK419; clear BK428; clear HB; have HO424 := n0_; have HO431 := n1_; have HO435 := n2_; have BK419 := n3_; have BK428 := n4_; have HB := n5_; clear n0_ n1_ n2_ n3_ n4_ n5_; (try clear hb); (try clear hb2); (try clear hk); (try clear hi); (try clear ho0); have hcz26_0 : w25.cell? ⟨gb419, 0, none⟩ = some (.int .i64 a2_0) := (bkC BK419.out 0).trans rfl; have hcz26_1 : w25.cell? ⟨gb419, 1, none⟩ = some (.int .i64 a2_1) := (bkC BK419.out 1).trans rfl; have hfz26_0 := bkZ BK419.out 0; have hfz26_1 := bkZ BK419.out 1) | ((with_reducible refine gtC (f := 42) rfl ?_); refine goesL_ (some 42) rfl rfl Tryd.func42 (by kernel_rfl) rfl #[.int .i64 a2_0, .int .i64 a2_1] rfl (by (try simp only [List.map_toArray, List.map_cons, List.map_nil]) <;> rfl) ?_; (with_reducible refine (hang_Ties.calls k a2_0 a2_1 t436 t437 _ A10.out).mono ?_); rintro e w27 ⟨v438, rfl, ho0, hb⟩; refine ⟨_, rfl, ?_⟩; have n0_ := Z0.mk (Kd.R_below (by (with_reducible repeat (first | apply Kd.R_alloc | apply Kd.R_drewN | apply Kd.R_drew)); exact HO424.out) hb); have n1_ := Z0.mk (Kd.R_below (by (with_reducible repeat (first | apply Kd.R_alloc | apply Kd.R_drewN | apply Kd.R_drew)); exact HO431.out) hb); have n2_ := Z0.mk (Kd.R_below (by (with_reducible repeat (first | apply Kd.R_alloc | apply Kd.R_drewN | apply Kd.R_drew)); exact HO435.out) hb); have n3_ := Z0.mk (Kd.R_lower ho0 (bwZ (by repeat (first | (with_reducible first | exact HB.out | apply bwA | apply bwN | apply bw1 | refine bwS ?_ GE419.out | refine bwS ?_ GE428.out) | exact HB.out)))); have n4_ := Z0.mk (bkB (g := gb419) (o := .cells #[.int .i64 a2_0, .int .i64 a2_1] 51 (0, 0)) (by (with_reducible repeat (first | refine bkN ?_ _ | refine bkD ?_ | refine bkA ?_ _)); exact BK419.out) hb); have n5_ := Z0.mk (bkB (g := gb428) (o := .cells #[.int .i64 t425, .int .i64 t426] 23 (0, 0)) (by (with_reducible repeat (first | refine bkN ?_ _ | refine bkD ?_ | refine bkA ?_ _)); exact BK428.out) hb); have n6_ := Z0.mk (bwT (by repeat (first | (with_reducible first | exact HB.out | apply bwA | apply bwN | apply bw1 | refine bwS ?_ GE419.out | refine bwS ?_ GE428.out) | exact HB.out)) hb); clear HO424; clear HO431; clear HO435; clear BK419; clear BK428; clear HB; have HO424 := n0_; have HO431 := n1_; have HO435 := n2_; have HO439 := n3_; have BK419 := n4_; have BK428 := n5_; have HB := n6_; clear n0_ n1_ n2_ n3_ n4_ n5_ n6_; (try clear hb); (try clear hb2); (try clear hk); (try clear hi); (try clear ho0)) | ((with_reducible refine gtC (f := 43) rfl ?_); refine goesL_ (some 46) rfl rfl Tryd.func43 (by kernel_rfl) rfl #[.slice A0 l0.length c0] rfl (by (try simp only [List.map_toArray, List.map_cons, List.map_nil]) <;> rfl) ?_; (with_reducible refine (cr6_CheckSections.calls k _ _ l0 t440 _ ?side1 ?side2 A11.out).mono ?_); (case side1 => repeat (first | exact (Kd.C_below HR0.out HB.out) | (with_reducible refine Kd.C_alloc ?_ _) | (with_reducible refine Kd.C_drewN ?_ _) | (with_reducible refine Kd.C_drew ?_))); (case side2 => exact HC0.out); rintro e w28 ⟨rfl, hb⟩; refine ⟨_, rfl, ?_⟩; have n0_ := Z0.mk (Kd.R_below (by (with_reducible repeat (first | apply Kd.R_alloc | apply Kd.R_drewN | apply Kd.R_drew)); exact HO424.out) hb); have n1_ := Z0.mk (Kd.R_below (by (with_reducible repeat (first | apply Kd.R_alloc | apply Kd.R_drewN | apply Kd.R_drew)); exact HO431.out) hb); have n2_ := Z0.mk (Kd.R_below (by (with_reducible repeat (first | apply Kd.R_alloc | apply Kd.R_drewN | apply Kd.R_drew)); exact HO435.out) hb); have n3_ := Z0.mk (Kd.R_below (by (with_reducible repeat (first | apply Kd.R_alloc | apply Kd.R_drewN | apply Kd.R_drew)); exact HO439.out) hb); have n4_ := Z0.mk (bkB (g := gb419) (o := .cells #[.int .i64 a2_0, .int .i64 a2_1] 51 (0, 0)) (by (with_reducible repeat (first | refine bkN ?_ _ | refine bkD ?_ | refine bkA ?_ _)); exact BK419.out) hb); have n5_ := Z0.mk (bkB (g := gb428) (o := .cells #[.int .i64 t425, .int .i64 t426] 23 (0, 0)) (by (with_reducible repeat (first | refine bkN ?_ _ | refine bkD ?_ | refine bkA ?_ _)); exact BK428.out) hb); have n6_ := Z0.mk (bwT (by repeat (first | (with_reducible first | exact HB.out | apply bwA | apply bwN | apply bw1 | refine bwS ?_ GE419.out | refine bwS ?_ GE428.out) | exact HB.out)) hb); clear HO424; clear HO431; clear HO435; clear HO439; clear BK419; clear BK428; clear HB; have HO424 := n0_; have HO431 := n1_; have HO435 := n2_; have HO439 := n3_; have BK419 := n4_; have BK428 := n5_; have HB := n6_; clear n0_ n1_ n2_ n3_ n4_ n5_ n6_; (try clear hb); (try clear hb2); (try clear hk); (try clear hi)) | ((with_reducible refine gtC (f := 27) rfl ?_); refine goesL_ (some 48) rfl rfl Tryd.func27 (by kernel_rfl) rfl #[.int .i64 a1, .int .i64 1, .int .i64 100] rfl (by (try simp only [List.map_toArray, List.map_cons, List.map_nil]) <;> rfl) ?_; (with_reducible refine (cr1_CheckRange.calls a1 1 100 t441 _ A12.out).mono ?_); rintro e w' ⟨rfl, ⟨nd, rfl⟩⟩; refine ⟨_, rfl, ?_⟩) | ((with_reducible refine gtD (N := 49) rfl ?_); refine Kd.R_lit (Kd.int .i64) _ 3 ?hg (N := 49) ?hd (xs := ([t440, t441] : List Int)) (inner := [.int .i64 t440, .int .i64 t441]) (ok := fun _ => True) (okp := fun _ => True) ?hr ?hp (fun _ hk => hk) trivial (Below.refl _ _) (Nat.le_refl _) (by simp) ?_; (case hd => rfl); (case hg => rfl); (case hr => first | (go_simp; done) | (go_simp; rfl)); (case hp => exact (Reps.one (show Kd.M (Kd.int .i64) _ _ _ t440 [.int .i64 t440] from rfl) (Reps.one (show Kd.M (Kd.int .i64) _ _ _ t441 [.int .i64 t441] from rfl) (Reps.none _ _)))); intro v443 w29 ho30 hb hg_ hnew_; clear hg_ hnew_; (first | rw [← Ny442.out] at ho30 | (simp only [Int.reduceToNat] at ho30; rw [← Ny442.out] at ho30)); have n0_ := Z0.mk (Kd.R_below (by (with_reducible repeat (first | apply Kd.R_alloc | apply Kd.R_drewN | apply Kd.R_drew)); exact HO424.out) hb); have n1_ := Z0.mk (Kd.R_below (by (with_reducible repeat (first | apply Kd.R_alloc | apply Kd.R_drewN | apply Kd.R_drew)); exact HO431.out) hb); have n2_ := Z0.mk (Kd.R_below (by (with_reducible repeat (first | apply Kd.R_alloc | apply Kd.R_drewN | apply Kd.R_drew)); exact HO435.out) hb); have n3_ := Z0.mk (Kd.R_elder' (by (with_reducible repeat (first | apply Kd.R_alloc | apply Kd.R_drewN | apply Kd.R_drew)); exact HO439.out) (Kd.R_base ho30) hb); have n4_ := Z0.mk (Kd.R_lower (Kd.R_new' ho30 (Kd.R_lt (by (with_reducible repeat (first | apply Kd.R_alloc | apply Kd.R_drewN | apply Kd.R_drew)); exact HO439.out))) (bwZ (by repeat (first | (with_reducible first | exact HB.out | apply bwA | apply bwN | apply bw1 | refine bwS ?_ GE419.out | refine bwS ?_ GE428.out) | exact HB.out)))); have n5_ := Z0.mk (bkB (g := gb419) (o := .cells #[.int .i64 a2_0, .int .i64 a2_1] 51 (0, 0)) (by (with_reducible repeat (first | refine bkN ?_ _ | refine bkD ?_ | refine bkA ?_ _)); exact BK419.out) hb); have n6_ := Z0.mk (bkB (g := gb428) (o := .cells #[.int .i64 t425, .int .i64 t426] 23 (0, 0)) (by (with_reducible repeat (first | refine bkN ?_ _ | refine bkD ?_ | refine bkA ?_ _)); exact BK428.out) hb); have n7_ := Z0.mk (bwT (by repeat (first | (with_reducible first | exact HB.out | apply bwA | apply bwN | apply bw1 | refine bwS ?_ GE419.out | refine bwS ?_ GE428.out) | exact HB.out)) hb); clear HO424; clear HO431; clear HO435; clear HO439; clear BK419; clear BK428; clear HB; have HO424 := n0_; have HO431 := n1_; have HO435 := n2_; have HO439 := n3_; have HO444 := n4_; have BK419 := n5_; have BK428 := n6_; have HB := n7_; clear n0_ n1_ n2_ n3_ n4_ n5_ n6_ n7_; clear hb ho30; obtain ⟨Ao31, co31, eo31⟩ := Kd.R_slice HO444.out; subst eo31) | ((with_reducible refine gtC (f := 26) rfl ?_); refine goesL_ (some 50) rfl rfl Tryd.func26 (by kernel_rfl) rfl #[.slice Ao31 y442.length co31] rfl (by (try simp only [List.map_toArray, List.map_cons, List.map_nil]) <;> rfl) ?_; (with_reducible refine (cr1_First.calls k _ _ y442 t445 _ ?side1 ?side2 A13.out).mono ?_); (case side1 => repeat (first | exact (Kd.R_reads' HO444.out).2.2 | (with_reducible refine Kd.C_alloc ?_ _) | (with_reducible refine Kd.C_drewN ?_ _) | (with_reducible refine Kd.C_drew ?_))); (case side2 => exact (Kd.R_reads' HO444.out).2.1); rintro e w' ⟨rfl, ⟨nd, rfl⟩⟩; refine ⟨_, rfl, ?_⟩; have hcz32_0 : w29.cell? ⟨gb419, 0, none⟩ = some (.int .i64 a2_0) := (bkC BK419.out 0).trans rfl; have hcz32_1 : w29.cell? ⟨gb419, 1, none⟩ = some (.int .i64 a2_1) := (bkC BK419.out 1).trans rfl; have hfz32_0 := bkZ BK419.out 0; have hfz32_1 := bkZ BK419.out 1) | ((with_reducible refine gtC (f := 27) rfl ?_); refine goesL_ (some 54) rfl rfl Tryd.func27 (by kernel_rfl) rfl #[.int .i64 a2_0, .int .i64 1, .int .i64 300] rfl (by (try simp only [List.map_toArray, List.map_cons, List.map_nil]) <;> rfl) ?_; (with_reducible refine (cr1_CheckRange.calls a2_0 1 300 t446 _ A14.out).mono ?_); rintro e w' ⟨rfl, ⟨nd, rfl⟩⟩; refine ⟨_, rfl, ?_⟩))
  (try simp only [Act.put, List.setIfInBounds_toArray, List.set_cons_zero, List.set_cons_succ])
  go_cut [15] (fun v15 wc => ∃ (kq : Nat) (x15_14 : Int), v15 = .int .i64 x15_14 ∧ Z0 (cl6_HangRopes.j0 kq l0 a1 t427 t432 t433 t436 t437 t445 t445 x15_14 a2_0 a2_1 t425 t426 = some r) ∧ Z0 (kq ≤ k) ∧ Z0 (Kd.R k23 23 wc w.heap.size (fun k_ => k_ ≠ gb428) v434 t432) ∧ Z0 (Kd.R (Kd.int .i64) 3 wc w.heap.size (fun _ => True) v438 t436) ∧ Z0 (wc.heap[gb419]? = some (.cells #[.int .i64 a2_0, .int .i64 a2_1] 51 (0, 0))) ∧ Z0 (wc.heap[gb428]? = some (.cells #[.int .i64 t425, .int .i64 t426] 23 (0, 0))) ∧ Z0 (Below w.heap.size w wc))
  case first =>
   have H := HC15.out
   clear HC15
   by_cases c33 : t446 = 0
   ·rw [if_pos c33] at H
    have c33b0 : (t446 == 0) = true := beq_iff_eq.mpr c33
    have c33b1 : (t446 != 0) = false := bne_eq_false_iff_eq.mpr c33
    clear c33
    (first | rw [c33b0] | (simp only [i64_w, i32_w]; rw [c33b0]) | skip)
    replace H := Option.bind_eq_some_iff.mp H
    obtain ⟨t447, A340, H⟩ := H
    try dsimp only at H
    have A34 := Z0.mk A340
    clear A340
    have H' := Z0.mk H
    clear H
    have hnb35 := NB419_428.out
    have hnc35 := NB428_419.out
    have hcz36_0 : w29.cell? ⟨gb419, 0, none⟩ = some (.int .i64 a2_0) := (bkC BK419.out 0).trans rfl
    have hcz36_1 : w29.cell? ⟨gb419, 1, none⟩ = some (.int .i64 a2_1) := (bkC BK419.out 1).trans rfl
    have hfz36_0 := bkZ BK419.out 0
    have hfz36_1 := bkZ BK419.out 1
    go_wp2_with (first | ((with_reducible refine gtC (f := 27) rfl ?_); refine goesL_ (some 61) rfl rfl Tryd.func27 (by kernel_rfl) rfl #[.int .i64 a2_1, .int .i64 1, .int .i64 a2_0] rfl (by (try simp only [List.map_toArray, List.map_cons, List.map_nil]) <;> rfl) ?_; (with_reducible refine (cr1_CheckRange.calls a2_1 1 a2_0 t447 _ A34.out).mono ?_); rintro e w' ⟨rfl, ⟨nd, rfl⟩⟩; refine ⟨_, rfl, ?_⟩))
    go_meet
    case rel => exact ⟨_, (t447), (by first | rfl | (simp; done) | (simp [*]; done)), H', ⟨by first | omega | exact Nat.le_refl _⟩, ⟨by (with_reducible repeat (first | apply Kd.R_alloc | apply Kd.R_drewN | apply Kd.R_drew)); exact Kd.R_mono HO435.out (fun _ hk => hk.2)⟩, ⟨by (with_reducible repeat (first | apply Kd.R_alloc | apply Kd.R_drewN | apply Kd.R_drew)); exact Kd.R_mono HO439.out (fun _ hk => trivial)⟩, ⟨by (with_reducible repeat (first | refine bkN ?_ _ | refine bkD ?_ | refine bkA ?_ _)); exact BK419.out⟩, ⟨by (with_reducible repeat (first | refine bkN ?_ _ | refine bkD ?_ | refine bkA ?_ _)); exact BK428.out⟩, ⟨by repeat (first | (with_reducible first | exact HB.out | apply bwA | apply bwN | apply bw1 | refine bwS ?_ GE419.out | refine bwS ?_ GE428.out) | exact HB.out)⟩⟩
   ·rw [if_neg c33] at H
    have c33b0 : (t446 == 0) = false := beq_eq_false_iff_ne.mpr c33
    have c33b1 : (t446 != 0) = true := bne_iff_ne.mpr c33
    (first | rw [c33b0] | (simp only [i64_w, i32_w]; rw [c33b0]) | skip)
    have H' := Z0.mk H
    clear H
    go_wp2
    go_meet
    case rel => exact ⟨_, (t446), (by first | rfl | (simp; done) | (simp [*]; done)), H', ⟨by first | omega | exact Nat.le_refl _⟩, ⟨by (with_reducible repeat (first | apply Kd.R_alloc | apply Kd.R_drewN | apply Kd.R_drew)); exact Kd.R_mono HO435.out (fun _ hk => hk.2)⟩, ⟨by (with_reducible repeat (first | apply Kd.R_alloc | apply Kd.R_drewN | apply Kd.R_drew)); exact Kd.R_mono HO439.out (fun _ hk => trivial)⟩, ⟨by (with_reducible repeat (first | refine bkN ?_ _ | refine bkD ?_ | refine bkA ?_ _)); exact BK419.out⟩, ⟨by (with_reducible repeat (first | refine bkN ?_ _ | refine bkD ?_ | refine bkA ?_ _)); exact BK428.out⟩, ⟨by repeat (first | (with_reducible first | exact HB.out | apply bwA | apply bwN | apply bw1 | refine bwS ?_ GE419.out | refine bwS ?_ GE428.out) | exact HB.out)⟩⟩
  case rest =>
   clear HC15
   try clear c2
   try clear p2
   try clear c3
   try clear c4
   try clear c5
   try clear c6
   try clear c21
   try clear c26
   try clear c27
   try clear c33
   try clear c33b0
   try clear c33b1
   try clear c35
   try clear hcz22_0
   try clear hcz22_1
   try clear hcz26_0
   try clear hcz26_1
   try clear hcz32_0
   try clear hcz32_1
   try clear hcz36_0
   try clear hcz36_1
   try clear hfz22_0
   try clear hfz22_1
   try clear hfz26_0
   try clear hfz26_1
   try clear hfz32_0
   try clear hfz32_1
   try clear hfz36_0
   try clear hfz36_1
   obtain ⟨kq, x15_14, rfl, HA, HJ14, HO_9, HO_11, BK419, BK428, HB⟩ := hcut
   cases kq with
   | zero => exact absurd HA.out (by simp [cl6_HangRopes.j0])
   | succ kj14 =>
    have H := HA.out
    clear HA
    simp only [cl6_HangRopes.j0] at H
    have HC37 := Z0.mk H
    clear H
    go_upto_if 63 with (first | ((with_reducible refine gtD (N := 16) rfl ?_); refine bxE ?hg (N := 16) ?hd (cs := #[.int .i64 0, .int .i64 0]) (t := 23) ?hr ?_; (case hd => rfl); (case hg => rfl); (case hr => first | (go_simp; done) | (go_simp; rfl)); intro gb448 hg w38 hbox hb; have n0_ := Z0.mk (Kd.R_below (Kd.R_elderB (by (with_reducible repeat (first | apply Kd.R_alloc | apply Kd.R_drewN | apply Kd.R_drew)); exact HO_9.out) gb448 (Nat.le_of_eq hg.symm)) hb); have n1_ := Z0.mk (Kd.R_below (by (with_reducible repeat (first | apply Kd.R_alloc | apply Kd.R_drewN | apply Kd.R_drew)); exact HO_11.out) hb); have n2_ := Z0.mk (bkB (g := gb419) (o := .cells #[.int .i64 a2_0, .int .i64 a2_1] 51 (0, 0)) (by (with_reducible repeat (first | refine bkN ?_ _ | refine bkD ?_ | refine bkA ?_ _)); exact BK419.out) hb); have n3_ := Z0.mk (bkB (g := gb428) (o := .cells #[.int .i64 t425, .int .i64 t426] 23 (0, 0)) (by (with_reducible repeat (first | refine bkN ?_ _ | refine bkD ?_ | refine bkA ?_ _)); exact BK428.out) hb); have n4_ := Z0.mk (bwT (by repeat (first | (with_reducible first | exact HB.out | apply bwA | apply bwN | apply bw1 | refine bwS ?_ GE419.out | refine bwS ?_ GE428.out) | exact HB.out)) hb); have n5_ := Z0.mk (hbox); have n6_ := Z0.mk ((by rw [hg]; exact (bwZ (by repeat (first | (with_reducible first | exact HB.out | apply bwA | apply bwN | apply bw1 | refine bwS ?_ GE419.out | refine bwS ?_ GE428.out) | exact HB.out))) : w.heap.size ≤ gb448)); have n7_ := Z0.mk ((by rw [hg]; exact (bwZ (by repeat (first | (with_reducible first | exact HB.out | apply bwA | apply bwN | apply bw1 | refine bwS ?_ GE419.out | refine bwS ?_ GE428.out) | exact HB.out))) : w.heap.size ≤ gb448)); have n8_ := Z0.mk ((by rw [hg]; exact Nat.ne_of_lt (blk_lt (g := gb419) (o := .cells #[.int .i64 a2_0, .int .i64 a2_1] 51 (0, 0)) (by (with_reducible repeat (first | refine bkN ?_ _ | refine bkD ?_ | refine bkA ?_ _)); exact BK419.out)) : gb419 ≠ gb448)); have n9_ := Z0.mk ((by rw [hg]; exact Nat.ne_of_gt (blk_lt (g := gb419) (o := .cells #[.int .i64 a2_0, .int .i64 a2_1] 51 (0, 0)) (by (with_reducible repeat (first | refine bkN ?_ _ | refine bkD ?_ | refine bkA ?_ _)); exact BK419.out)) : gb448 ≠ gb419)); have n10_ := Z0.mk ((by rw [hg]; exact Nat.ne_of_lt (blk_lt (g := gb428) (o := .cells #[.int .i64 t425, .int .i64 t426] 23 (0, 0)) (by (with_reducible repeat (first | refine bkN ?_ _ | refine bkD ?_ | refine bkA ?_ _)); exact BK428.out)) : gb428 ≠ gb448)); have n11_ := Z0.mk ((by rw [hg]; exact Nat.ne_of_gt (blk_lt (g := gb428) (o := .cells #[.int .i64 t425, .int .i64 t426] 23 (0, 0)) (by (with_reducible repeat (first | refine bkN ?_ _ | refine bkD ?_ | refine bkA ?_ _)); exact BK428.out)) : gb448 ≠ gb428)); clear HO_9; clear HO_11; clear BK419; clear BK428; clear HB; have HO_9 := n0_; have HO_11 := n1_; have BK419 := n2_; have BK428 := n3_; have HB := n4_; have BK448 := n5_; have GW448 := n6_; have GE448 := n7_; have NB419_448 := n8_; have NB448_419 := n9_; have NB428_448 := n10_; have NB448_428 := n11_; clear n0_ n1_ n2_ n3_ n4_ n5_ n6_ n7_ n8_ n9_ n10_ n11_; clear hb hbox hg))
    (try simp only [Act.put, List.setIfInBounds_toArray, List.set_cons_zero, List.set_cons_succ])
    go_cut [13, 14, 17] (fun v13 v14 v17 wc => ∃ (kq : Nat) (x13_36 : Int) (x14_36 : Int) (x17_36 : List (S23)) (x449000_36 : Int) (x449001_36 : Int), v13 = .int .i64 x13_36 ∧ v14 = .int .i64 x14_36 ∧ Z0 (cl6_HangRopes.j1 kq t427 t432 t433 t436 t437 x13_36 x14_36 x15_14 x17_36 ([] : List Int) a2_0 a2_1 t425 t426 x449000_36 x449001_36 = some r) ∧ Z0 (kq ≤ kj14) ∧ Z0 (Kd.R k23 23 wc w.heap.size (fun k_ => some k_ ≠ (v17 : Value).ownBlock ∧ k_ ≠ gb428 ∧ k_ ≠ gb448) v434 t432) ∧ Z0 (Kd.R (Kd.int .i64) 3 wc w.heap.size (fun k_ => some k_ ≠ ((.slice none 0 0) : Value).ownBlock) v438 t436) ∧ Z0 (Kd.R k23 23 wc w.heap.size (fun k_ => some k_ ≠ (v434 : Value).ownBlock ∧ k_ ≠ gb428 ∧ k_ ≠ gb448) v17 x17_36) ∧ Z0 (Kd.R (Kd.int .i64) 3 wc w.heap.size (fun k_ => some k_ ≠ (v438 : Value).ownBlock) (.slice none 0 0) ([] : List Int)) ∧ Z0 (wc.heap[gb419]? = some (.cells #[.int .i64 a2_0, .int .i64 a2_1] 51 (0, 0))) ∧ Z0 (wc.heap[gb428]? = some (.cells #[.int .i64 t425, .int .i64 t426] 23 (0, 0))) ∧ Z0 (wc.heap[gb448]? = some (.cells #[.int .i64 x449000_36, .int .i64 x449001_36] 23 (0, 0))) ∧ Z0 (Below w.heap.size w wc))
    case first =>
     have H := HC37.out
     clear HC37
     by_cases c39 : t445 = 0
     ·rw [if_pos c39] at H
      have c39b0 : (t445 == 0) = true := beq_iff_eq.mpr c39
      have c39b1 : (t445 != 0) = false := bne_eq_false_iff_eq.mpr c39
      clear c39
      (first | rw [c39b0] | (simp only [i64_w, i32_w]; rw [c39b0]) | skip)
      replace H := Option.bind_eq_some_iff.mp H
      obtain ⟨⟨t449, t450, t451⟩, A400, H⟩ := H
      try dsimp only at H
      have A40 := Z0.mk A400
      clear A400
      replace H := Option.bind_eq_some_iff.mp H
      obtain ⟨⟨t452, t453⟩, A410, H⟩ := H
      try dsimp only at H
      have A41 := Z0.mk A410
      clear A410
      have H' := Z0.mk H
      clear H
      go_wp2_with (first | ((with_reducible refine gtC (f := 44) rfl ?_); refine goesL_ (some 67) rfl rfl Tryd.func44 (by kernel_rfl) rfl #[.slice A0 l0.length c0, .int .i64 a1] rfl (by (try simp only [List.map_toArray, List.map_cons, List.map_nil]) <;> rfl) ?_; (with_reducible refine (cr6_Rope.calls kj14 _ _ l0 a1 t449 t450 t451 _ ?side1 ?side2 A40.out).mono ?_); (case side1 => repeat (first | exact (Kd.C_below HR0.out HB.out) | (with_reducible refine Kd.C_alloc ?_ _) | (with_reducible refine Kd.C_drewN ?_ _) | (with_reducible refine Kd.C_drew ?_))); (case side2 => exact HC0.out); rintro e w42 ⟨rfl, hb⟩; refine ⟨_, rfl, ?_⟩; have n0_ := Z0.mk (Kd.R_below (by (with_reducible repeat (first | apply Kd.R_alloc | apply Kd.R_drewN | apply Kd.R_drew)); exact HO_9.out) hb); have n1_ := Z0.mk (Kd.R_below (by (with_reducible repeat (first | apply Kd.R_alloc | apply Kd.R_drewN | apply Kd.R_drew)); exact HO_11.out) hb); have n2_ := Z0.mk (bkB (g := gb419) (o := .cells #[.int .i64 a2_0, .int .i64 a2_1] 51 (0, 0)) (by (with_reducible repeat (first | refine bkN ?_ _ | refine bkD ?_ | refine bkA ?_ _)); exact BK419.out) hb); have n3_ := Z0.mk (bkB (g := gb428) (o := .cells #[.int .i64 t425, .int .i64 t426] 23 (0, 0)) (by (with_reducible repeat (first | refine bkN ?_ _ | refine bkD ?_ | refine bkA ?_ _)); exact BK428.out) hb); have n4_ := Z0.mk (bkB (g := gb448) (o := .cells #[.int .i64 0, .int .i64 0] 23 (0, 0)) (by (with_reducible repeat (first | refine bkN ?_ _ | refine bkD ?_ | refine bkA ?_ _)); exact BK448.out) hb); have n5_ := Z0.mk (bwT (by repeat (first | (with_reducible first | exact HB.out | apply bwA | apply bwN | apply bw1 | refine bwS ?_ GE419.out | refine bwS ?_ GE428.out | refine bwS ?_ GE448.out) | exact HB.out)) hb); clear HO_9; clear HO_11; clear BK419; clear BK428; clear BK448; clear HB; have HO_9 := n0_; have HO_11 := n1_; have BK419 := n2_; have BK428 := n3_; have BK448 := n4_; have HB := n5_; clear n0_ n1_ n2_ n3_ n4_ n5_; (try clear hb); (try clear hb2); (try clear hk); (try clear hi); have hnb43 := NB448_419.out; have hnc43 := NB419_448.out; have hnb44 := NB448_428.out; have hnc44 := NB428_448.out; have hcz45_0 : w42.cell? ⟨gb448, 0, none⟩ = some (.int .i64 0) := (bkC BK448.out 0).trans rfl; have hcz45_1 : w42.cell? ⟨gb448, 1, none⟩ = some (.int .i64 0) := (bkC BK448.out 1).trans rfl; have hfz45_0 := bkZ BK448.out 0; have hfz45_1 := bkZ BK448.out 1) | ((with_reducible refine gtC (f := 45) rfl ?_); refine goesL_ (some 73) rfl rfl Tryd.func45 (by kernel_rfl) rfl #[.slice A0 l0.length c0, .int .i64 a1] rfl (by (try simp only [List.map_toArray, List.map_cons, List.map_nil]) <;> rfl) ?_; (with_reducible refine (cr6_Marks.calls kj14 _ _ l0 a1 t452 t453 _ ?side1 ?side2 A41.out).mono ?_); (case side1 => exact Kd.C_below HR0.out (by repeat (first | (with_reducible first | exact HB.out | apply bwA | apply bwN | apply bw1 | refine bwS ?_ GE419.out | refine bwS ?_ GE428.out | refine bwS ?_ GE448.out) | exact HB.out))); (case side2 => exact HC0.out); rintro e w46 ⟨v454, rfl, ho0, hb⟩; refine ⟨_, rfl, ?_⟩; have n0_ := Z0.mk (Kd.R_elder' (by (with_reducible repeat (first | apply Kd.R_alloc | apply Kd.R_drewN | apply Kd.R_drew)); exact (Kd.R_mono (Kd.R_far (p := ⟨gb448, 1, none⟩) (Kd.R_far (p := ⟨gb448, 0, none⟩) (Kd.R_mono HO_9.out (fun k_ hk => (⟨hk, hk.2⟩ : _ ∧ k_ ≠ gb448))) (fun _ hk => hk.2) (.int .i64 t449)) (fun _ hk => hk.2) (.int .i64 t450)) (fun _ h_ => h_.1))) (Kd.R_base ho0) hb); have n1_ := Z0.mk (Kd.R_below (by (with_reducible repeat (first | apply Kd.R_alloc | apply Kd.R_drewN | apply Kd.R_drew)); exact (Kd.R_mono (Kd.R_far (p := ⟨gb448, 1, none⟩) (Kd.R_far (p := ⟨gb448, 0, none⟩) (Kd.R_types HO_11.out BK448.out (by decide)) (fun _ hk => hk.2) (.int .i64 t449)) (fun _ hk => hk.2) (.int .i64 t450)) (fun _ h_ => h_.1))) hb); have n2_ := Z0.mk (Kd.R_lower (Kd.R_newB (Kd.R_newB (Kd.R_new' ho0 (Kd.R_lt (by (with_reducible repeat (first | apply Kd.R_alloc | apply Kd.R_drewN | apply Kd.R_drew)); exact (Kd.R_mono (Kd.R_far (p := ⟨gb448, 1, none⟩) (Kd.R_far (p := ⟨gb448, 0, none⟩) (Kd.R_mono HO_9.out (fun k_ hk => (⟨hk, hk.2⟩ : _ ∧ k_ ≠ gb448))) (fun _ hk => hk.2) (.int .i64 t449)) (fun _ hk => hk.2) (.int .i64 t450)) (fun _ h_ => h_.1))))) (g := gb428) (o := .cells #[.int .i64 t425, .int .i64 t426] 23 (0, 0)) (by (with_reducible repeat (first | refine bkN ?_ _ | refine bkD ?_ | refine bkA ?_ _)); refine bkF ?_ NB428_448.out _; (with_reducible repeat (first | refine bkN ?_ _ | refine bkD ?_ | refine bkA ?_ _)); refine bkF ?_ NB428_448.out _; (with_reducible repeat (first | refine bkN ?_ _ | refine bkD ?_ | refine bkA ?_ _)); exact BK428.out)) (g := gb448) (o := .cells #[.int .i64 t449, .int .i64 t450] 23 (0, 0)) (by (with_reducible repeat (first | refine bkN ?_ _ | refine bkD ?_ | refine bkA ?_ _)); refine bkP (cs := #[.int .i64 t449, .int .i64 0]) ?_ 1 _ rfl; (with_reducible repeat (first | refine bkN ?_ _ | refine bkD ?_ | refine bkA ?_ _)); refine bkP (cs := #[.int .i64 0, .int .i64 0]) ?_ 0 _ rfl; (with_reducible repeat (first | refine bkN ?_ _ | refine bkD ?_ | refine bkA ?_ _)); exact BK448.out)) (bwZ (by repeat (first | (with_reducible first | exact HB.out | apply bwA | apply bwN | apply bw1 | refine bwS ?_ GE419.out | refine bwS ?_ GE428.out | refine bwS ?_ GE448.out) | exact HB.out)))); have n3_ := Z0.mk (bkB (g := gb419) (o := .cells #[.int .i64 a2_0, .int .i64 a2_1] 51 (0, 0)) (by (with_reducible repeat (first | refine bkN ?_ _ | refine bkD ?_ | refine bkA ?_ _)); refine bkF ?_ NB419_448.out _; (with_reducible repeat (first | refine bkN ?_ _ | refine bkD ?_ | refine bkA ?_ _)); refine bkF ?_ NB419_448.out _; (with_reducible repeat (first | refine bkN ?_ _ | refine bkD ?_ | refine bkA ?_ _)); exact BK419.out) hb); have n4_ := Z0.mk (bkB (g := gb428) (o := .cells #[.int .i64 t425, .int .i64 t426] 23 (0, 0)) (by (with_reducible repeat (first | refine bkN ?_ _ | refine bkD ?_ | refine bkA ?_ _)); refine bkF ?_ NB428_448.out _; (with_reducible repeat (first | refine bkN ?_ _ | refine bkD ?_ | refine bkA ?_ _)); refine bkF ?_ NB428_448.out _; (with_reducible repeat (first | refine bkN ?_ _ | refine bkD ?_ | refine bkA ?_ _)); exact BK428.out) hb); have n5_ := Z0.mk (bkB (g := gb448) (o := .cells #[.int .i64 t449, .int .i64 t450] 23 (0, 0)) (by (with_reducible repeat (first | refine bkN ?_ _ | refine bkD ?_ | refine bkA ?_ _)); refine bkP (cs := #[.int .i64 t449, .int .i64 0]) ?_ 1 _ rfl; (with_reducible repeat (first | refine bkN ?_ _ | refine bkD ?_ | refine bkA ?_ _)); refine bkP (cs := #[.int .i64 0, .int .i64 0]) ?_ 0 _ rfl; (with_reducible repeat (first | refine bkN ?_ _ | refine bkD ?_ | refine bkA ?_ _)); exact BK448.out) hb); have n6_ := Z0.mk (bwT (by repeat (first | (with_reducible first | exact HB.out | apply bwA | apply bwN | apply bw1 | refine bwS ?_ GE419.out | refine bwS ?_ GE428.out | refine bwS ?_ GE448.out) | exact HB.out)) hb); clear HO_9; clear HO_11; clear BK419; clear BK428; clear BK448; clear HB; have HO_9 := n0_; have HO_11 := n1_; have HO455 := n2_; have BK419 := n3_; have BK428 := n4_; have BK448 := n5_; have HB := n6_; clear n0_ n1_ n2_ n3_ n4_ n5_ n6_; (try clear hb); (try clear hb2); (try clear hk); (try clear hi); (try clear ho0)))
      go_meet
      case rel => exact ⟨_, (t451), (t453), (t452), (t449), (t450), (by first | rfl | (simp; done) | (simp [*]; done)), (by first | rfl | (simp; done) | (simp [*]; done)), H', ⟨by have := HJ14.out; first | omega | exact Nat.le_refl _⟩, ⟨by (with_reducible repeat (first | apply Kd.R_alloc | apply Kd.R_drewN | apply Kd.R_drew)); exact Kd.R_mono HO_9.out (fun _ hk => ⟨hk.2, ⟨hk.1.1, hk.1.2⟩⟩)⟩, ⟨by (with_reducible repeat (first | apply Kd.R_alloc | apply Kd.R_drewN | apply Kd.R_drew)); exact Kd.R_mono HO_11.out (fun _ hk => (by simp [Value.ownBlock]))⟩, ⟨by (with_reducible repeat (first | apply Kd.R_alloc | apply Kd.R_drewN | apply Kd.R_drew)); exact Kd.R_mono HO455.out (fun _ hk => ⟨hk.1.1.2, ⟨hk.1.2, hk.2⟩⟩)⟩, ⟨by first | exact Kd.R_nil _ _ _ _ _ | exact Kd.N_nil _ _ _ _ _ | exact Kd.V_nil _ _ _ _ _ | exact Kd.Q_nil _ _ _ _ _ | exact Kd.S_nil _ _ _ _ _⟩, ⟨by (with_reducible repeat (first | refine bkN ?_ _ | refine bkD ?_ | refine bkA ?_ _)); exact BK419.out⟩, ⟨by (with_reducible repeat (first | refine bkN ?_ _ | refine bkD ?_ | refine bkA ?_ _)); exact BK428.out⟩, ⟨by (with_reducible repeat (first | refine bkN ?_ _ | refine bkD ?_ | refine bkA ?_ _)); exact BK448.out⟩, ⟨by repeat (first | (with_reducible first | exact HB.out | apply bwA | apply bwN | apply bw1 | refine bwS ?_ GE419.out | refine bwS ?_ GE428.out | refine bwS ?_ GE448.out) | exact HB.out)⟩⟩
     ·rw [if_neg c39] at H
      have c39b0 : (t445 == 0) = false := beq_eq_false_iff_ne.mpr c39
      have c39b1 : (t445 != 0) = true := bne_iff_ne.mpr c39
      (first | rw [c39b0] | (simp only [i64_w, i32_w]; rw [c39b0]) | skip)
      have H' := Z0.mk H
      clear H
      go_wp2
      go_meet
      case rel => exact ⟨_, (t445), (t445), (([] : List (S23))), (0), (0), (by first | rfl | (simp; done) | (simp [*]; done)), (by first | rfl | (simp; done) | (simp [*]; done)), H', ⟨by have := HJ14.out; first | omega | exact Nat.le_refl _⟩, ⟨by (with_reducible repeat (first | apply Kd.R_alloc | apply Kd.R_drewN | apply Kd.R_drew)); exact Kd.R_mono HO_9.out (fun _ hk => ⟨(by simp [Value.ownBlock]), ⟨hk.1, hk.2⟩⟩)⟩, ⟨by (with_reducible repeat (first | apply Kd.R_alloc | apply Kd.R_drewN | apply Kd.R_drew)); exact Kd.R_mono HO_11.out (fun _ hk => (by simp [Value.ownBlock]))⟩, ⟨by first | exact Kd.R_nil _ _ _ _ _ | exact Kd.N_nil _ _ _ _ _ | exact Kd.V_nil _ _ _ _ _ | exact Kd.Q_nil _ _ _ _ _ | exact Kd.S_nil _ _ _ _ _⟩, ⟨by first | exact Kd.R_nil _ _ _ _ _ | exact Kd.N_nil _ _ _ _ _ | exact Kd.V_nil _ _ _ _ _ | exact Kd.Q_nil _ _ _ _ _ | exact Kd.S_nil _ _ _ _ _⟩, ⟨by (with_reducible repeat (first | refine bkN ?_ _ | refine bkD ?_ | refine bkA ?_ _)); exact BK419.out⟩, ⟨by (with_reducible repeat (first | refine bkN ?_ _ | refine bkD ?_ | refine bkA ?_ _)); exact BK428.out⟩, ⟨by (with_reducible repeat (first | refine bkN ?_ _ | refine bkD ?_ | refine bkA ?_ _)); exact BK448.out⟩, ⟨by repeat (first | (with_reducible first | exact HB.out | apply bwA | apply bwN | apply bw1 | refine bwS ?_ GE419.out | refine bwS ?_ GE428.out | refine bwS ?_ GE448.out) | exact HB.out)⟩⟩
    case rest =>
     clear HC37
     try clear c2
     try clear p2
     try clear c3
     try clear c4
     try clear c5
     try clear c6
     try clear c21
     try clear c26
     try clear c27
     try clear c33
     try clear c33b0
     try clear c33b1
     try clear c35
     try clear c38
     try clear c39
     try clear c39b0
     try clear c39b1
     try clear c40
     try clear c41
     try clear c42
     try clear c43
     try clear c44
     try clear c45
     try clear hcz22_0
     try clear hcz22_1
     try clear hcz26_0
     try clear hcz26_1
     try clear hcz32_0
     try clear hcz32_1
     try clear hcz36_0
     try clear hcz36_1
     try clear hcz45_0
     try clear hcz45_1
     try clear hfz22_0
     try clear hfz22_1
     try clear hfz26_0
     try clear hfz26_1
     try clear hfz32_0
     try clear hfz32_1
     try clear hfz36_0
     try clear hfz36_1
     try clear hfz45_0
     try clear hfz45_1
     try clear p2
     obtain ⟨kq, x13_36, x14_36, x17_36, x449000_36, x449001_36, rfl, rfl, HA, HJ36, HO_9, HO_11, HO_17, HO_18, BK419, BK428, BK448, HB⟩ := hcut
     cases kq with
     | zero => exact absurd HA.out (by simp [cl6_HangRopes.j1])
     | succ kj36 =>
      have H := HA.out
      clear HA
      simp only [cl6_HangRopes.j1] at H
      by_cases c47 : x15_14 = 0
      ·rw [if_pos c47] at H
       have c47b0 : (x15_14 == 0) = true := beq_iff_eq.mpr c47
       have c47b1 : (x15_14 != 0) = false := bne_eq_false_iff_eq.mpr c47
       clear c47
       replace H := Option.bind_eq_some_iff.mp H
       obtain ⟨t456, A480, H⟩ := H
       try dsimp only at H
       have A48 := Z0.mk A480
       clear A480
       by_cases c49 : (t425 == x449000_36 && (t426 == x449001_36)) = true
       ·rw [if_pos c49] at H
        have c49b0 : (t425 == x449000_36 && (t426 == x449001_36)) = true := c49
        (try (have c49b1 : decide (t425 = x449000_36 && (t426 == x449001_36)) = true := by simpa using c49))
        (try (have c49b2 : (t425 == x449000_36 && (t426 == x449001_36)) = true := by simpa using c49))
        clear c49
        by_cases c50 : t427 = x13_36
        ·rw [if_pos c50] at H
         have c50b0 : (t427 == x13_36) = true := beq_iff_eq.mpr c50
         have c50b1 : (t427 != x13_36) = false := bne_eq_false_iff_eq.mpr c50
         clear c50
         replace H := Option.bind_eq_some_iff.mp H
         obtain ⟨t459, A510, H⟩ := H
         try dsimp only at H
         have A51 := Z0.mk A510
         clear A510
         by_cases c52 : t459 = true
         ·subst c52
          have H1 : (if t433 = x14_36 then ((cr1_SameInts.f kj36 t436 t456).bind fun t460 => (if t460 = true then (if t437 = x15_14 then ((cl6_awake.f kj36).bind fun t461 => (some t461)) else (none)) else (none))) else (none)) = some r := by rw [if_pos rfl] at H; exact H
          clear H
          have H := H1
          clear H1
          by_cases c53 : t433 = x14_36
          ·rw [if_pos c53] at H
           have c53b0 : (t433 == x14_36) = true := beq_iff_eq.mpr c53
           have c53b1 : (t433 != x14_36) = false := bne_eq_false_iff_eq.mpr c53
           clear c53
           replace H := Option.bind_eq_some_iff.mp H
           obtain ⟨t460, A540, H⟩ := H
           try dsimp only at H
           have A54 := Z0.mk A540
           clear A540
           by_cases c55 : t460 = true
           ·subst c55
            have H1 : (if t437 = x15_14 then ((cl6_awake.f kj36).bind fun t461 => (some t461)) else (none)) = some r := by rw [if_pos rfl] at H; exact H
            clear H
            have H := H1
            clear H1
            by_cases c56 : t437 = x15_14
            ·rw [if_pos c56] at H
             have c56b0 : (t437 == x15_14) = true := beq_iff_eq.mpr c56
             have c56b1 : (t437 != x15_14) = false := bne_eq_false_iff_eq.mpr c56
             clear c56
             replace H := Option.bind_eq_some_iff.mp H
             obtain ⟨t461, A570, H⟩ := H
             try dsimp only at H
             have A57 := Z0.mk A570
             clear A570
             obtain rfl := Option.some.inj H
             have hnb58 := NB419_428.out
             have hnc58 := NB428_419.out
             have hnb59 := NB419_448.out
             have hnc59 := NB448_419.out
             have hcz60_0 : wc.cell? ⟨gb419, 0, none⟩ = some (.int .i64 a2_0) := (bkC BK419.out 0).trans rfl
             have hcz60_1 : wc.cell? ⟨gb419, 1, none⟩ = some (.int .i64 a2_1) := (bkC BK419.out 1).trans rfl
             have hfz60_0 := bkZ BK419.out 0
             have hfz60_1 := bkZ BK419.out 1
             go_wp2_with (first | ((with_reducible refine gtC (f := 46) rfl ?_); refine goesL_ (some 82) rfl rfl Tryd.func46 (by kernel_rfl) rfl #[.int .i64 a2_0, .int .i64 a2_1] rfl (by (try simp only [List.map_toArray, List.map_cons, List.map_nil]) <;> rfl) ?_; (with_reducible refine (cr6_Ties.calls kj36 a2_0 a2_1 t456 _ A48.out).mono ?_); rintro e w61 ⟨v457, rfl, ho0, hb⟩; refine ⟨_, rfl, ?_⟩; have n0_ := Z0.mk (Kd.R_below (by (with_reducible repeat (first | apply Kd.R_alloc | apply Kd.R_drewN | apply Kd.R_drew)); exact HO_9.out) hb); have n1_ := Z0.mk (Kd.R_elder' (by (with_reducible repeat (first | apply Kd.R_alloc | apply Kd.R_drewN | apply Kd.R_drew)); exact HO_11.out) (Kd.R_base ho0) hb); have n2_ := Z0.mk (Kd.R_below (by (with_reducible repeat (first | apply Kd.R_alloc | apply Kd.R_drewN | apply Kd.R_drew)); exact HO_17.out) hb); have n3_ := Z0.mk (Kd.R_elder' (by (with_reducible repeat (first | apply Kd.R_alloc | apply Kd.R_drewN | apply Kd.R_drew)); exact HO_18.out) (Kd.R_base ho0) hb); have n4_ := Z0.mk (Kd.R_lower (Kd.R_new' (Kd.R_new' ho0 (Kd.R_lt (by (with_reducible repeat (first | apply Kd.R_alloc | apply Kd.R_drewN | apply Kd.R_drew)); exact HO_11.out))) (Kd.R_lt (by (with_reducible repeat (first | apply Kd.R_alloc | apply Kd.R_drewN | apply Kd.R_drew)); exact HO_18.out))) (bwZ (by repeat (first | (with_reducible first | exact HB.out | apply bwA | apply bwN | apply bw1 | refine bwS ?_ GE419.out | refine bwS ?_ GE428.out | refine bwS ?_ GE448.out) | exact HB.out)))); have n5_ := Z0.mk (bkB (g := gb419) (o := .cells #[.int .i64 a2_0, .int .i64 a2_1] 51 (0, 0)) (by (with_reducible repeat (first | refine bkN ?_ _ | refine bkD ?_ | refine bkA ?_ _)); exact BK419.out) hb); have n6_ := Z0.mk (bkB (g := gb428) (o := .cells #[.int .i64 t425, .int .i64 t426] 23 (0, 0)) (by (with_reducible repeat (first | refine bkN ?_ _ | refine bkD ?_ | refine bkA ?_ _)); exact BK428.out) hb); have n7_ := Z0.mk (bkB (g := gb448) (o := .cells #[.int .i64 x449000_36, .int .i64 x449001_36] 23 (0, 0)) (by (with_reducible repeat (first | refine bkN ?_ _ | refine bkD ?_ | refine bkA ?_ _)); exact BK448.out) hb); have n8_ := Z0.mk (bwT (by repeat (first | (with_reducible first | exact HB.out | apply bwA | apply bwN | apply bw1 | refine bwS ?_ GE419.out | refine bwS ?_ GE428.out | refine bwS ?_ GE448.out) | exact HB.out)) hb); clear HO_9; clear HO_11; clear HO_17; clear HO_18; clear BK419; clear BK428; clear BK448; clear HB; have HO_9 := n0_; have HO_11 := n1_; have HO_17 := n2_; have HO_18 := n3_; have HO458 := n4_; have BK419 := n5_; have BK428 := n6_; have BK448 := n7_; have HB := n8_; clear n0_ n1_ n2_ n3_ n4_ n5_ n6_ n7_ n8_; (try clear hb); (try clear hb2); (try clear hk); (try clear hi); (try clear ho0); have hnb62 := NB428_448.out; have hnc62 := NB448_428.out; have hcz63_0 : w61.cell? ⟨gb428, 0, none⟩ = some (.int .i64 t425) := (bkC BK428.out 0).trans rfl; have hcz63_1 : w61.cell? ⟨gb428, 1, none⟩ = some (.int .i64 t426) := (bkC BK428.out 1).trans rfl; have hfz63_0 := bkZ BK428.out 0; have hfz63_1 := bkZ BK428.out 1; have hcz64_0 : w61.cell? ⟨gb448, 0, none⟩ = some (.int .i64 x449000_36) := (bkC BK448.out 0).trans rfl; have hcz64_1 : w61.cell? ⟨gb448, 1, none⟩ = some (.int .i64 x449001_36) := (bkC BK448.out 1).trans rfl; have hfz64_0 := bkZ BK448.out 0; have hfz64_1 := bkZ BK448.out 1; obtain ⟨Ao65, co65, eo65⟩ := Kd.R_slice HO_9.out; subst eo65; obtain ⟨Ao66, co66, eo66⟩ := Kd.R_slice HO_17.out; subst eo66) | (go_at_call 47; (with_reducible refine (cr6_SameRatios.calls kj36 _ _ t432 _ _ x17_36 true _ ?side1 ?side2 ?side3 ?side4 A51.out).mono ?_); (case side1 => repeat (first | exact (Kd.R_reads' HO_9.out).2.2 | (with_reducible refine Kd.C_alloc ?_ _) | (with_reducible refine Kd.C_drewN ?_ _) | (with_reducible refine Kd.C_drew ?_))); (case side2 => exact (Kd.R_reads' HO_9.out).2.1); (case side3 => repeat (first | exact (Kd.R_reads' HO_17.out).2.2 | (with_reducible refine Kd.C_alloc ?_ _) | (with_reducible refine Kd.C_drewN ?_ _) | (with_reducible refine Kd.C_drew ?_))); (case side4 => exact (Kd.R_reads' HO_17.out).2.1); rintro e w' ⟨rfl, ⟨nd, rfl⟩⟩; obtain ⟨Ao67, co67, eo67⟩ := Kd.R_slice HO_11.out; subst eo67; obtain ⟨Ao68, co68, eo68⟩ := Kd.R_slice HO458.out; subst eo68) | (go_at_call 48; (with_reducible refine (cr1_SameInts.calls kj36 _ _ t436 _ _ t456 true _ ?side1 ?side2 ?side3 ?side4 A54.out).mono ?_); (case side1 => repeat (first | exact (Kd.R_reads' HO_11.out).2.2 | (with_reducible refine Kd.C_alloc ?_ _) | (with_reducible refine Kd.C_drewN ?_ _) | (with_reducible refine Kd.C_drew ?_))); (case side2 => exact (Kd.R_reads' HO_11.out).2.1); (case side3 => repeat (first | exact (Kd.R_reads' HO458.out).2.2 | (with_reducible refine Kd.C_alloc ?_ _) | (with_reducible refine Kd.C_drewN ?_ _) | (with_reducible refine Kd.C_drew ?_))); (case side4 => exact (Kd.R_reads' HO458.out).2.1); rintro e w' ⟨rfl, ⟨nd, rfl⟩⟩) | (go_at_call 22; (with_reducible refine (cl6_awake.calls kj36  t461 _ (hG.below (by repeat (first | (with_reducible first | exact HB.out | apply bwA | apply bwN | apply bw1 | refine bwS ?_ GE419.out | refine bwS ?_ GE428.out | refine bwS ?_ GE448.out) | exact HB.out))) A57.out).mono ?_); rintro e w69 ⟨rfl, hb⟩; have n0_ := Z0.mk (Kd.R_below (by (with_reducible repeat (first | apply Kd.R_alloc | apply Kd.R_drewN | apply Kd.R_drew)); exact HO_9.out) hb); have n1_ := Z0.mk (Kd.R_below (by (with_reducible repeat (first | apply Kd.R_alloc | apply Kd.R_drewN | apply Kd.R_drew)); exact HO_11.out) hb); have n2_ := Z0.mk (Kd.R_below (by (with_reducible repeat (first | apply Kd.R_alloc | apply Kd.R_drewN | apply Kd.R_drew)); exact HO_17.out) hb); have n3_ := Z0.mk (Kd.R_below (by (with_reducible repeat (first | apply Kd.R_alloc | apply Kd.R_drewN | apply Kd.R_drew)); exact HO_18.out) hb); have n4_ := Z0.mk (Kd.R_below (by (with_reducible repeat (first | apply Kd.R_alloc | apply Kd.R_drewN | apply Kd.R_drew)); exact HO458.out) hb); have n5_ := Z0.mk (bkB (g := gb419) (o := .cells #[.int .i64 a2_0, .int .i64 a2_1] 51 (0, 0)) (by (with_reducible repeat (first | refine bkN ?_ _ | refine bkD ?_ | refine bkA ?_ _)); exact BK419.out) hb); have n6_ := Z0.mk (bkB (g := gb428) (o := .cells #[.int .i64 t425, .int .i64 t426] 23 (0, 0)) (by (with_reducible repeat (first | refine bkN ?_ _ | refine bkD ?_ | refine bkA ?_ _)); exact BK428.out) hb); have n7_ := Z0.mk (bkB (g := gb448) (o := .cells #[.int .i64 x449000_36, .int .i64 x449001_36] 23 (0, 0)) (by (with_reducible repeat (first | refine bkN ?_ _ | refine bkD ?_ | refine bkA ?_ _)); exact BK448.out) hb); have n8_ := Z0.mk (bwT (by repeat (first | (with_reducible first | exact HB.out | apply bwA | apply bwN | apply bw1 | refine bwS ?_ GE419.out | refine bwS ?_ GE428.out | refine bwS ?_ GE448.out) | exact HB.out)) hb); clear HO_9; clear HO_11; clear HO_17; clear HO_18; clear HO458; clear BK419; clear BK428; clear BK448; clear HB; have HO_9 := n0_; have HO_11 := n1_; have HO_17 := n2_; have HO_18 := n3_; have HO458 := n4_; have BK419 := n5_; have BK428 := n6_; have BK448 := n7_; have HB := n8_; clear n0_ n1_ n2_ n3_ n4_ n5_ n6_ n7_ n8_; (try clear hb); (try clear hb2); (try clear hk); (try clear hi)))
             go_ret
             exact ⟨by first | rfl | (simp [errW_none, errW_some] <;> rfl) | (simp [*, errW_none, errW_some] <;> rfl), by repeat (first | (with_reducible first | exact HB.out | apply bwA | apply bwN | apply bw1 | refine bwS ?_ GE419.out | refine bwS ?_ GE428.out | refine bwS ?_ GE448.out) | exact HB.out)⟩
            ·rw [if_neg c56] at H
             exact absurd H (by simp)
           ·replace c55 := Bool.eq_false_iff.mpr c55
            subst c55
            have H1 : (none) = some r := by rw [if_neg (show ¬ (false = true) by decide)] at H; exact H
            clear H
            have H := H1
            clear H1
            exact absurd H (by simp)
          ·rw [if_neg c53] at H
           exact absurd H (by simp)
         ·replace c52 := Bool.eq_false_iff.mpr c52
          subst c52
          have H1 : (none) = some r := by rw [if_neg (show ¬ (false = true) by decide)] at H; exact H
          clear H
          have H := H1
          clear H1
          exact absurd H (by simp)
        ·rw [if_neg c50] at H
         exact absurd H (by simp)
       ·rw [if_neg c49] at H
        exact absurd H (by simp)
      ·rw [if_neg c47] at H
       have c47b0 : (x15_14 == 0) = false := beq_eq_false_iff_ne.mpr c47
       have c47b1 : (x15_14 != 0) = true := bne_iff_ne.mpr c47
       by_cases c70 : (t425 == x449000_36 && (t426 == x449001_36)) = true
       ·rw [if_pos c70] at H
        have c70b0 : (t425 == x449000_36 && (t426 == x449001_36)) = true := c70
        (try (have c70b1 : decide (t425 = x449000_36 && (t426 == x449001_36)) = true := by simpa using c70))
        (try (have c70b2 : (t425 == x449000_36 && (t426 == x449001_36)) = true := by simpa using c70))
        clear c70
        by_cases c71 : t427 = x13_36
        ·rw [if_pos c71] at H
         have c71b0 : (t427 == x13_36) = true := beq_iff_eq.mpr c71
         have c71b1 : (t427 != x13_36) = false := bne_eq_false_iff_eq.mpr c71
         clear c71
         replace H := Option.bind_eq_some_iff.mp H
         obtain ⟨t462, A720, H⟩ := H
         try dsimp only at H
         have A72 := Z0.mk A720
         clear A720
         by_cases c73 : t462 = true
         ·subst c73
          have H1 : (if t433 = x14_36 then ((cr1_SameInts.f kj36 t436 ([] : List Int)).bind fun t463 => (if t463 = true then (if t437 = x15_14 then ((cl6_awake.f kj36).bind fun t464 => (some t464)) else (none)) else (none))) else (none)) = some r := by rw [if_pos rfl] at H; exact H
          clear H
          have H := H1
          clear H1
          by_cases c74 : t433 = x14_36
          ·rw [if_pos c74] at H
           have c74b0 : (t433 == x14_36) = true := beq_iff_eq.mpr c74
           have c74b1 : (t433 != x14_36) = false := bne_eq_false_iff_eq.mpr c74
           clear c74
           replace H := Option.bind_eq_some_iff.mp H
           obtain ⟨t463, A750, H⟩ := H
           try dsimp only at H
           have A75 := Z0.mk A750
           clear A750
           by_cases c76 : t463 = true
           ·subst c76
            have H1 : (if t437 = x15_14 then ((cl6_awake.f kj36).bind fun t464 => (some t464)) else (none)) = some r := by rw [if_pos rfl] at H; exact H
            clear H
            have H := H1
            clear H1
            by_cases c77 : t437 = x15_14
            ·rw [if_pos c77] at H
             have c77b0 : (t437 == x15_14) = true := beq_iff_eq.mpr c77
             have c77b1 : (t437 != x15_14) = false := bne_eq_false_iff_eq.mpr c77
             clear c77
             replace H := Option.bind_eq_some_iff.mp H
             obtain ⟨t464, A780, H⟩ := H
             try dsimp only at H
             have A78 := Z0.mk A780
             clear A780
             obtain rfl := Option.some.inj H
             have hnb79 := NB428_419.out
             have hnc79 := NB419_428.out
             have hnb80 := NB428_448.out
             have hnc80 := NB448_428.out
             have hcz81_0 : wc.cell? ⟨gb428, 0, none⟩ = some (.int .i64 t425) := (bkC BK428.out 0).trans rfl
             have hcz81_1 : wc.cell? ⟨gb428, 1, none⟩ = some (.int .i64 t426) := (bkC BK428.out 1).trans rfl
             have hfz81_0 := bkZ BK428.out 0
             have hfz81_1 := bkZ BK428.out 1
             have hnb82 := NB448_419.out
             have hnc82 := NB419_448.out
             have hcz83_0 : wc.cell? ⟨gb448, 0, none⟩ = some (.int .i64 x449000_36) := (bkC BK448.out 0).trans rfl
             have hcz83_1 : wc.cell? ⟨gb448, 1, none⟩ = some (.int .i64 x449001_36) := (bkC BK448.out 1).trans rfl
             have hfz83_0 := bkZ BK448.out 0
             have hfz83_1 := bkZ BK448.out 1
             obtain ⟨Ao84, co84, eo84⟩ := Kd.R_slice HO_9.out
             subst eo84
             obtain ⟨Ao85, co85, eo85⟩ := Kd.R_slice HO_17.out
             subst eo85
             go_wp2_with (first | (go_at_call 47; (with_reducible refine (cr6_SameRatios.calls kj36 _ _ t432 _ _ x17_36 true _ ?side1 ?side2 ?side3 ?side4 A72.out).mono ?_); (case side1 => repeat (first | exact (Kd.R_reads' HO_9.out).2.2 | (with_reducible refine Kd.C_alloc ?_ _) | (with_reducible refine Kd.C_drewN ?_ _) | (with_reducible refine Kd.C_drew ?_))); (case side2 => exact (Kd.R_reads' HO_9.out).2.1); (case side3 => repeat (first | exact (Kd.R_reads' HO_17.out).2.2 | (with_reducible refine Kd.C_alloc ?_ _) | (with_reducible refine Kd.C_drewN ?_ _) | (with_reducible refine Kd.C_drew ?_))); (case side4 => exact (Kd.R_reads' HO_17.out).2.1); rintro e w' ⟨rfl, ⟨nd, rfl⟩⟩; obtain ⟨Ao86, co86, eo86⟩ := Kd.R_slice HO_11.out; subst eo86) | (go_at_call 48; refine calls_of_args (args' := #[.slice Ao86 t436.length co86, .slice none ([] : List Int).length 0]) (by first | (rw [show ([] : List Int).length = 0 from (Kd.R_reads' HO_18.out).1.symm] <;> rfl) | rfl) ?_; (with_reducible refine (cr1_SameInts.calls kj36 _ _ t436 _ _ ([] : List Int) true _ ?side1 ?side2 ?side3 ?side4 A75.out).mono ?_); (case side1 => repeat (first | exact (Kd.R_reads' HO_11.out).2.2 | (with_reducible refine Kd.C_alloc ?_ _) | (with_reducible refine Kd.C_drewN ?_ _) | (with_reducible refine Kd.C_drew ?_))); (case side2 => exact (Kd.R_reads' HO_11.out).2.1); (case side3 => repeat (first | exact (Kd.R_reads' HO_18.out).2.2 | (with_reducible refine Kd.C_alloc ?_ _) | (with_reducible refine Kd.C_drewN ?_ _) | (with_reducible refine Kd.C_drew ?_))); (case side4 => rw [show ([] : List Int).length = 0 from (Kd.R_reads' HO_18.out).1.symm]; exact (Kd.R_reads' HO_18.out).2.1); rintro e w' ⟨rfl, ⟨nd, rfl⟩⟩) | (go_at_call 22; (with_reducible refine (cl6_awake.calls kj36  t464 _ (hG.below (by repeat (first | (with_reducible first | exact HB.out | apply bwA | apply bwN | apply bw1 | refine bwS ?_ GE419.out | refine bwS ?_ GE428.out | refine bwS ?_ GE448.out) | exact HB.out))) A78.out).mono ?_); rintro e w87 ⟨rfl, hb⟩; have n0_ := Z0.mk (Kd.R_below (by (with_reducible repeat (first | apply Kd.R_alloc | apply Kd.R_drewN | apply Kd.R_drew)); exact HO_9.out) hb); have n1_ := Z0.mk (Kd.R_below (by (with_reducible repeat (first | apply Kd.R_alloc | apply Kd.R_drewN | apply Kd.R_drew)); exact HO_11.out) hb); have n2_ := Z0.mk (Kd.R_below (by (with_reducible repeat (first | apply Kd.R_alloc | apply Kd.R_drewN | apply Kd.R_drew)); exact HO_17.out) hb); have n3_ := Z0.mk (Kd.R_below (by (with_reducible repeat (first | apply Kd.R_alloc | apply Kd.R_drewN | apply Kd.R_drew)); exact HO_18.out) hb); have n4_ := Z0.mk (bkB (g := gb419) (o := .cells #[.int .i64 a2_0, .int .i64 a2_1] 51 (0, 0)) (by (with_reducible repeat (first | refine bkN ?_ _ | refine bkD ?_ | refine bkA ?_ _)); exact BK419.out) hb); have n5_ := Z0.mk (bkB (g := gb428) (o := .cells #[.int .i64 t425, .int .i64 t426] 23 (0, 0)) (by (with_reducible repeat (first | refine bkN ?_ _ | refine bkD ?_ | refine bkA ?_ _)); exact BK428.out) hb); have n6_ := Z0.mk (bkB (g := gb448) (o := .cells #[.int .i64 x449000_36, .int .i64 x449001_36] 23 (0, 0)) (by (with_reducible repeat (first | refine bkN ?_ _ | refine bkD ?_ | refine bkA ?_ _)); exact BK448.out) hb); have n7_ := Z0.mk (bwT (by repeat (first | (with_reducible first | exact HB.out | apply bwA | apply bwN | apply bw1 | refine bwS ?_ GE419.out | refine bwS ?_ GE428.out | refine bwS ?_ GE448.out) | exact HB.out)) hb); clear HO_9; clear HO_11; clear HO_17; clear HO_18; clear BK419; clear BK428; clear BK448; clear HB; have HO_9 := n0_; have HO_11 := n1_; have HO_17 := n2_; have HO_18 := n3_; have BK419 := n4_; have BK428 := n5_; have BK448 := n6_; have HB := n7_; clear n0_ n1_ n2_ n3_ n4_ n5_ n6_ n7_; (try clear hb); (try clear hb2); (try clear hk); (try clear hi)))
             go_ret
             exact ⟨by first | rfl | (simp [errW_none, errW_some] <;> rfl) | (simp [*, errW_none, errW_some] <;> rfl), by repeat (first | (with_reducible first | exact HB.out | apply bwA | apply bwN | apply bw1 | refine bwS ?_ GE419.out | refine bwS ?_ GE428.out | refine bwS ?_ GE448.out) | exact HB.out)⟩
            ·rw [if_neg c77] at H
             exact absurd H (by simp)
           ·replace c76 := Bool.eq_false_iff.mpr c76
            subst c76
            have H1 : (none) = some r := by rw [if_neg (show ¬ (false = true) by decide)] at H; exact H
            clear H
            have H := H1
            clear H1
            exact absurd H (by simp)
          ·rw [if_neg c74] at H
           exact absurd H (by simp)
         ·replace c73 := Bool.eq_false_iff.mpr c73
          subst c73
          have H1 : (none) = some r := by rw [if_neg (show ¬ (false = true) by decide)] at H; exact H
          clear H
          have H := H1
          clear H1
          exact absurd H (by simp)
        ·rw [if_neg c71] at H
         exact absurd H (by simp)
       ·rw [if_neg c70] at H
        exact absurd H (by simp)
 ·replace c5 := Bool.eq_false_iff.mpr c5
  subst c5
  have H1 : ((cl6_awake.f k).bind fun t421 => (some t421)) = some r := by rw [if_neg (show ¬ (false = true) by decide)] at H; exact H
  clear H
  have H := H1
  clear H1
  replace H := Option.bind_eq_some_iff.mp H
  obtain ⟨t421, A880, H⟩ := H
  try dsimp only at H
  have A88 := Z0.mk A880
  clear A880
  obtain rfl := Option.some.inj H
  go_enter Tryd.func6, Tryd.ntmps6
  go_wp2_with (first | ((with_reducible refine gtD (N := 5) rfl ?_); refine bxE ?hg (N := 5) ?hd (cs := #[.int .i64 a2_0, .int .i64 a2_1]) (t := 51) ?hr ?_; (case hd => rfl); (case hg => rfl); (case hr => first | (go_simp; done) | (go_simp; rfl)); intro gb419 hg w89 hbox hb; have n0_ := Z0.mk (bwT (by repeat (first | (with_reducible first | exact HB.out | apply bwA | apply bwN | apply bw1) | exact HB.out)) hb); have n1_ := Z0.mk (hbox); have n2_ := Z0.mk ((by rw [hg]; exact (bwZ (by repeat (first | (with_reducible first | exact HB.out | apply bwA | apply bwN | apply bw1) | exact HB.out))) : w.heap.size ≤ gb419)); have n3_ := Z0.mk ((by rw [hg]; exact (bwZ (by repeat (first | (with_reducible first | exact HB.out | apply bwA | apply bwN | apply bw1) | exact HB.out))) : w.heap.size ≤ gb419)); clear HB; have HB := n0_; have BK419 := n1_; have GW419 := n2_; have GE419 := n3_; clear n0_ n1_ n2_ n3_; clear hb hbox hg) | ((with_reducible refine gtC (f := 38) rfl ?_); refine goesL_ (some 20) rfl rfl Tryd.func38 (by kernel_rfl) rfl #[.slice A0 l0.length c0] rfl (by (try simp only [List.map_toArray, List.map_cons, List.map_nil]) <;> rfl) ?_; (with_reducible refine (cr6_ShortSections.calls k _ _ l0 false _ ?side1 ?side2 A4.out).mono ?_); (case side1 => repeat (first | exact (Kd.C_below HR0.out HB.out) | (with_reducible refine Kd.C_alloc ?_ _) | (with_reducible refine Kd.C_drewN ?_ _) | (with_reducible refine Kd.C_drew ?_))); (case side2 => exact HC0.out); rintro e w' ⟨rfl, ⟨nd, rfl⟩⟩; refine ⟨_, rfl, ?_⟩) | ((with_reducible refine gtC (f := 22) rfl ?_); refine goesL_ (some 22) rfl rfl Tryd.func22 (by kernel_rfl) rfl #[] rfl (by (try simp only [List.map_toArray, List.map_cons, List.map_nil]) <;> rfl) ?_; (with_reducible refine (cl6_awake.calls k  t421 _ (hG.below (by repeat (first | (with_reducible first | exact HB.out | apply bwA | apply bwN | apply bw1 | refine bwS ?_ GE419.out) | exact HB.out))) A88.out).mono ?_); rintro e w90 ⟨rfl, hb⟩; refine ⟨_, rfl, ?_⟩; have n0_ := Z0.mk (bkB (g := gb419) (o := .cells #[.int .i64 a2_0, .int .i64 a2_1] 51 (0, 0)) (by (with_reducible repeat (first | refine bkN ?_ _ | refine bkD ?_ | refine bkA ?_ _)); exact BK419.out) hb); have n1_ := Z0.mk (bwT (by repeat (first | (with_reducible first | exact HB.out | apply bwA | apply bwN | apply bw1 | refine bwS ?_ GE419.out) | exact HB.out)) hb); clear BK419; clear HB; have BK419 := n0_; have HB := n1_; clear n0_ n1_; (try clear hb); (try clear hb2); (try clear hk); (try clear hi)))
  go_ret
  exact ⟨by first | rfl | (simp [errW_none, errW_some] <;> rfl) | (simp [*, errW_none, errW_some] <;> rfl), by repeat (first | (with_reducible first | exact HB.out | apply bwA | apply bwN | apply bw1 | refine bwS ?_ GE419.out) | exact HB.out)⟩
end Go.Proofs.YtppighiaffppkaaDoor.H
end
section
namespace Go.Proofs.YtppighiaffppkaaDoor.H
open Go.RowKit Go.Proofs.YtppighiaffppkaaDoorW.PrintWords Go.Proofs.YtppighiaffppkaaDoorW.PrintLast Go.Proofs.YtppighiaffppkaaDoorW.PrintMore
set_option linter.unusedSimpArgs false
set_option linter.unusedVariables false
theorem mul_bd {a b A B : Int} (h0 : 0 ≤ a) (h1 : a ≤ A) (h2 : 0 ≤ b) (h3 : b ≤ B) : 0 ≤ a * b ∧ a * b ≤ A * B := ⟨Int.mul_nonneg h0 h2, Int.mul_le_mul h1 h3 h2 (by omega)⟩
theorem Ev.eqb {α β : Type} {x : Option α} {f : Nat → α → Option β} {a : α} {r : β} (h : x = Option.some a) (k : Ev (fun n => f n a) r) : Ev (fun n => x.bind (f n)) r := by
 subst h; exact k
theorem Ev.pos {α : Type} {c : Prop} [Decidable c] {g f : Nat → Option α} {r : α} (hc : c) (k : Ev g r) : Ev (fun n => if c then g n else f n) r := by simpa [hc] using k
theorem Ev.neg {α : Type} {c : Prop} [Decidable c] {g f : Nat → Option α} {r : α} (hc : ¬ c) (k : Ev f r) : Ev (fun n => if c then g n else f n) r := by simpa [hc] using k
theorem ref_CheckRange_eq (n lo hi : Int) : cr1_CheckRange.f n lo hi = some (rangeE n lo hi) := by
 unfold cr1_CheckRange.f rangeE
 split
 ·rfl
 ·split <;> rfl
theorem ref_First_loop (l : List Int) (hl : l.length < 9223372036854775807) : ∀ (d i k : Nat), i + d = l.length → d < k → cr1_First.l0 k l (i : Int) = some (firstE (l.drop i)) := by
 intro d
 induction d with
 | zero =>
  intro i k hi hk
  obtain ⟨k, rfl⟩ : ∃ m, k = m + 1 := ⟨k - 1, by omega⟩
  simp only [cr1_First.l0]
  rw [if_neg (by omega), List.drop_eq_nil_of_le (by omega)]
  rfl
 | succ d ih =>
  intro i k hi hk
  obtain ⟨k, rfl⟩ : ∃ m, k = m + 1 := ⟨k - 1, by omega⟩
  simp only [cr1_First.l0]
  rw [if_pos (by omega), if_pos (by omega), rd_drop (by omega), List.drop_eq_getElem_cons (by omega), wrap_id (by omega) (by omega)]
  have e : ((i : Int) + 1) = ((i + 1 : Nat) : Int) := by omega
  rw [e, ih (i + 1) k (by omega) (by omega)]
  simp only [firstE]
  split <;> rfl
theorem ref_First_ev (l : List Int) (hl : l.length < 9223372036854775807) : Ev (fun k => cr1_First.f k l) (firstE l) :=
 ⟨l.length + 1, fun k hk => by
  have := ref_First_loop l hl l.length 0 k (by omega) (by omega)
  simpa [cr1_First.f] using this⟩
theorem ref_Divisor_loop : ∀ (n k : Nat) (a b : Int), 0 ≤ a → 0 ≤ b → b.toNat ≤ n → n < k → cr6_Divisor.f k a b = some (gcdI a b) := by
 intro n
 induction n with
 | zero =>
  intro k a b ha hb hn hk
  obtain ⟨k, rfl⟩ : ∃ m, k = m + 1 := ⟨k - 1, by omega⟩
  obtain rfl : b = 0 := by omega
  simp only [cr6_Divisor.f]
  rw [if_pos trivial, gcdI_zero_right ha]
 | succ n ih =>
  intro k a b ha hb hn hk
  obtain ⟨k, rfl⟩ : ∃ m, k = m + 1 := ⟨k - 1, by omega⟩
  simp only [cr6_Divisor.f]
  by_cases h : b = 0
  ·subst h; rw [if_pos rfl, gcdI_zero_right ha]
  ·rw [if_neg h]
   have h1 : Int.tmod a b = a % b := Int.tmod_eq_emod_of_nonneg ha
   have h2 : 0 ≤ a % b := Int.emod_nonneg _ h
   have h3 : a % b < b := Int.emod_lt_of_pos _ (by omega)
   rw [ih k b (Int.tmod a b) hb (by omega) (by omega) (by omega), gcdI_step ha (by omega)]
   rfl
theorem ref_Divisor_ev (a b : Int) (ha : 0 ≤ a) (hb : 0 ≤ b) : Ev (fun k => cr6_Divisor.f k a b) (gcdI a b) :=
 ⟨b.toNat + 1, fun k hk => ref_Divisor_loop b.toNat k a b ha hb (by omega) (by omega)⟩
theorem ref_CheckRatio_ev (p q : Int) : Ev (fun k => cr6_CheckRatio.f k p q) (checkR p q) := by
 unfold cr6_CheckRatio.f checkR
 by_cases h1 : p < 1
 ·refine Ev.pos h1 (Ev.step (fun _ => rfl) (Ev.some ?_)); rw [if_pos (by omega)]
 refine Ev.neg h1 ?_
 by_cases h2 : p > 30
 ·refine Ev.pos h2 (Ev.step (fun _ => rfl) (Ev.some ?_)); rw [if_pos (by omega)]
 refine Ev.neg h2 ?_
 by_cases h3 : q < 1
 ·refine Ev.pos h3 (Ev.step (fun _ => rfl) (Ev.some ?_)); rw [if_pos (by omega)]
 refine Ev.neg h3 (Ev.step (fun _ => rfl) ?_)
 by_cases h4 : q > 30
 ·refine Ev.pos (by simpa using h4) (Ev.some ?_); rw [if_pos (by omega)]
 refine Ev.neg (by simpa using h4) ?_
 rw [if_neg (by omega)]
 by_cases h5 : p > q
 ·refine Ev.pos h5 (Ev.some ?_); rw [if_pos h5]
 refine Ev.neg h5 ((ref_Divisor_ev p q (by omega) (by omega)).bind (Ev.some ?_))
 rw [if_neg h5]; split <;> rfl
theorem checkR_ok {p q : Int} (h : checkR p q = 0) : 1 ≤ p ∧ p ≤ q ∧ q ≤ 30 ∧ gcdI p q = 1 := by
 unfold checkR at h
 split at h
 ·omega
 ·split at h
  ·omega
  ·split at h <;> omega
theorem ref_ratio_ev (a b : Int) (ha : 0 ≤ a) (hb : 0 < b) (ha1 : a ≤ 9223372036854775807) (hb1 : b ≤ 9223372036854775807) : Ev (fun k => cr6_ratio.f k a b) (lowI a b) := by
 unfold cr6_ratio.f
 refine (ref_Divisor_ev a b ha (by omega)).bind (Ev.some ?_)
 have h := gcdI_pos (a := a) (Or.inr hb)
 rw [if_neg (by omega), lowI_eq ha hb ha1 hb1]
theorem firstE_ok2 {a b : Int} (h : firstE [a, b] = 0) : a = 0 ∧ b = 0 := by
 simp only [firstE] at h
 split at h
 ·split at h
  ·exact ⟨by assumption, by assumption⟩
  ·contradiction
 ·contradiction
theorem firstE_two (a b : Int) : firstE [a, b] = if a = 0 then b else a := by
 simp only [firstE]
 split
 ·split
  ·exact Eq.symm (by assumption)
  ·rfl
 ·rfl
theorem rangeE_ok {n lo hi : Int} (h : rangeE n lo hi = 0) : lo ≤ n ∧ n ≤ hi := by
 unfold rangeE at h
 split at h
 ·omega
 ·split at h <;> omega
theorem checkBar_eq (n : Int) : hang_checkBar.f n = some (rangeE n 1 100) := by
 unfold hang_checkBar.f; rw [hang_within_eq]; rfl
theorem checkMeshes_eq (n : Int) : hang_checkMeshes.f n = some (rangeE n 1 300) := by
 unfold hang_checkMeshes.f; rw [hang_within_eq]; rfl
end Go.Proofs.YtppighiaffppkaaDoor.H
end
