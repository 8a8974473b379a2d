/- What the statement HangSpreads needs beyond the common part: walks of the functions that it calls, the plain law, the row and its card, part 0. Condition: the laid table hang.tens, as the card ties it. -/
import Derived.Test.YtppighiaffppkaaDoorRows
import Derived.Test.YtppighiaffppkaaDoorCards
import Derived.Test.YtppighiaffppkaaDoorTie
import Derived.WalkKit
import Derived.ProofKit
import Derived.OpenShut
import Derived.ShutString
import Derived.ChangeOld
import Derived.Below
import Derived.SizedLaws
import Derived.LaidMore
import Derived.Stop.Joined
import Derived.SevenTiedAt
import Derived.Test.YtppighiaffppkaaDoorZA8
section
namespace Go.Proofs.YtppighiaffppkaaDoor.H
open Go.RowKit Go.Proofs.YtppighiaffppkaaDoorW.PrintWords Go.Proofs.YtppighiaffppkaaDoorW.PrintLast Go.Proofs.YtppighiaffppkaaDoorW.PrintMore
attribute [local go_sem] max2_int min2_int max_two min_two max_three min_three max_four min_four
set_option linter.unusedVariables false
set_option linter.unusedSimpArgs false
mutual
def cl6_HangSpreads.l0 : Nat → Int → Int → List Int → List Int → List Int → Int → Int → Option (Bool)
 | 0, _, _, _, _, _, _, _ => none
 | k + 1, x5, x6, x9, x11, x61, x62, x63 => if x63 < x62 then (if 0 ≤ x63 then (if x63 < (x61.length : Int) then (if (rd x61 x63) < 1 then (none) else (if (rd x61 x63) > x5 then (none) else (if 0 ≤ (wrap64 ((x11.length : Int) - 1)) then (if (wrap64 ((x11.length : Int) - 1)) < (x11.length : Int) then (if x11.length < 17592186044416 then (cl6_HangSpreads.l0 k x5 x6 x9 (x11 ++ [wrap64 ((rd x11 (wrap64 ((x11.length : Int) - 1))) + (rd x61 x63))]) x61 x62 (wrap64 (x63 + 1))) else (none)) else (none)) else (none)))) else (none)) else (none)) else (cl6_HangSpreads.l1 k x5 x6 x11 x9 (x9.length : Int) 0)
def cl6_HangSpreads.l1 : Nat → Int → Int → List Int → List Int → Int → Int → Option (Bool)
 | 0, _, _, _, _, _, _ => none
 | k + 1, x5, x6, x11, x86, x87, x88 => if x88 < x87 then (if 0 ≤ x88 then (if x88 < (x86.length : Int) then (if (rd x86 x88) = 1 then (cl6_HangSpreads.l1 k x5 x6 x11 x86 x87 (wrap64 (x88 + 1))) else (none)) else (none)) else (none)) else (cl6_HangSpreads.l2 k x5 x6 x11 1)
def cl6_HangSpreads.l2 : Nat → Int → Int → List Int → Int → Option (Bool)
 | 0, _, _, _, _ => none
 | k + 1, x5, x6, x11, x16 => if x16 ≤ x6 then (cl6_HangSpreads.l3 k x5 x6 x11 x16 x5 0 0) else (if 0 ≤ x6 then (if x6 < (x11.length : Int) then (if (rd x11 x6) = x5 then ((cl6_awake.f k).bind fun t738 => (some t738)) else (none)) else (none)) else (none))
def cl6_HangSpreads.l3 : Nat → Int → Int → List Int → Int → Int → Int → Int → Option (Bool)
 | 0, _, _, _, _, _, _, _ => none
 | k + 1, x5, x6, x11, x16, x17, x18, x19 => if (wrap64 (x19 + x16)) ≤ x6 then (if 0 ≤ (wrap64 (x19 + x16)) then (if (wrap64 (x19 + x16)) < (x11.length : Int) then (if 0 ≤ x19 then (if x19 < (x11.length : Int) then (cl6_HangSpreads.l3 k x5 x6 x11 x16 (mn x17 (wrap64 ((rd x11 (wrap64 (x19 + x16))) - (rd x11 x19)))) (mx x18 (wrap64 ((rd x11 (wrap64 (x19 + x16))) - (rd x11 x19)))) (wrap64 (x19 + 1))) else (none)) else (none)) else (none)) else (none)) else (if (wrap64 (x18 - x17)) > 1 then (none) else (cl6_HangSpreads.l2 k x5 x6 x11 (wrap64 (x16 + 1))))
end
def cl6_HangSpreads.f (k : Nat) (a0 : Int) (a1 : Int) : Option (Bool) := if (wrap64 (1 + (Int.tmod (wrap64 (a0)) 60))) = 0 then (none) else ((hang_Ties.f k (wrap64 (1 + (Int.tmod (wrap64 (a0)) 60))) (wrap64 (1 + (Int.tmod (wrap64 (a1)) (wrap64 (1 + (Int.tmod (wrap64 (a0)) 60))))))).bind fun bt718 => ((hang_Ties.f k (wrap64 (1 + (Int.tmod (wrap64 (a0)) 60))) (wrap64 (1 + (Int.tmod (wrap64 (a0)) 60)))).bind fun bt722 => (if bt718.2 = 0 then (if bt722.2 = 0 then (if (bt718.1.length : Int) = (wrap64 (1 + (Int.tmod (wrap64 (a1)) (wrap64 (1 + (Int.tmod (wrap64 (a0)) 60)))))) then (if (bt722.1.length : Int) = (wrap64 (1 + (Int.tmod (wrap64 (a0)) 60))) then (cl6_HangSpreads.l0 k (wrap64 (1 + (Int.tmod (wrap64 (a0)) 60))) (wrap64 (1 + (Int.tmod (wrap64 (a1)) (wrap64 (1 + (Int.tmod (wrap64 (a0)) 60)))))) bt722.1 (([0] : List Int)) bt718.1 (bt718.1.length : Int) 0) else (none)) else (none)) else (none)) else (none))))
set_option maxHeartbeats 8000000 in
set_option maxRecDepth 100000 in
theorem cl6_HangSpreads.calls (k : Nat) (a0 : Int) (a1 : Int) (r : Bool) (w : World) (hG : GH w) (h : cl6_HangSpreads.f k a0 a1 = some r) :
  Calls Tryd.prog 12 #[.int .u8 a0, .int .u8 a1] w fun e w' => e = .returned (.bool r) ∧ Below w.heap.size w w' := by
 have HB := Z0.mk (Below.refl w.heap.size w)
 have H : (if (wrap64 (1 + (Int.tmod (wrap64 (a0)) 60))) = 0 then (none) else ((hang_Ties.f k (wrap64 (1 + (Int.tmod (wrap64 (a0)) 60))) (wrap64 (1 + (Int.tmod (wrap64 (a1)) (wrap64 (1 + (Int.tmod (wrap64 (a0)) 60))))))).bind fun bt718 => ((hang_Ties.f k (wrap64 (1 + (Int.tmod (wrap64 (a0)) 60))) (wrap64 (1 + (Int.tmod (wrap64 (a0)) 60)))).bind fun bt722 => (if bt718.2 = 0 then (if bt722.2 = 0 then (if (bt718.1.length : Int) = (wrap64 (1 + (Int.tmod (wrap64 (a1)) (wrap64 (1 + (Int.tmod (wrap64 (a0)) 60)))))) then (if (bt722.1.length : Int) = (wrap64 (1 + (Int.tmod (wrap64 (a0)) 60))) then (cl6_HangSpreads.l0 k (wrap64 (1 + (Int.tmod (wrap64 (a0)) 60))) (wrap64 (1 + (Int.tmod (wrap64 (a1)) (wrap64 (1 + (Int.tmod (wrap64 (a0)) 60)))))) bt722.1 (([0] : List Int)) bt718.1 (bt718.1.length : Int) 0) else (none)) else (none)) else (none)) else (none))))) = some r := h
 clear h
 by_cases c3 : (wrap64 (1 + (Int.tmod (wrap64 (a0)) 60))) = 0
 ·rw [if_pos c3] at H
  exact absurd H (by simp)
 ·rw [if_neg c3] at H
  have c3b0 : ((wrap64 (1 + (Int.tmod (wrap64 (a0)) 60))) == 0) = false := beq_eq_false_iff_ne.mpr c3
  have c3b1 : ((wrap64 (1 + (Int.tmod (wrap64 (a0)) 60))) != 0) = true := bne_iff_ne.mpr c3
  replace H := Option.bind_eq_some_iff.mp H
  obtain ⟨⟨t718, t719⟩, A40, H⟩ := H
  replace H : ((hang_Ties.f k (wrap64 (1 + (Int.tmod (wrap64 (a0)) 60))) (wrap64 (1 + (Int.tmod (wrap64 (a0)) 60)))).bind fun bt722 => (if t719 = 0 then (if bt722.2 = 0 then (if (t718.length : Int) = (wrap64 (1 + (Int.tmod (wrap64 (a1)) (wrap64 (1 + (Int.tmod (wrap64 (a0)) 60)))))) then (if (bt722.1.length : Int) = (wrap64 (1 + (Int.tmod (wrap64 (a0)) 60))) then (cl6_HangSpreads.l0 k (wrap64 (1 + (Int.tmod (wrap64 (a0)) 60))) (wrap64 (1 + (Int.tmod (wrap64 (a1)) (wrap64 (1 + (Int.tmod (wrap64 (a0)) 60)))))) bt722.1 (([0] : List Int)) t718 (t718.length : Int) 0) else (none)) else (none)) else (none)) else (none))) = some r := H
  have A4 := Z0.mk A40
  clear A40
  replace H := Option.bind_eq_some_iff.mp H
  obtain ⟨⟨t722, t723⟩, A50, H⟩ := H
  replace H : (if t719 = 0 then (if t723 = 0 then (if (t718.length : Int) = (wrap64 (1 + (Int.tmod (wrap64 (a1)) (wrap64 (1 + (Int.tmod (wrap64 (a0)) 60)))))) then (if (t722.length : Int) = (wrap64 (1 + (Int.tmod (wrap64 (a0)) 60))) then (cl6_HangSpreads.l0 k (wrap64 (1 + (Int.tmod (wrap64 (a0)) 60))) (wrap64 (1 + (Int.tmod (wrap64 (a1)) (wrap64 (1 + (Int.tmod (wrap64 (a0)) 60)))))) t722 (([0] : List Int)) t718 (t718.length : Int) 0) else (none)) else (none)) else (none)) else (none)) = some r := H
  have A5 := Z0.mk A50
  clear A50
  by_cases c6 : t719 = 0
  ·rw [if_pos c6] at H
   have c6b0 : (t719 == 0) = true := beq_iff_eq.mpr c6
   have c6b1 : (t719 != 0) = false := bne_eq_false_iff_eq.mpr c6
   clear c6
   by_cases c7 : t723 = 0
   ·rw [if_pos c7] at H
    have c7b0 : (t723 == 0) = true := beq_iff_eq.mpr c7
    have c7b1 : (t723 != 0) = false := bne_eq_false_iff_eq.mpr c7
    clear c7
    by_cases c8 : (t718.length : Int) = (wrap64 (1 + (Int.tmod (wrap64 (a1)) (wrap64 (1 + (Int.tmod (wrap64 (a0)) 60))))))
    ·rw [if_pos c8] at H
     have c8b0 : ((t718.length : Int) == (wrap64 (1 + (Int.tmod (wrap64 (a1)) (wrap64 (1 + (Int.tmod (wrap64 (a0)) 60))))))) = true := beq_iff_eq.mpr c8
     have c8b1 : ((t718.length : Int) != (wrap64 (1 + (Int.tmod (wrap64 (a1)) (wrap64 (1 + (Int.tmod (wrap64 (a0)) 60))))))) = false := bne_eq_false_iff_eq.mpr c8
     clear c8
     by_cases c9 : (t722.length : Int) = (wrap64 (1 + (Int.tmod (wrap64 (a0)) 60)))
     ·rw [if_pos c9] at H
      have c9b0 : ((t722.length : Int) == (wrap64 (1 + (Int.tmod (wrap64 (a0)) 60)))) = true := beq_iff_eq.mpr c9
      have c9b1 : ((t722.length : Int) != (wrap64 (1 + (Int.tmod (wrap64 (a0)) 60)))) = false := bne_eq_false_iff_eq.mpr c9
      clear c9
      obtain ⟨y726, hy726⟩ : ∃ y_ : List Int, y_ = (([0] : List Int)) := ⟨_, rfl⟩
      replace H : (cl6_HangSpreads.l0 k (wrap64 (1 + (Int.tmod (wrap64 (a0)) 60))) (wrap64 (1 + (Int.tmod (wrap64 (a1)) (wrap64 (1 + (Int.tmod (wrap64 (a0)) 60)))))) t722 y726 t718 (t718.length : Int) 0) = some r := by first | (rw [hy726]; with_reducible exact H) | (have H2_ := (Option.bind_some _ _).symm.trans H; rw [hy726]; with_reducible exact H2_) | (have H2_ := (Option.bind_some _ _).symm.trans H; with_reducible exact H2_) | with_reducible exact H | (rw [hy726]; exact H) | exact H
      have Ny726 := Z0.mk hy726
      clear hy726
      have H' := Z0.mk H
      clear H
      go_enter Tryd.func12, Tryd.ntmps12
      go_wp2_with (first | (go_at_call 42; (with_reducible refine (hang_Ties.calls k (wrap64 (1 + (Int.tmod (wrap64 (a0)) 60))) (wrap64 (1 + (Int.tmod (wrap64 (a1)) (wrap64 (1 + (Int.tmod (wrap64 (a0)) 60)))))) t718 t719 _ A4.out).mono ?_); rintro e w10 ⟨v720, rfl, ho0, hb⟩; have n0_ := Z0.mk (Kd.R_lower ho0 (bwZ (by repeat (first | (with_reducible first | exact HB.out | apply bwA | apply bwN | apply bw1) | exact HB.out)))); have n1_ := Z0.mk (bwT (by repeat (first | (with_reducible first | exact HB.out | apply bwA | apply bwN | apply bw1) | exact HB.out)) hb); clear HB; have HO721 := n0_; have HB := n1_; clear n0_ n1_; (try clear hb); (try clear hb2); (try clear hk); (try clear hi); (try clear ho0)) | (go_at_call 42; (with_reducible refine (hang_Ties.calls k (wrap64 (1 + (Int.tmod (wrap64 (a0)) 60))) (wrap64 (1 + (Int.tmod (wrap64 (a0)) 60))) t722 t723 _ A5.out).mono ?_); rintro e w11 ⟨v724, rfl, ho0, hb⟩; have n0_ := Z0.mk (Kd.R_elder' (by (with_reducible repeat (first | apply Kd.R_alloc | apply Kd.R_drewN | apply Kd.R_drew)); exact HO721.out) (Kd.R_base ho0) hb); have n1_ := Z0.mk (Kd.R_lower (Kd.R_new' ho0 (Kd.R_lt (by (with_reducible repeat (first | apply Kd.R_alloc | apply Kd.R_drewN | apply Kd.R_drew)); exact HO721.out))) (bwZ (by repeat (first | (with_reducible first | exact HB.out | apply bwA | apply bwN | apply bw1) | exact HB.out)))); have n2_ := Z0.mk (bwT (by repeat (first | (with_reducible first | exact HB.out | apply bwA | apply bwN | apply bw1) | exact HB.out)) hb); clear HO721; clear HB; have HO721 := n0_; have HO725 := n1_; have HB := n2_; clear n0_ n1_ n2_; (try clear hb); (try clear hb2); (try clear hk); (try clear hi); (try clear ho0); obtain ⟨Ao12, co12, eo12⟩ := Kd.R_slice HO721.out; subst eo12; obtain ⟨Ao13, co13, eo13⟩ := Kd.R_slice HO725.out; subst eo13) | ((with_reducible refine gtD (N := 60) rfl ?_); (try (refine gtG (by rfl) ?_; dsimp only)); refine Kd.R_lit (Kd.int .i64) _ 3 ?hg (N := 60) ?hd (xs := ([0] : List Int)) (inner := [.int .i64 0]) (ok := fun _ => True) (okp := fun _ => True) ?hr ?hp (fun _ hk => hk) trivial (Below.refl _ _) (Nat.le_refl _) (by simp) ?_; (case hd => rfl); (case hg => rfl); (case hr => first | (go_simp; done) | (go_simp; rfl)); (case hp => exact (Reps.one (show Kd.M (Kd.int .i64) _ _ _ 0 [.int .i64 0] from rfl) (Reps.none _ _))); intro v727 w14 ho15 hb hg_ hnew_; clear hg_ hnew_; (first | rw [← Ny726.out] at ho15 | (simp only [Int.reduceToNat] at ho15; rw [← Ny726.out] at ho15)); have n0_ := Z0.mk (Kd.R_elder' (by (with_reducible repeat (first | apply Kd.R_alloc | apply Kd.R_drewN | apply Kd.R_drew)); exact HO721.out) (Kd.R_base ho15) hb); have n1_ := Z0.mk (Kd.R_elder' (by (with_reducible repeat (first | apply Kd.R_alloc | apply Kd.R_drewN | apply Kd.R_drew)); exact HO725.out) (Kd.R_base ho15) hb); have n2_ := Z0.mk (Kd.R_lower (Kd.R_new' (Kd.R_new' ho15 (Kd.R_lt (by (with_reducible repeat (first | apply Kd.R_alloc | apply Kd.R_drewN | apply Kd.R_drew)); exact HO721.out))) (Kd.R_lt (by (with_reducible repeat (first | apply Kd.R_alloc | apply Kd.R_drewN | apply Kd.R_drew)); exact HO725.out))) (bwZ (by repeat (first | (with_reducible first | exact HB.out | apply bwA | apply bwN | apply bw1) | exact HB.out)))); have n3_ := Z0.mk (bwT (by repeat (first | (with_reducible first | exact HB.out | apply bwA | apply bwN | apply bw1) | exact HB.out)) hb); clear HO721; clear HO725; clear HB; have HO721 := n0_; have HO725 := n1_; have HO728 := n2_; have HB := n3_; clear n0_ n1_ n2_ n3_; clear hb ho15))
      repeat (go_quiet (first | (go_at_call 42; (with_reducible refine (hang_Ties.calls k (wrap64 (1 + (Int.tmod (wrap64 (a0)) 60))) (wrap64 (1 + (Int.tmod (wrap64 (a1)) (wrap64 (1 + (Int.tmod (wrap64 (a0)) 60)))))) t718 t719 _ A4.out).mono ?_); rintro e w10 ⟨v720, rfl, ho0, hb⟩; have n0_ := Z0.mk (Kd.R_lower ho0 (bwZ (by repeat (first | (with_reducible first | exact HB.out | apply bwA | apply bwN | apply bw1) | exact HB.out)))); have n1_ := Z0.mk (bwT (by repeat (first | (with_reducible first | exact HB.out | apply bwA | apply bwN | apply bw1) | exact HB.out)) hb); clear HB; have HO721 := n0_; have HB := n1_; clear n0_ n1_; (try clear hb); (try clear hb2); (try clear hk); (try clear hi); (try clear ho0)) | (go_at_call 42; (with_reducible refine (hang_Ties.calls k (wrap64 (1 + (Int.tmod (wrap64 (a0)) 60))) (wrap64 (1 + (Int.tmod (wrap64 (a0)) 60))) t722 t723 _ A5.out).mono ?_); rintro e w11 ⟨v724, rfl, ho0, hb⟩; have n0_ := Z0.mk (Kd.R_elder' (by (with_reducible repeat (first | apply Kd.R_alloc | apply Kd.R_drewN | apply Kd.R_drew)); exact HO721.out) (Kd.R_base ho0) hb); have n1_ := Z0.mk (Kd.R_lower (Kd.R_new' ho0 (Kd.R_lt (by (with_reducible repeat (first | apply Kd.R_alloc | apply Kd.R_drewN | apply Kd.R_drew)); exact HO721.out))) (bwZ (by repeat (first | (with_reducible first | exact HB.out | apply bwA | apply bwN | apply bw1) | exact HB.out)))); have n2_ := Z0.mk (bwT (by repeat (first | (with_reducible first | exact HB.out | apply bwA | apply bwN | apply bw1) | exact HB.out)) hb); clear HO721; clear HB; have HO721 := n0_; have HO725 := n1_; have HB := n2_; clear n0_ n1_ n2_; (try clear hb); (try clear hb2); (try clear hk); (try clear hi); (try clear ho0); obtain ⟨Ao12, co12, eo12⟩ := Kd.R_slice HO721.out; subst eo12; obtain ⟨Ao13, co13, eo13⟩ := Kd.R_slice HO725.out; subst eo13) | ((with_reducible refine gtD (N := 60) rfl ?_); (try (refine gtG (by rfl) ?_; dsimp only)); refine Kd.R_lit (Kd.int .i64) _ 3 ?hg (N := 60) ?hd (xs := ([0] : List Int)) (inner := [.int .i64 0]) (ok := fun _ => True) (okp := fun _ => True) ?hr ?hp (fun _ hk => hk) trivial (Below.refl _ _) (Nat.le_refl _) (by simp) ?_; (case hd => rfl); (case hg => rfl); (case hr => first | (go_simp; done) | (go_simp; rfl)); (case hp => exact (Reps.one (show Kd.M (Kd.int .i64) _ _ _ 0 [.int .i64 0] from rfl) (Reps.none _ _))); intro v727 w14 ho15 hb hg_ hnew_; clear hg_ hnew_; (first | rw [← Ny726.out] at ho15 | (simp only [Int.reduceToNat] at ho15; rw [← Ny726.out] at ho15)); have n0_ := Z0.mk (Kd.R_elder' (by (with_reducible repeat (first | apply Kd.R_alloc | apply Kd.R_drewN | apply Kd.R_drew)); exact HO721.out) (Kd.R_base ho15) hb); have n1_ := Z0.mk (Kd.R_elder' (by (with_reducible repeat (first | apply Kd.R_alloc | apply Kd.R_drewN | apply Kd.R_drew)); exact HO725.out) (Kd.R_base ho15) hb); have n2_ := Z0.mk (Kd.R_lower (Kd.R_new' (Kd.R_new' ho15 (Kd.R_lt (by (with_reducible repeat (first | apply Kd.R_alloc | apply Kd.R_drewN | apply Kd.R_drew)); exact HO721.out))) (Kd.R_lt (by (with_reducible repeat (first | apply Kd.R_alloc | apply Kd.R_drewN | apply Kd.R_drew)); exact HO725.out))) (bwZ (by repeat (first | (with_reducible first | exact HB.out | apply bwA | apply bwN | apply bw1) | exact HB.out)))); have n3_ := Z0.mk (bwT (by repeat (first | (with_reducible first | exact HB.out | apply bwA | apply bwN | apply bw1) | exact HB.out)) hb); clear HO721; clear HO725; clear HB; have HO721 := n0_; have HO725 := n1_; have HO728 := n2_; have HB := n3_; clear n0_ n1_ n2_ n3_; clear hb ho15)); try go_wp2_with (first | (go_at_call 42; (with_reducible refine (hang_Ties.calls k (wrap64 (1 + (Int.tmod (wrap64 (a0)) 60))) (wrap64 (1 + (Int.tmod (wrap64 (a1)) (wrap64 (1 + (Int.tmod (wrap64 (a0)) 60)))))) t718 t719 _ A4.out).mono ?_); rintro e w10 ⟨v720, rfl, ho0, hb⟩; have n0_ := Z0.mk (Kd.R_lower ho0 (bwZ (by repeat (first | (with_reducible first | exact HB.out | apply bwA | apply bwN | apply bw1) | exact HB.out)))); have n1_ := Z0.mk (bwT (by repeat (first | (with_reducible first | exact HB.out | apply bwA | apply bwN | apply bw1) | exact HB.out)) hb); clear HB; have HO721 := n0_; have HB := n1_; clear n0_ n1_; (try clear hb); (try clear hb2); (try clear hk); (try clear hi); (try clear ho0)) | (go_at_call 42; (with_reducible refine (hang_Ties.calls k (wrap64 (1 + (Int.tmod (wrap64 (a0)) 60))) (wrap64 (1 + (Int.tmod (wrap64 (a0)) 60))) t722 t723 _ A5.out).mono ?_); rintro e w11 ⟨v724, rfl, ho0, hb⟩; have n0_ := Z0.mk (Kd.R_elder' (by (with_reducible repeat (first | apply Kd.R_alloc | apply Kd.R_drewN | apply Kd.R_drew)); exact HO721.out) (Kd.R_base ho0) hb); have n1_ := Z0.mk (Kd.R_lower (Kd.R_new' ho0 (Kd.R_lt (by (with_reducible repeat (first | apply Kd.R_alloc | apply Kd.R_drewN | apply Kd.R_drew)); exact HO721.out))) (bwZ (by repeat (first | (with_reducible first | exact HB.out | apply bwA | apply bwN | apply bw1) | exact HB.out)))); have n2_ := Z0.mk (bwT (by repeat (first | (with_reducible first | exact HB.out | apply bwA | apply bwN | apply bw1) | exact HB.out)) hb); clear HO721; clear HB; have HO721 := n0_; have HO725 := n1_; have HB := n2_; clear n0_ n1_ n2_; (try clear hb); (try clear hb2); (try clear hk); (try clear hi); (try clear ho0); obtain ⟨Ao12, co12, eo12⟩ := Kd.R_slice HO721.out; subst eo12; obtain ⟨Ao13, co13, eo13⟩ := Kd.R_slice HO725.out; subst eo13) | ((with_reducible refine gtD (N := 60) rfl ?_); (try (refine gtG (by rfl) ?_; dsimp only)); refine Kd.R_lit (Kd.int .i64) _ 3 ?hg (N := 60) ?hd (xs := ([0] : List Int)) (inner := [.int .i64 0]) (ok := fun _ => True) (okp := fun _ => True) ?hr ?hp (fun _ hk => hk) trivial (Below.refl _ _) (Nat.le_refl _) (by simp) ?_; (case hd => rfl); (case hg => rfl); (case hr => first | (go_simp; done) | (go_simp; rfl)); (case hp => exact (Reps.one (show Kd.M (Kd.int .i64) _ _ _ 0 [.int .i64 0] from rfl) (Reps.none _ _))); intro v727 w14 ho15 hb hg_ hnew_; clear hg_ hnew_; (first | rw [← Ny726.out] at ho15 | (simp only [Int.reduceToNat] at ho15; rw [← Ny726.out] at ho15)); have n0_ := Z0.mk (Kd.R_elder' (by (with_reducible repeat (first | apply Kd.R_alloc | apply Kd.R_drewN | apply Kd.R_drew)); exact HO721.out) (Kd.R_base ho15) hb); have n1_ := Z0.mk (Kd.R_elder' (by (with_reducible repeat (first | apply Kd.R_alloc | apply Kd.R_drewN | apply Kd.R_drew)); exact HO725.out) (Kd.R_base ho15) hb); have n2_ := Z0.mk (Kd.R_lower (Kd.R_new' (Kd.R_new' ho15 (Kd.R_lt (by (with_reducible repeat (first | apply Kd.R_alloc | apply Kd.R_drewN | apply Kd.R_drew)); exact HO721.out))) (Kd.R_lt (by (with_reducible repeat (first | apply Kd.R_alloc | apply Kd.R_drewN | apply Kd.R_drew)); exact HO725.out))) (bwZ (by repeat (first | (with_reducible first | exact HB.out | apply bwA | apply bwN | apply bw1) | exact HB.out)))); have n3_ := Z0.mk (bwT (by repeat (first | (with_reducible first | exact HB.out | apply bwA | apply bwN | apply bw1) | exact HB.out)) hb); clear HO721; clear HO725; clear HB; have HO721 := n0_; have HO725 := n1_; have HO728 := n2_; have HB := n3_; clear n0_ n1_ n2_ n3_; clear hb ho15)))
      go_loopg [11, 63] k (fun kq v11 v63 w' => ∃ (x11_1 : List Int) (x63_1 : Int), v63 = .int .i64 x63_1 ∧ Z0 (cl6_HangSpreads.l0 kq (wrap64 (1 + (Int.tmod (wrap64 (a0)) 60))) (wrap64 (1 + (Int.tmod (wrap64 (a1)) (wrap64 (1 + (Int.tmod (wrap64 (a0)) 60)))))) t722 x11_1 t718 (t718.length : Int) x63_1 = some r) ∧ Z0 (kq ≤ k) ∧ Z0 (Kd.R (Kd.int .i64) 3 w' w.heap.size (fun k_ => some k_ ≠ (v11 : Value).ownBlock ∧ some k_ ≠ ((.slice Ao12 t718.length co12) : Value).ownBlock) (.slice Ao13 t722.length co13) t722) ∧ Z0 (Kd.R (Kd.int .i64) 3 w' w.heap.size (fun k_ => some k_ ≠ ((.slice Ao13 t722.length co13) : Value).ownBlock ∧ some k_ ≠ ((.slice Ao12 t718.length co12) : Value).ownBlock) v11 x11_1) ∧ Z0 (Kd.R (Kd.int .i64) 3 w' w.heap.size (fun k_ => some k_ ≠ ((.slice Ao13 t722.length co13) : Value).ownBlock ∧ some k_ ≠ (v11 : Value).ownBlock) (.slice Ao12 t718.length co12) t718) ∧ Z0 (Below w.heap.size w w'))
      case atStart => exact ⟨(y726), (0), (by first | rfl | (simp; done) | (simp [*]; done)), H', ⟨Nat.le_refl _⟩, ⟨by (with_reducible repeat (first | apply Kd.R_alloc | apply Kd.R_drewN | apply Kd.R_drew)); exact Kd.R_mono HO725.out (fun _ hk => ⟨hk.2, hk.1.2⟩)⟩, ⟨by (with_reducible repeat (first | apply Kd.R_alloc | apply Kd.R_drewN | apply Kd.R_drew)); exact Kd.R_mono HO728.out (fun _ hk => ⟨hk.2, hk.1.2⟩)⟩, ⟨by (with_reducible repeat (first | apply Kd.R_alloc | apply Kd.R_drewN | apply Kd.R_drew)); exact Kd.R_mono HO721.out (fun _ hk => ⟨hk.1.2, hk.2⟩)⟩, ⟨by repeat (first | (with_reducible first | exact HB.out | apply bwA | apply bwN | apply bw1) | exact HB.out)⟩⟩
      case round =>
       clear H'
       try clear c1
       try clear p2
       try clear c3
       try clear c3b0
       try clear c3b1
       try clear c6
       try clear c6b0
       try clear c6b1
       try clear p6
       try clear c7
       try clear c7b0
       try clear c7b1
       try clear c8
       try clear c8b0
       try clear c8b1
       try clear c9
       try clear c9b0
       try clear c9b1
       try clear c12
       obtain ⟨x11_1, x63_1, rfl, HA, HK1, HO_9, HO_11, HO_61, HB⟩ := hrel
       cases gk with
       | zero => exact absurd HA.out (by simp [cl6_HangSpreads.l0])
       | succ k1 =>
        have H := HA.out
        clear HA
        simp only [cl6_HangSpreads.l0] at H
        by_cases c16 : x63_1 < (t718.length : Int)
        ·rw [if_pos c16] at H
         have c16b0 : decide (x63_1 < (t718.length : Int)) = true := decide_eq_true c16
         clear c16
         by_cases c17 : 0 ≤ x63_1
         ·rw [if_pos c17] at H
          have c17b0 : decide (0 ≤ x63_1) = true := decide_eq_true c17
          clear c17
          by_cases c18 : x63_1 < (t718.length : Int)
          ·rw [if_pos c18] at H
           have c18b0 : decide (x63_1 < (t718.length : Int)) = true := decide_eq_true c18
           clear c18
           by_cases c19 : (rd t718 x63_1) < 1
           ·rw [if_pos c19] at H
            exact absurd H (by simp)
           ·rw [if_neg c19] at H
            have c19b0 : decide ((rd t718 x63_1) < 1) = false := decide_eq_false c19
            clear c19
            by_cases c20 : (rd t718 x63_1) > (wrap64 (1 + (Int.tmod (wrap64 (a0)) 60)))
            ·rw [if_pos c20] at H
             exact absurd H (by simp)
            ·rw [if_neg c20] at H
             have c20b0 : decide ((wrap64 (1 + (Int.tmod (wrap64 (a0)) 60))) < (rd t718 x63_1)) = false := decide_eq_false c20
             clear c20
             obtain ⟨ji21, hji21⟩ : ∃ j_ : Int, (wrap64 ((x11_1.length : Int) - 1)) = j_ := ⟨_, rfl⟩
             replace H : (if 0 ≤ (ji21) then (if (ji21) < (x11_1.length : Int) then (if x11_1.length < 17592186044416 then (cl6_HangSpreads.l0 k1 (wrap64 (1 + (Int.tmod (wrap64 (a0)) 60))) (wrap64 (1 + (Int.tmod (wrap64 (a1)) (wrap64 (1 + (Int.tmod (wrap64 (a0)) 60)))))) t722 (x11_1 ++ [wrap64 ((rd x11_1 (ji21)) + (rd t718 x63_1))]) t718 (t718.length : Int) (wrap64 (x63_1 + 1))) else (none)) else (none)) else (none)) = some r := by first | (rw [hji21] at H; exact H) | (simp only [hji21] at H ⊢; exact H)
             have hji21w : (IntKind.i64.wrap ((x11_1.length : Int) - 1)) = ji21 := (i64_w _).trans hji21
             by_cases c22 : 0 ≤ (ji21)
             ·rw [if_pos c22] at H
              have c22b0 : decide (0 ≤ (ji21)) = true := decide_eq_true c22
              clear c22
              by_cases c23 : (ji21) < (x11_1.length : Int)
              ·rw [if_pos c23] at H
               have c23b0 : decide ((ji21) < (x11_1.length : Int)) = true := decide_eq_true c23
               clear c23
               by_cases c24 : x11_1.length < 17592186044416
               ·rw [if_pos c24] at H
                have LMc24 := Z0.mk c24
                clear c24
                obtain ⟨y731, hy731⟩ : ∃ y_ : List Int, y_ = (x11_1 ++ [wrap64 ((rd x11_1 (ji21)) + (rd t718 x63_1))]) := ⟨_, rfl⟩
                replace H : (cl6_HangSpreads.l0 k1 (wrap64 (1 + (Int.tmod (wrap64 (a0)) 60))) (wrap64 (1 + (Int.tmod (wrap64 (a1)) (wrap64 (1 + (Int.tmod (wrap64 (a0)) 60)))))) t722 y731 t718 (t718.length : Int) (wrap64 (x63_1 + 1))) = some r := by first | (rw [hy731]; with_reducible exact H) | (have H2_ := (Option.bind_some _ _).symm.trans H; rw [hy731]; with_reducible exact H2_) | (have H2_ := (Option.bind_some _ _).symm.trans H; with_reducible exact H2_) | with_reducible exact H | (rw [hy731]; exact H) | exact H
                have Ny731 := Z0.mk hy731
                clear hy731
                have H' := Z0.mk H
                clear H
                have p729 : 0 ≤ (x63_1 : Int) := of_decide_eq_true (by first | (with_reducible assumption) | assumption)
                have q729 : x63_1 < (t718.length : Int) := of_decide_eq_true (by first | (with_reducible assumption) | assumption)
                obtain ⟨ad729, e729, hx729_0⟩ := Kd.at_int (Kd.R_reads' HO_61.out).2.2 x63_1 p729 q729
                cases e729
                replace p729 := eq_true p729
                replace q729 := eq_true q729
                obtain ⟨Ao25, co25, eo25⟩ := Kd.R_slice HO_11.out
                subst eo25
                have p730 : 0 ≤ ((ji21) : Int) := of_decide_eq_true (by first | (with_reducible assumption) | assumption)
                have q730 : (ji21) < (x11_1.length : Int) := of_decide_eq_true (by first | (with_reducible assumption) | assumption)
                obtain ⟨ad730, e730, hx730_0⟩ := Kd.at_int (Kd.R_reads' HO_11.out).2.2 (ji21) p730 q730
                cases e730
                replace p730 := eq_true p730
                replace q730 := eq_true q730
                go_wp2_with (first | ((with_reducible refine gate_builtin (b := .append) (xs := #[.tmp 74, .tmp 83]) rfl ?_); (try (refine gtG (by rfl) ?_; dsimp only)); at_builtin; refine Kd.R_append (Kd.int .i64) (w0 := w) w.heap.size rfl (.tmp 74) (.tmp 83) 45 3 (.int .i64 0) 8 rfl Tryd.underlying45 info3 rfl (by decide) (by omega) (.slice (some ad730) x11_1.length co25) x11_1 (wrap64 ((rd x11_1 (ji21)) + (rd t718 x63_1))) [.int .i64 (wrap64 ((rd x11_1 (ji21)) + (rd t718 x63_1)))] (fun k_ => some k_ ≠ (.slice Ao13 t722.length co13 : Value).ownBlock ∧ some k_ ≠ (.slice (some ad729) t718.length co12 : Value).ownBlock) (fun _ => False) rfl rfl ?aP (fun _ hk => hk.elim) ?aF ?aO ?aB ?aS ?aL ?_; (case aP => exact rfl); (case aB => exact (by repeat (first | (with_reducible first | exact HB.out | apply bwA | apply bwN | apply bw1) | exact HB.out))); (case aF => exact (fun k_ hk => ⟨Kd.fresh' (Kd.R_lt (by (with_reducible repeat (first | apply Kd.R_alloc | apply Kd.R_drewN | apply Kd.R_drew)); exact HO_9.out)) k_ hk, Kd.fresh' (Kd.R_lt (by (with_reducible repeat (first | apply Kd.R_alloc | apply Kd.R_drewN | apply Kd.R_drew)); exact HO_61.out)) k_ hk⟩)); (case aO => exact (by (with_reducible repeat (first | apply Kd.R_alloc | apply Kd.R_drewN | apply Kd.R_drew)); exact HO_11.out)); (case aS => exact (bwZ (by repeat (first | (with_reducible first | exact HB.out | apply bwA | apply bwN | apply bw1) | exact HB.out)))); (case aL => have := LMc24.out; omega); intro v732 w26 ho hb hg hat; rw [← Ny731.out] at ho; have n0_ := Z0.mk (Kd.R_after (ok := (fun k_ => some k_ ≠ (.slice (some ad729) t718.length co12 : Value).ownBlock)) (by (with_reducible repeat (first | apply Kd.R_alloc | apply Kd.R_drewN | apply Kd.R_drew)); exact Kd.R_mono HO_9.out (fun _ hk => ⟨hk.2, hk.1⟩)) hg hat); have n1_ := Z0.mk (Kd.R_after (ok := (fun k_ => some k_ ≠ (.slice Ao13 t722.length co13 : Value).ownBlock)) (by (with_reducible repeat (first | apply Kd.R_alloc | apply Kd.R_drewN | apply Kd.R_drew)); exact HO_61.out) hg hat); have n2_ := Z0.mk (hb); have n3_ := Z0.mk (ho); clear HO_9; clear HO_61; clear HB; clear HO_11; have HO_9 := n0_; have HO_61 := n1_; have HB := n2_; have HO733 := n3_; clear n0_ n1_ n2_ n3_; clear ho hb hg hat))
                repeat (go_quiet (first | ((with_reducible refine gate_builtin (b := .append) (xs := #[.tmp 74, .tmp 83]) rfl ?_); (try (refine gtG (by rfl) ?_; dsimp only)); at_builtin; refine Kd.R_append (Kd.int .i64) (w0 := w) w.heap.size rfl (.tmp 74) (.tmp 83) 45 3 (.int .i64 0) 8 rfl Tryd.underlying45 info3 rfl (by decide) (by omega) (.slice (some ad730) x11_1.length co25) x11_1 (wrap64 ((rd x11_1 (ji21)) + (rd t718 x63_1))) [.int .i64 (wrap64 ((rd x11_1 (ji21)) + (rd t718 x63_1)))] (fun k_ => some k_ ≠ (.slice Ao13 t722.length co13 : Value).ownBlock ∧ some k_ ≠ (.slice (some ad729) t718.length co12 : Value).ownBlock) (fun _ => False) rfl rfl ?aP (fun _ hk => hk.elim) ?aF ?aO ?aB ?aS ?aL ?_; (case aP => exact rfl); (case aB => exact (by repeat (first | (with_reducible first | exact HB.out | apply bwA | apply bwN | apply bw1) | exact HB.out))); (case aF => exact (fun k_ hk => ⟨Kd.fresh' (Kd.R_lt (by (with_reducible repeat (first | apply Kd.R_alloc | apply Kd.R_drewN | apply Kd.R_drew)); exact HO_9.out)) k_ hk, Kd.fresh' (Kd.R_lt (by (with_reducible repeat (first | apply Kd.R_alloc | apply Kd.R_drewN | apply Kd.R_drew)); exact HO_61.out)) k_ hk⟩)); (case aO => exact (by (with_reducible repeat (first | apply Kd.R_alloc | apply Kd.R_drewN | apply Kd.R_drew)); exact HO_11.out)); (case aS => exact (bwZ (by repeat (first | (with_reducible first | exact HB.out | apply bwA | apply bwN | apply bw1) | exact HB.out)))); (case aL => have := LMc24.out; omega); intro v732 w26 ho hb hg hat; rw [← Ny731.out] at ho; have n0_ := Z0.mk (Kd.R_after (ok := (fun k_ => some k_ ≠ (.slice (some ad729) t718.length co12 : Value).ownBlock)) (by (with_reducible repeat (first | apply Kd.R_alloc | apply Kd.R_drewN | apply Kd.R_drew)); exact Kd.R_mono HO_9.out (fun _ hk => ⟨hk.2, hk.1⟩)) hg hat); have n1_ := Z0.mk (Kd.R_after (ok := (fun k_ => some k_ ≠ (.slice Ao13 t722.length co13 : Value).ownBlock)) (by (with_reducible repeat (first | apply Kd.R_alloc | apply Kd.R_drewN | apply Kd.R_drew)); exact HO_61.out) hg hat); have n2_ := Z0.mk (hb); have n3_ := Z0.mk (ho); clear HO_9; clear HO_61; clear HB; clear HO_11; have HO_9 := n0_; have HO_61 := n1_; have HB := n2_; have HO733 := n3_; clear n0_ n1_ n2_ n3_; clear ho hb hg hat)); try go_wp2_with (first | ((with_reducible refine gate_builtin (b := .append) (xs := #[.tmp 74, .tmp 83]) rfl ?_); (try (refine gtG (by rfl) ?_; dsimp only)); at_builtin; refine Kd.R_append (Kd.int .i64) (w0 := w) w.heap.size rfl (.tmp 74) (.tmp 83) 45 3 (.int .i64 0) 8 rfl Tryd.underlying45 info3 rfl (by decide) (by omega) (.slice (some ad730) x11_1.length co25) x11_1 (wrap64 ((rd x11_1 (ji21)) + (rd t718 x63_1))) [.int .i64 (wrap64 ((rd x11_1 (ji21)) + (rd t718 x63_1)))] (fun k_ => some k_ ≠ (.slice Ao13 t722.length co13 : Value).ownBlock ∧ some k_ ≠ (.slice (some ad729) t718.length co12 : Value).ownBlock) (fun _ => False) rfl rfl ?aP (fun _ hk => hk.elim) ?aF ?aO ?aB ?aS ?aL ?_; (case aP => exact rfl); (case aB => exact (by repeat (first | (with_reducible first | exact HB.out | apply bwA | apply bwN | apply bw1) | exact HB.out))); (case aF => exact (fun k_ hk => ⟨Kd.fresh' (Kd.R_lt (by (with_reducible repeat (first | apply Kd.R_alloc | apply Kd.R_drewN | apply Kd.R_drew)); exact HO_9.out)) k_ hk, Kd.fresh' (Kd.R_lt (by (with_reducible repeat (first | apply Kd.R_alloc | apply Kd.R_drewN | apply Kd.R_drew)); exact HO_61.out)) k_ hk⟩)); (case aO => exact (by (with_reducible repeat (first | apply Kd.R_alloc | apply Kd.R_drewN | apply Kd.R_drew)); exact HO_11.out)); (case aS => exact (bwZ (by repeat (first | (with_reducible first | exact HB.out | apply bwA | apply bwN | apply bw1) | exact HB.out)))); (case aL => have := LMc24.out; omega); intro v732 w26 ho hb hg hat; rw [← Ny731.out] at ho; have n0_ := Z0.mk (Kd.R_after (ok := (fun k_ => some k_ ≠ (.slice (some ad729) t718.length co12 : Value).ownBlock)) (by (with_reducible repeat (first | apply Kd.R_alloc | apply Kd.R_drewN | apply Kd.R_drew)); exact Kd.R_mono HO_9.out (fun _ hk => ⟨hk.2, hk.1⟩)) hg hat); have n1_ := Z0.mk (Kd.R_after (ok := (fun k_ => some k_ ≠ (.slice Ao13 t722.length co13 : Value).ownBlock)) (by (with_reducible repeat (first | apply Kd.R_alloc | apply Kd.R_drewN | apply Kd.R_drew)); exact HO_61.out) hg hat); have n2_ := Z0.mk (hb); have n3_ := Z0.mk (ho); clear HO_9; clear HO_61; clear HB; clear HO_11; have HO_9 := n0_; have HO_61 := n1_; have HB := n2_; have HO733 := n3_; clear n0_ n1_ n2_ n3_; clear ho hb hg hat)))
                go_roundg k1
                case measure => have := HK1.out; omega
                case rel => exact ⟨(y731), (wrap64 (x63_1 + 1)), (by first | rfl | (simp; done) | (simp [*]; done)), H', ⟨by have := HK1.out; omega⟩, ⟨by (with_reducible repeat (first | apply Kd.R_alloc | apply Kd.R_drewN | apply Kd.R_drew)); exact Kd.R_mono HO_9.out (fun _ hk => ⟨hk.2, hk.1⟩)⟩, ⟨by (with_reducible repeat (first | apply Kd.R_alloc | apply Kd.R_drewN | apply Kd.R_drew)); exact HO733.out⟩, ⟨by (with_reducible repeat (first | apply Kd.R_alloc | apply Kd.R_drewN | apply Kd.R_drew)); exact HO_61.out⟩, ⟨by repeat (first | (with_reducible first | exact HB.out | apply bwA | apply bwN | apply bw1) | exact HB.out)⟩⟩
               ·rw [if_neg c24] at H
                exact absurd H (by simp)
              ·rw [if_neg c23] at H
               exact absurd H (by simp)
             ·rw [if_neg c22] at H
              exact absurd H (by simp)
          ·rw [if_neg c18] at H
           exact absurd H (by simp)
         ·rw [if_neg c17] at H
          exact absurd H (by simp)
        ·rw [if_neg c16] at H
         have c16b0 : decide (x63_1 < (t718.length : Int)) = false := decide_eq_false c16
         clear c16
         have H' := Z0.mk H
         clear H
         go_wp2
         repeat (go_quiet (fail); try go_wp2)
         go_loopg [88] k1 (fun kq v88 w' => ∃ (x88_2 : Int), v88 = .int .i64 x88_2 ∧ Z0 (cl6_HangSpreads.l1 kq (wrap64 (1 + (Int.tmod (wrap64 (a0)) 60))) (wrap64 (1 + (Int.tmod (wrap64 (a1)) (wrap64 (1 + (Int.tmod (wrap64 (a0)) 60)))))) x11_1 t722 (t722.length : Int) x88_2 = some r) ∧ Z0 (kq ≤ k1) ∧ Z0 (Kd.R (Kd.int .i64) 3 w' w.heap.size (fun k_ => some k_ ≠ ((.slice Ao13 t722.length co13) : Value).ownBlock) u11 x11_1) ∧ Z0 (Kd.R (Kd.int .i64) 3 w' w.heap.size (fun k_ => some k_ ≠ (u11 : Value).ownBlock) (.slice Ao13 t722.length co13) t722) ∧ Z0 (Below w.heap.size w w'))
         case atStart => exact ⟨(0), (by first | rfl | (simp; done) | (simp [*]; done)), H', ⟨Nat.le_refl _⟩, ⟨by (with_reducible repeat (first | apply Kd.R_alloc | apply Kd.R_drewN | apply Kd.R_drew)); exact Kd.R_mono HO_11.out (fun _ hk => hk.1)⟩, ⟨by (with_reducible repeat (first | apply Kd.R_alloc | apply Kd.R_drewN | apply Kd.R_drew)); exact Kd.R_mono HO_9.out (fun _ hk => hk.1)⟩, ⟨by repeat (first | (with_reducible first | exact HB.out | apply bwA | apply bwN | apply bw1) | exact HB.out)⟩⟩
         case round =>
          clear H'
          try clear c1
          try clear c2
          try clear p2
          try clear c3
          try clear c3b0
          try clear c3b1
          try clear c6
          try clear c6b0
          try clear c6b1
          try clear p6
          try clear c7
          try clear c7b0
          try clear c7b1
          try clear p7
          try clear q7
          try clear hx7
          try clear c8
          try clear c8b0
          try clear c8b1
          try clear c9
          try clear c9b0
          try clear c9b1
          try clear c12
          try clear c16
          try clear c16b0
          try clear c17
          try clear c17b0
          try clear c18
          try clear c18b0
          try clear c19
          try clear c19b0
          try clear c20
          try clear c20b0
          try clear c22
          try clear c22b0
          try clear c23
          try clear c23b0
          try clear c24
          try clear hx729_0
          try clear hx730_0
          try clear p2
          try clear p6
          try clear p729
          try clear p730
          try clear q729
          try clear q730
          obtain ⟨x88_2, rfl, HA, HK2, HO_11, HO_86, HB⟩ := hrel
          cases gk with
          | zero => exact absurd HA.out (by simp [cl6_HangSpreads.l1])
          | succ k2 =>
           have H := HA.out
           clear HA
           simp only [cl6_HangSpreads.l1] at H
           by_cases c27 : x88_2 < (t722.length : Int)
           ·rw [if_pos c27] at H
            have c27b0 : decide (x88_2 < (t722.length : Int)) = true := decide_eq_true c27
            clear c27
            by_cases c28 : 0 ≤ x88_2
            ·rw [if_pos c28] at H
             have c28b0 : decide (0 ≤ x88_2) = true := decide_eq_true c28
             clear c28
             by_cases c29 : x88_2 < (t722.length : Int)
             ·rw [if_pos c29] at H
              have c29b0 : decide (x88_2 < (t722.length : Int)) = true := decide_eq_true c29
              clear c29
              by_cases c30 : (rd t722 x88_2) = 1
              ·rw [if_pos c30] at H
               have c30b0 : ((rd t722 x88_2) == 1) = true := beq_iff_eq.mpr c30
               have c30b1 : ((rd t722 x88_2) != 1) = false := bne_eq_false_iff_eq.mpr c30
               clear c30
               have H' := Z0.mk H
               clear H
               have p734 : 0 ≤ (x88_2 : Int) := of_decide_eq_true (by first | (with_reducible assumption) | assumption)
               have q734 : x88_2 < (t722.length : Int) := of_decide_eq_true (by first | (with_reducible assumption) | assumption)
               obtain ⟨ad734, e734, hx734_0⟩ := Kd.at_int (Kd.R_reads' HO_86.out).2.2 x88_2 p734 q734
               cases e734
               replace p734 := eq_true p734
               replace q734 := eq_true q734
               go_wp2
               repeat (go_quiet (fail); try go_wp2)
               go_roundg k2
               case measure => have := HK1.out; have := HK2.out; omega
               case rel => exact ⟨(wrap64 (x88_2 + 1)), (by first | rfl | (simp; done) | (simp [*]; done)), H', ⟨by have := HK1.out; have := HK2.out; omega⟩, ⟨by (with_reducible repeat (first | apply Kd.R_alloc | apply Kd.R_drewN | apply Kd.R_drew)); exact HO_11.out⟩, ⟨by (with_reducible repeat (first | apply Kd.R_alloc | apply Kd.R_drewN | apply Kd.R_drew)); exact HO_86.out⟩, ⟨by repeat (first | (with_reducible first | exact HB.out | apply bwA | apply bwN | apply bw1) | exact HB.out)⟩⟩
              ·rw [if_neg c30] at H
               exact absurd H (by simp)
             ·rw [if_neg c29] at H
              exact absurd H (by simp)
            ·rw [if_neg c28] at H
             exact absurd H (by simp)
           ·rw [if_neg c27] at H
            have c27b0 : decide (x88_2 < (t722.length : Int)) = false := decide_eq_false c27
            clear c27
            have H' := Z0.mk H
            clear H
            go_wp2
            repeat (go_quiet (fail); try go_wp2)
            go_loopg [16] k2 (fun kq v16 w' => ∃ (x16_3 : Int), v16 = .int .i64 x16_3 ∧ Z0 (cl6_HangSpreads.l2 kq (wrap64 (1 + (Int.tmod (wrap64 (a0)) 60))) (wrap64 (1 + (Int.tmod (wrap64 (a1)) (wrap64 (1 + (Int.tmod (wrap64 (a0)) 60)))))) x11_1 x16_3 = some r) ∧ Z0 (kq ≤ k2) ∧ Z0 (Kd.R (Kd.int .i64) 3 w' w.heap.size (fun _ => True) u11 x11_1) ∧ Z0 (Below w.heap.size w w'))
            case atStart => exact ⟨(1), (by first | rfl | (simp; done) | (simp [*]; done)), H', ⟨Nat.le_refl _⟩, ⟨by (with_reducible repeat (first | apply Kd.R_alloc | apply Kd.R_drewN | apply Kd.R_drew)); exact Kd.R_mono HO_11.out (fun _ hk => trivial)⟩, ⟨by repeat (first | (with_reducible first | exact HB.out | apply bwA | apply bwN | apply bw1) | exact HB.out)⟩⟩
            case round =>
             clear H'
             try clear c1
             try clear c2
             try clear p2
             try clear c3
             try clear c3b0
             try clear c3b1
             try clear c6
             try clear c6b0
             try clear c6b1
             try clear p6
             try clear c7
             try clear c7b0
             try clear c7b1
             try clear p7
             try clear q7
             try clear hx7
             try clear c8
             try clear c8b0
             try clear c8b1
             try clear c9
             try clear c9b0
             try clear c9b1
             try clear c12
             try clear c16
             try clear c16b0
             try clear c17
             try clear c17b0
             try clear c18
             try clear c18b0
             try clear c19
             try clear c19b0
             try clear c20
             try clear c20b0
             try clear c22
             try clear c22b0
             try clear c23
             try clear c23b0
             try clear c24
             try clear c27
             try clear c27b0
             try clear c28
             try clear c28b0
             try clear c29
             try clear c29b0
             try clear c30
             try clear c30b0
             try clear c30b1
             try clear hx729_0
             try clear hx730_0
             try clear hx734_0
             try clear p2
             try clear p6
             try clear p7
             try clear p729
             try clear p730
             try clear p734
             try clear q7
             try clear q729
             try clear q730
             try clear q734
             obtain ⟨x16_3, rfl, HA, HK3, HO_11, HB⟩ := hrel
             cases gk with
             | zero => exact absurd HA.out (by simp [cl6_HangSpreads.l2])
             | succ k3 =>
              have H := HA.out
              clear HA
              simp only [cl6_HangSpreads.l2] at H
              by_cases c31 : x16_3 ≤ (wrap64 (1 + (Int.tmod (wrap64 (a1)) (wrap64 (1 + (Int.tmod (wrap64 (a0)) 60))))))
              ·rw [if_pos c31] at H
               have c31b0 : decide (x16_3 ≤ (wrap64 (1 + (Int.tmod (wrap64 (a1)) (wrap64 (1 + (Int.tmod (wrap64 (a0)) 60))))))) = true := decide_eq_true c31
               clear c31
               have H' := Z0.mk H
               clear H
               go_wp2
               repeat (go_quiet (fail); try go_wp2)
               go_loopg [17, 18, 19] k3 (fun kq v17 v18 v19 w' => ∃ (x17_4 : Int) (x18_4 : Int) (x19_4 : Int), v17 = .int .i64 x17_4 ∧ v18 = .int .i64 x18_4 ∧ v19 = .int .i64 x19_4 ∧ Z0 (cl6_HangSpreads.l3 kq (wrap64 (1 + (Int.tmod (wrap64 (a0)) 60))) (wrap64 (1 + (Int.tmod (wrap64 (a1)) (wrap64 (1 + (Int.tmod (wrap64 (a0)) 60)))))) x11_1 x16_3 x17_4 x18_4 x19_4 = some r) ∧ Z0 (kq ≤ k3) ∧ Z0 (Kd.R (Kd.int .i64) 3 w' w.heap.size (fun _ => True) u11 x11_1) ∧ Z0 (Below w.heap.size w w'))
               case atStart => exact ⟨((wrap64 (1 + (Int.tmod (wrap64 (a0)) 60)))), (0), (0), (by first | rfl | (simp; done) | (simp [*]; done)), (by first | rfl | (simp; done) | (simp [*]; done)), (by first | rfl | (simp; done) | (simp [*]; done)), H', ⟨Nat.le_refl _⟩, ⟨by (with_reducible repeat (first | apply Kd.R_alloc | apply Kd.R_drewN | apply Kd.R_drew)); exact HO_11.out⟩, ⟨by repeat (first | (with_reducible first | exact HB.out | apply bwA | apply bwN | apply bw1) | exact HB.out)⟩⟩
               case round =>
                clear H'
                try clear c1
                try clear c2
                try clear p2
                try clear c3
                try clear c3b0
                try clear c3b1
                try clear c6
                try clear c6b0
                try clear c6b1
                try clear p6
                try clear c7
                try clear c7b0
                try clear c7b1
                try clear p7
                try clear q7
                try clear hx7
                try clear c8
                try clear c8b0
                try clear c8b1
                try clear c9
                try clear c9b0
                try clear c9b1
                try clear c12
                try clear c16
                try clear c16b0
                try clear c17
                try clear c17b0
                try clear c18
                try clear c18b0
                try clear c19
                try clear c19b0
                try clear c20
                try clear c20b0
                try clear c22
                try clear c22b0
                try clear c23
                try clear c23b0
                try clear c24
                try clear c27
                try clear c27b0
                try clear c28
                try clear c28b0
                try clear c29
                try clear c29b0
                try clear c30
                try clear c30b0
                try clear c30b1
                try clear c31
                try clear c31b0
                try clear hx729_0
                try clear hx730_0
                try clear hx734_0
                try clear p2
                try clear p6
                try clear p7
                try clear p729
                try clear p730
                try clear p734
                try clear q7
                try clear q729
                try clear q730
                try clear q734
                obtain ⟨x17_4, x18_4, x19_4, rfl, rfl, rfl, HA, HK4, HO_11, HB⟩ := hrel
                cases gk with
                | zero => exact absurd HA.out (by simp [cl6_HangSpreads.l3])
                | succ k4 =>
                 have H := HA.out
                 clear HA
                 simp only [cl6_HangSpreads.l3] at H
                 by_cases c32 : (wrap64 (x19_4 + x16_3)) ≤ (wrap64 (1 + (Int.tmod (wrap64 (a1)) (wrap64 (1 + (Int.tmod (wrap64 (a0)) 60))))))
                 ·rw [if_pos c32] at H
                  have c32b0 : decide ((wrap64 (x19_4 + x16_3)) ≤ (wrap64 (1 + (Int.tmod (wrap64 (a1)) (wrap64 (1 + (Int.tmod (wrap64 (a0)) 60))))))) = true := decide_eq_true c32
                  clear c32
                  obtain ⟨ji33, hji33⟩ : ∃ j_ : Int, (wrap64 (x19_4 + x16_3)) = j_ := ⟨_, rfl⟩
                  replace H : (if 0 ≤ (ji33) then (if (ji33) < (x11_1.length : Int) then (if 0 ≤ x19_4 then (if x19_4 < (x11_1.length : Int) then (cl6_HangSpreads.l3 k4 (wrap64 (1 + (Int.tmod (wrap64 (a0)) 60))) (wrap64 (1 + (Int.tmod (wrap64 (a1)) (wrap64 (1 + (Int.tmod (wrap64 (a0)) 60)))))) x11_1 x16_3 (mn x17_4 (wrap64 ((rd x11_1 (ji33)) - (rd x11_1 x19_4)))) (mx x18_4 (wrap64 ((rd x11_1 (ji33)) - (rd x11_1 x19_4)))) (wrap64 (x19_4 + 1))) else (none)) else (none)) else (none)) else (none)) = some r := by first | (rw [hji33] at H; exact H) | (simp only [hji33] at H ⊢; exact H)
                  (try rw [hji33] at c32b0)
                  have hji33w : (IntKind.i64.wrap (x19_4 + x16_3)) = ji33 := (i64_w _).trans hji33
                  by_cases c34 : 0 ≤ (ji33)
                  ·rw [if_pos c34] at H
                   have c34b0 : decide (0 ≤ (ji33)) = true := decide_eq_true c34
                   clear c34
                   by_cases c35 : (ji33) < (x11_1.length : Int)
                   ·rw [if_pos c35] at H
                    have c35b0 : decide ((ji33) < (x11_1.length : Int)) = true := decide_eq_true c35
                    clear c35
                    by_cases c36 : 0 ≤ x19_4
                    ·rw [if_pos c36] at H
                     have c36b0 : decide (0 ≤ x19_4) = true := decide_eq_true c36
                     clear c36
                     by_cases c37 : x19_4 < (x11_1.length : Int)
                     ·rw [if_pos c37] at H
                      have c37b0 : decide (x19_4 < (x11_1.length : Int)) = true := decide_eq_true c37
                      clear c37
                      obtain ⟨ji38, hji38⟩ : ∃ j_ : Int, (mn x17_4 (wrap64 ((rd x11_1 (ji33)) - (rd x11_1 x19_4)))) = j_ := ⟨_, rfl⟩
                      replace H : (cl6_HangSpreads.l3 k4 (wrap64 (1 + (Int.tmod (wrap64 (a0)) 60))) (wrap64 (1 + (Int.tmod (wrap64 (a1)) (wrap64 (1 + (Int.tmod (wrap64 (a0)) 60)))))) x11_1 x16_3 ji38 (mx x18_4 (wrap64 ((rd x11_1 (ji33)) - (rd x11_1 x19_4)))) (wrap64 (x19_4 + 1))) = some r := by first | (rw [hji38] at H; exact H) | (simp only [hji38] at H ⊢; exact H)
                      have hji38_ : (if (wrap64 ((rd x11_1 (ji33)) - (rd x11_1 x19_4))) < x17_4 then (wrap64 ((rd x11_1 (ji33)) - (rd x11_1 x19_4))) else x17_4) = ji38 := hji38
                      obtain ⟨ji39, hji39⟩ : ∃ j_ : Int, (mx x18_4 (wrap64 ((rd x11_1 (ji33)) - (rd x11_1 x19_4)))) = j_ := ⟨_, rfl⟩
                      replace H : (cl6_HangSpreads.l3 k4 (wrap64 (1 + (Int.tmod (wrap64 (a0)) 60))) (wrap64 (1 + (Int.tmod (wrap64 (a1)) (wrap64 (1 + (Int.tmod (wrap64 (a0)) 60)))))) x11_1 x16_3 ji38 ji39 (wrap64 (x19_4 + 1))) = some r := by first | (rw [hji39] at H; exact H) | (simp only [hji39] at H ⊢; exact H)
                      have hji39_ : (if x18_4 < (wrap64 ((rd x11_1 (ji33)) - (rd x11_1 x19_4))) then (wrap64 ((rd x11_1 (ji33)) - (rd x11_1 x19_4))) else x18_4) = ji39 := hji39
                      have H' := Z0.mk H
                      clear H
                      obtain ⟨Ao40, co40, eo40⟩ := Kd.R_slice HO_11.out
                      subst eo40
                      have p735 : 0 ≤ ((ji33) : Int) := of_decide_eq_true (by first | (with_reducible assumption) | assumption)
                      have q735 : (ji33) < (x11_1.length : Int) := of_decide_eq_true (by first | (with_reducible assumption) | assumption)
                      obtain ⟨ad735, e735, hx735_0⟩ := Kd.at_int (Kd.R_reads' HO_11.out).2.2 (ji33) p735 q735
                      cases e735
                      replace p735 := eq_true p735
                      replace q735 := eq_true q735
                      have p736 : 0 ≤ (x19_4 : Int) := of_decide_eq_true (by first | (with_reducible assumption) | assumption)
                      have q736 : x19_4 < (x11_1.length : Int) := of_decide_eq_true (by first | (with_reducible assumption) | assumption)
                      obtain ⟨ad736, e736, hx736_0⟩ := Kd.at_int (Kd.R_reads' HO_11.out).2.2 x19_4 p736 q736
                      obtain rfl : ad735 = ad736 := (by injection e736)
                      replace p736 := eq_true p736
                      replace q736 := eq_true q736
                      go_wp2
                      repeat (go_quiet (fail); try go_wp2)
                      go_roundg k4
                      case measure => have := HK1.out; have := HK2.out; have := HK3.out; have := HK4.out; omega
                      case rel => exact ⟨(ji38), (ji39), (wrap64 (x19_4 + 1)), (by first | rfl | (simp; done) | (simp only [← hji38] <;> (first | rfl | simp)) | (simp [*]; done)), (by first | rfl | (simp; done) | (simp only [← hji39] <;> (first | rfl | simp)) | (simp [*]; done)), (by first | rfl | (simp; done) | (simp [*]; done)), H', ⟨by have := HK1.out; have := HK2.out; have := HK3.out; have := HK4.out; omega⟩, ⟨by (with_reducible repeat (first | apply Kd.R_alloc | apply Kd.R_drewN | apply Kd.R_drew)); exact HO_11.out⟩, ⟨by repeat (first | (with_reducible first | exact HB.out | apply bwA | apply bwN | apply bw1) | exact HB.out)⟩⟩
                     ·rw [if_neg c37] at H
                      exact absurd H (by simp)
                    ·rw [if_neg c36] at H
                     exact absurd H (by simp)
                   ·rw [if_neg c35] at H
                    exact absurd H (by simp)
                  ·rw [if_neg c34] at H
                   exact absurd H (by simp)
                 ·rw [if_neg c32] at H
                  have c32b0 : decide ((wrap64 (x19_4 + x16_3)) ≤ (wrap64 (1 + (Int.tmod (wrap64 (a1)) (wrap64 (1 + (Int.tmod (wrap64 (a0)) 60))))))) = false := decide_eq_false c32
                  clear c32
                  by_cases c41 : (wrap64 (x18_4 - x17_4)) > 1
                  ·rw [if_pos c41] at H
                   exact absurd H (by simp)
                  ·rw [if_neg c41] at H
                   have c41b0 : decide (1 < (wrap64 (x18_4 - x17_4))) = false := decide_eq_false c41
                   clear c41
                   have H' := Z0.mk H
                   clear H
                   go_wp2
                   repeat (go_quiet (fail); try go_wp2)
                   go_roundg k4
                   case measure => have := HK1.out; have := HK2.out; have := HK3.out; have := HK4.out; omega
                   case rel => exact ⟨(wrap64 (x16_3 + 1)), (by first | rfl | (simp; done) | (simp [*]; done)), H', ⟨by have := HK1.out; have := HK2.out; have := HK3.out; have := HK4.out; omega⟩, ⟨by (with_reducible repeat (first | apply Kd.R_alloc | apply Kd.R_drewN | apply Kd.R_drew)); exact HO_11.out⟩, ⟨by repeat (first | (with_reducible first | exact HB.out | apply bwA | apply bwN | apply bw1) | exact HB.out)⟩⟩
              ·rw [if_neg c31] at H
               have c31b0 : decide (x16_3 ≤ (wrap64 (1 + (Int.tmod (wrap64 (a1)) (wrap64 (1 + (Int.tmod (wrap64 (a0)) 60))))))) = false := decide_eq_false c31
               clear c31
               obtain ⟨ji42, hji42⟩ : ∃ j_ : Int, (wrap64 (1 + (Int.tmod (wrap64 (a1)) (wrap64 (1 + (Int.tmod (wrap64 (a0)) 60)))))) = j_ := ⟨_, rfl⟩
               replace H : (if 0 ≤ (ji42) then (if (ji42) < (x11_1.length : Int) then (if (rd x11_1 (ji42)) = (wrap64 (1 + (Int.tmod (wrap64 (a0)) 60))) then ((cl6_awake.f k3).bind fun t738 => (some t738)) else (none)) else (none)) else (none)) = some r := by first | (rw [hji42] at H; exact H) | (simp only [hji42] at H ⊢; exact H)
               (try rw [hji42] at c8b0)
               (try rw [hji42] at c8b1)
               (try rw [hji42] at c31b0)
               have hji42w : (IntKind.i64.wrap (1 + (Int.tmod (wrap64 (a1)) (wrap64 (1 + (Int.tmod (wrap64 (a0)) 60)))))) = ji42 := (i64_w _).trans hji42
               by_cases c43 : 0 ≤ (ji42)
               ·rw [if_pos c43] at H
                have c43b0 : decide (0 ≤ (ji42)) = true := decide_eq_true c43
                clear c43
                by_cases c44 : (ji42) < (x11_1.length : Int)
                ·rw [if_pos c44] at H
                 have c44b0 : decide ((ji42) < (x11_1.length : Int)) = true := decide_eq_true c44
                 clear c44
                 by_cases c45 : (rd x11_1 (ji42)) = (wrap64 (1 + (Int.tmod (wrap64 (a0)) 60)))
                 ·rw [if_pos c45] at H
                  have c45b0 : ((rd x11_1 (ji42)) == (wrap64 (1 + (Int.tmod (wrap64 (a0)) 60)))) = true := beq_iff_eq.mpr c45
                  have c45b1 : ((rd x11_1 (ji42)) != (wrap64 (1 + (Int.tmod (wrap64 (a0)) 60)))) = false := bne_eq_false_iff_eq.mpr c45
                  clear c45
                  replace H := Option.bind_eq_some_iff.mp H
                  obtain ⟨t738, A460, H⟩ := H
                  replace H : (some t738) = some r := H
                  have A46 := Z0.mk A460
                  clear A460
                  obtain rfl := Option.some.inj H
                  obtain ⟨Ao47, co47, eo47⟩ := Kd.R_slice HO_11.out
                  subst eo47
                  have p737 : 0 ≤ ((ji42) : Int) := of_decide_eq_true (by first | (with_reducible assumption) | assumption)
                  have q737 : (ji42) < (x11_1.length : Int) := of_decide_eq_true (by first | (with_reducible assumption) | assumption)
                  obtain ⟨ad737, e737, hx737_0⟩ := Kd.at_int (Kd.R_reads' HO_11.out).2.2 (ji42) p737 q737
                  cases e737
                  replace p737 := eq_true p737
                  replace q737 := eq_true q737
                  go_wp2_with (first | (go_at_call 22; (with_reducible refine (cl6_awake.calls k3  t738 _ (hG.below (by repeat (first | (with_reducible first | exact HB.out | apply bwA | apply bwN | apply bw1) | exact HB.out))) A46.out).mono ?_); rintro e w48 ⟨rfl, hb⟩; have n0_ := Z0.mk (Kd.R_below (by (with_reducible repeat (first | apply Kd.R_alloc | apply Kd.R_drewN | apply Kd.R_drew)); exact HO_11.out) hb); have n1_ := Z0.mk (bwT (by repeat (first | (with_reducible first | exact HB.out | apply bwA | apply bwN | apply bw1) | exact HB.out)) hb); clear HO_11; clear HB; have HO_11 := n0_; have HB := n1_; clear n0_ n1_; (try clear hb); (try clear hb2); (try clear hk); (try clear hi)))
                  repeat (go_quiet (first | (go_at_call 22; (with_reducible refine (cl6_awake.calls k3  t738 _ (hG.below (by repeat (first | (with_reducible first | exact HB.out | apply bwA | apply bwN | apply bw1) | exact HB.out))) A46.out).mono ?_); rintro e w48 ⟨rfl, hb⟩; have n0_ := Z0.mk (Kd.R_below (by (with_reducible repeat (first | apply Kd.R_alloc | apply Kd.R_drewN | apply Kd.R_drew)); exact HO_11.out) hb); have n1_ := Z0.mk (bwT (by repeat (first | (with_reducible first | exact HB.out | apply bwA | apply bwN | apply bw1) | exact HB.out)) hb); clear HO_11; clear HB; have HO_11 := n0_; have HB := n1_; clear n0_ n1_; (try clear hb); (try clear hb2); (try clear hk); (try clear hi))); try go_wp2_with (first | (go_at_call 22; (with_reducible refine (cl6_awake.calls k3  t738 _ (hG.below (by repeat (first | (with_reducible first | exact HB.out | apply bwA | apply bwN | apply bw1) | exact HB.out))) A46.out).mono ?_); rintro e w48 ⟨rfl, hb⟩; have n0_ := Z0.mk (Kd.R_below (by (with_reducible repeat (first | apply Kd.R_alloc | apply Kd.R_drewN | apply Kd.R_drew)); exact HO_11.out) hb); have n1_ := Z0.mk (bwT (by repeat (first | (with_reducible first | exact HB.out | apply bwA | apply bwN | apply bw1) | exact HB.out)) hb); clear HO_11; clear HB; have HO_11 := n0_; have HB := n1_; clear n0_ n1_; (try clear hb); (try clear hb2); (try clear hk); (try clear hi))))
                  go_ret
                  exact ⟨by first | rfl | (simp [errW_none, errW_some] <;> rfl) | (simp only [← hji42]; first | rfl | (simp [errW_none, errW_some] <;> rfl)) | (simp [*, errW_none, errW_some] <;> rfl), by repeat (first | (with_reducible first | exact HB.out | apply bwA | apply bwN | apply bw1) | exact HB.out)⟩
                 ·rw [if_neg c45] at H
                  exact absurd H (by simp)
                ·rw [if_neg c44] at H
                 exact absurd H (by simp)
               ·rw [if_neg c43] at H
                exact absurd H (by simp)
     ·rw [if_neg c9] at H
      exact absurd H (by simp)
    ·rw [if_neg c8] at H
     exact absurd H (by simp)
   ·rw [if_neg c7] at H
    exact absurd H (by simp)
  ·rw [if_neg c6] at H
   exact absurd H (by simp)
end Go.Proofs.YtppighiaffppkaaDoor.H
end
section
namespace Go.Proofs.YtppighiaffppkaaDoor.H
open Go.RowKit Go.Proofs.YtppighiaffppkaaDoorW.PrintWords Go.Proofs.YtppighiaffppkaaDoorW.PrintLast Go.Proofs.YtppighiaffppkaaDoorW.PrintMore
set_option linter.unusedSimpArgs false
set_option linter.unusedVariables false
theorem mul_bd {a b A B : Int} (h0 : 0 ≤ a) (h1 : a ≤ A) (h2 : 0 ≤ b) (h3 : b ≤ B) : 0 ≤ a * b ∧ a * b ≤ A * B := ⟨Int.mul_nonneg h0 h2, Int.mul_le_mul h1 h3 h2 (by omega)⟩
theorem Ev.eqb {α β : Type} {x : Option α} {f : Nat → α → Option β} {a : α} {r : β} (h : x = Option.some a) (k : Ev (fun n => f n a) r) : Ev (fun n => x.bind (f n)) r := by
 subst h; exact k
theorem Ev.pos {α : Type} {c : Prop} [Decidable c] {g f : Nat → Option α} {r : α} (hc : c) (k : Ev g r) : Ev (fun n => if c then g n else f n) r := by simpa [hc] using k
theorem Ev.neg {α : Type} {c : Prop} [Decidable c] {g f : Nat → Option α} {r : α} (hc : ¬ c) (k : Ev f r) : Ev (fun n => if c then g n else f n) r := by simpa [hc] using k
theorem firstE_ok2 {a b : Int} (h : firstE [a, b] = 0) : a = 0 ∧ b = 0 := by
 simp only [firstE] at h
 split at h
 ·split at h
  ·exact ⟨by assumption, by assumption⟩
  ·contradiction
 ·contradiction
theorem firstE_two (a b : Int) : firstE [a, b] = if a = 0 then b else a := by
 simp only [firstE]
 split
 ·split
  ·exact Eq.symm (by assumption)
  ·rfl
 ·rfl
theorem rangeE_ok {n lo hi : Int} (h : rangeE n lo hi = 0) : lo ≤ n ∧ n ≤ hi := by
 unfold rangeE at h
 split at h
 ·omega
 ·split at h <;> omega
theorem checkMeshes_eq (n : Int) : hang_checkMeshes.f n = some (rangeE n 1 300) := by
 unfold hang_checkMeshes.f; rw [hang_within_eq]; rfl
def tieAt (m n i : Int) : Int := (i + 1) * m / n - i * m / n
def mapR (f : Int → Int) (N : Nat) : List Int := (List.range N).map (fun i : Nat => f (i : Int))
theorem mapR_succ (f : Int → Int) (N : Nat) : mapR f (N + 1) = mapR f N ++ [f (N : Int)] := by
 unfold mapR; rw [List.range_succ, List.map_append]; rfl
theorem mapR_len (f : Int → Int) (N : Nat) : (mapR f N).length = N := by unfold mapR; simp
theorem rd_mapR (f : Int → Int) (N : Nat) {i : Int} (h0 : 0 ≤ i) (h1 : i < N) : rd (mapR f N) i = f i := by
 unfold rd mapR
 have : i.toNat < N := by omega
 rw [List.getD_eq_getElem?_getD, List.getElem?_map, List.getElem?_range this]
 simp
 rw [Int.max_eq_left h0]
def tieE (m n : Int) : Int := firstE [rangeE m 1 300, rangeE n 1 m]
theorem tie_step {m n i : Int} (h1 : 1 ≤ m) (h2 : m ≤ 300) (h3 : 1 ≤ n) (h4 : n ≤ m) (h5 : 0 ≤ i) (h6 : i < n) :
  wrap64 ((wrap64 (Int.tdiv (wrap64 ((wrap64 (i + 1)) * m)) n)) - (wrap64 (Int.tdiv (wrap64 (i * m)) n))) = tieAt m n i := by
 have a := mul_bd (a := i + 1) (b := m) (A := 300) (B := 300) (by omega) (by omega) (by omega) h2
 have b := mul_bd (a := i) (b := m) (A := 300) (B := 300) h5 (by omega) (by omega) h2
 have e1 : Int.tdiv ((i + 1) * m) n = (i + 1) * m / n := Int.tdiv_eq_ediv_of_nonneg a.1
 have e2 : Int.tdiv (i * m) n = i * m / n := Int.tdiv_eq_ediv_of_nonneg b.1
 have c1 := Int.ediv_nonneg a.1 (by omega : 0 ≤ n)
 have c2 := Int.ediv_nonneg b.1 (by omega : 0 ≤ n)
 have d1 := Int.ediv_le_self n a.1
 have d2 := Int.ediv_le_self n b.1
 have a2 := a.2
 have b2 := b.2
 rw [wrap_id (x := i + 1) (by omega) (by omega), wrap_id (x := (i + 1) * m) (by have := a.1; omega) (by omega), wrap_id (x := i * m) (by have := b.1; omega) (by omega), e1, e2, wrap_id (x := (i + 1) * m / n) (by omega) (by omega), wrap_id (x := i * m / n) (by omega) (by omega), wrap_id (by omega) (by omega)]
 rfl
theorem hang_Ties_loop {m n : Int} (h1 : 1 ≤ m) (h2 : m ≤ 300) (h3 : 1 ≤ n) (h4 : n ≤ m) : ∀ (d i k : Nat), (i : Int) + d = n → d < k → hang_Ties.l0 k m n (mapR (tieAt m n) i) n (i : Int) = some (mapR (tieAt m n) n.toNat, 0) := by
 intro d
 induction d with
 | zero =>
  intro i k hi hk
  obtain ⟨k, rfl⟩ : ∃ q, k = q + 1 := ⟨k - 1, by omega⟩
  simp only [hang_Ties.l0]
  rw [if_neg (by omega)]
  have : i = n.toNat := by omega
  rw [this]
 | succ d ih =>
  intro i k hi hk
  obtain ⟨k, rfl⟩ : ∃ q, k = q + 1 := ⟨k - 1, by omega⟩
  simp only [hang_Ties.l0]
  rw [if_pos (by omega), if_neg (by omega), if_pos (by rw [mapR_len]; omega), tie_step h1 h2 h3 h4 (by omega) (by omega), ← mapR_succ, wrap_id (by omega) (by omega)]
  have e : ((i : Int) + 1) = ((i + 1 : Nat) : Int) := by omega
  rw [e, ih (i + 1) k (by omega) (by omega)]
theorem hang_Ties_ev (m n : Int) : Ev (fun k => hang_Ties.f k m n) (if tieE m n = 0 then (mapR (tieAt m n) n.toNat, 0) else ([], tieE m n)) := by
 unfold hang_Ties.f
 refine Ev.eqb (checkMeshes_eq ..) (Ev.eqb (hang_within_eq ..) ((hang_first_ev _ (by simp)).bind ?_))
 have q : firstE [rangeE m 1 300, rangeE n 1 m] = tieE m n := rfl
 rw [q]
 by_cases h : tieE m n = 0
 ·obtain ⟨a, b⟩ := firstE_ok2 h
  have a := rangeE_ok a
  have b := rangeE_ok b
  refine Ev.pos h ?_
  rw [if_pos h]
  refine ⟨n.toNat + 1, fun k hk => ?_⟩
  exact hang_Ties_loop a.1 a.2 b.1 b.2 n.toNat 0 k (by omega) (by omega)
 ·refine Ev.neg h ?_; rw [if_neg h]; exact Ev.some rfl
end Go.Proofs.YtppighiaffppkaaDoor.H
end
section
namespace Go.Proofs.YtppighiaffppkaaDoor.Pure
open Go.RowKit H R Go.Proofs.YtppighiaffppkaaDoorW.PrintWords Go.Proofs.YtppighiaffppkaaDoorW.PrintLast Go.Proofs.YtppighiaffppkaaDoorW.PrintMore
set_option linter.unusedVariables false
def plc (m n j : Int) : Int := j * m / n
theorem plc_bd {m n j : Int} (h1 : 1 ≤ m) (h2 : m ≤ 60) (h3 : 1 ≤ n) (h4 : n ≤ m) (h5 : 0 ≤ j) (h6 : j ≤ n) : 0 ≤ plc m n j ∧ plc m n j ≤ m := by
 unfold plc
 have a : 0 ≤ j * m := Int.mul_nonneg h5 (by omega)
 refine ⟨Int.ediv_nonneg a (by omega), ?_⟩
 have : j * m / n < m + 1 := Int.ediv_lt_of_lt_mul (by omega) (by
  have : j * m ≤ n * m := Int.mul_le_mul_of_nonneg_right h6 (by omega)
  rw [Int.add_mul, Int.mul_comm m n]; omega)
 omega
theorem div_add {a b n : Int} (hn : 0 < n) : a / n + b / n ≤ (a + b) / n ∧ (a + b) / n ≤ a / n + b / n + 1 := by
 have ha := Int.ediv_mul_le a (by omega : n ≠ 0)
 have hb := Int.ediv_mul_le b (by omega : n ≠ 0)
 have ha' := Int.lt_ediv_add_one_mul_self a hn
 have hb' := Int.lt_ediv_add_one_mul_self b hn
 constructor
 ·exact Int.le_ediv_of_mul_le hn (by rw [Int.add_mul]; omega)
 ·have : (a + b) / n < a / n + b / n + 2 := Int.ediv_lt_of_lt_mul hn (by
   have e1 : (a / n + b / n + 2) * n = (a / n + 1) * n + (b / n + 1) * n := by rw [← Int.add_mul]; congr 1; omega
   omega)
  omega
theorem tie_bd {m n i : Int} (h1 : 1 ≤ m) (h2 : m ≤ 60) (h3 : 1 ≤ n) (h4 : n ≤ m) (h5 : 0 ≤ i) (h6 : i < n) : 1 ≤ tieAt m n i ∧ tieAt m n i ≤ m ∧ plc m n i + tieAt m n i = plc m n (i + 1) := by
 unfold tieAt plc
 have e : (i + 1) * m = i * m + m := by rw [Int.add_mul, Int.one_mul]
 have a := div_add (a := i * m) (b := m) (n := n) (by omega)
 have q : 1 ≤ m / n := Int.le_ediv_of_mul_le (by omega) (by omega)
 have p := plc_bd h1 h2 h3 h4 (by omega : 0 ≤ i + 1) (by omega)
 have p0 := plc_bd h1 h2 h3 h4 h5 (by omega)
 unfold plc at p p0
 rw [e] at p ⊢
 omega
theorem spread_step {m n k i : Int} (h1 : 1 ≤ m) (h2 : m ≤ 60) (h3 : 1 ≤ n) (h4 : n ≤ m) (h5 : 0 ≤ i) (h6 : 1 ≤ k) (h7 : i + k ≤ n) : plc m n k ≤ plc m n (i + k) - plc m n i ∧ plc m n (i + k) - plc m n i ≤ plc m n k + 1 := by
 unfold plc
 have e : (i + k) * m = i * m + k * m := Int.add_mul ..
 have a := div_add (a := i * m) (b := k * m) (n := n) (by omega)
 rw [e]; omega
theorem mn_le {a b c : Int} (h1 : c ≤ a) (h2 : c ≤ b) : c ≤ mn a b := by unfold mn; split <;> omega
theorem mx_le {a b c : Int} (h1 : a ≤ c) (h2 : b ≤ c) : mx a b ≤ c := by unfold mx; split <;> omega
theorem mn_le' {a b c : Int} (h1 : a ≤ c) : mn a b ≤ c := by unfold mn; split <;> omega
theorem mx_le' {a b c : Int} (h1 : c ≤ a) : c ≤ mx a b := by unfold mx; split <;> omega
section
variable {m n : Int} (h1 : 1 ≤ m) (h2 : m ≤ 60) (h3 : 1 ≤ n) (h4 : n ≤ m)
include h1 h2 h3 h4
theorem rounds_ev : ∀ (g : Nat) (k : Int), 1 ≤ k → k ≤ n + 1 → (n + 1 - k).toNat ≤ g → Ev (fun q => cl6_HangSpreads.l2 q m n (mapR (plc m n) (n.toNat + 1)) k) true := by
 intro g
 have fin : ∀ k : Int, n < k → Ev (fun q => cl6_HangSpreads.l2 q m n (mapR (plc m n) (n.toNat + 1)) k) true := by
  intro k hk
  refine Ev.step (fun _ => rfl) (Ev.neg (by omega) (Ev.pos (by omega) (Ev.pos (by rw [mapR_len]; omega) (Ev.pos ?_ (Ev.now true)))))
  rw [rd_mapR _ _ (by omega) (by omega)]
  unfold plc
  exact Int.mul_ediv_cancel_left _ (by omega)
 induction g with
 | zero => intro k a b c; exact fin k (by omega)
 | succ g ih =>
  intro k a b c
  by_cases hk : k ≤ n
  ·refine Ev.step (fun _ => rfl) (Ev.pos hk ?_)
   have p := plc_bd h1 h2 h3 h4 (by omega : 0 ≤ k) hk
   have inner : ∀ (d : Nat) (i lo hi : Int), 0 ≤ i → i + k ≤ n + 1 → (n + 1 - k - i).toNat ≤ d → plc m n k ≤ lo → lo ≤ m → 0 ≤ hi → hi ≤ plc m n k + 1 →
     Ev (fun q => cl6_HangSpreads.l3 q m n (mapR (plc m n) (n.toNat + 1)) k lo hi i) true := by
    have last : ∀ (i lo hi : Int), 0 ≤ i → i + k = n + 1 → plc m n k ≤ lo → lo ≤ m → 0 ≤ hi → hi ≤ plc m n k + 1 → Ev (fun q => cl6_HangSpreads.l3 q m n (mapR (plc m n) (n.toNat + 1)) k lo hi i) true := by
     intro i lo hi a0 a1 a2 a3 a4 a5
     refine Ev.step (fun _ => rfl) ?_
     simp only [cl6_HangSpreads.l3]
     rw [wrap_id (x := i + k) (by omega) (by omega), wrap_id (x := hi - lo) (by omega) (by omega), wrap_id (x := k + 1) (by omega) (by omega)]
     exact Ev.neg (by omega) (Ev.neg (by omega) (ih (k + 1) (by omega) (by omega) (by omega)))
    intro d
    induction d with
    | zero => intro i lo hi a0 a1 a2 a3 a4 a5 a6; exact last i lo hi a0 (by omega) a3 a4 a5 a6
    | succ d ihd =>
     intro i lo hi a0 a1 a2 a3 a4 a5 a6
     by_cases hi' : i + k ≤ n
     ·refine Ev.step (fun _ => rfl) ?_
      simp only [cl6_HangSpreads.l3]
      have s := spread_step h1 h2 h3 h4 a0 a hi'
      have p1 := plc_bd h1 h2 h3 h4 (by omega : 0 ≤ i + k) hi'
      have p0 := plc_bd h1 h2 h3 h4 a0 (by omega)
      rw [wrap_id (x := i + k) (by omega) (by omega), wrap_id (x := i + 1) (by omega) (by omega), rd_mapR _ _ (by omega) (by omega), rd_mapR _ _ (by omega) (by omega), wrap_id (x := plc m n (i + k) - plc m n i) (by omega) (by omega)]
      refine Ev.pos hi' (Ev.pos (by omega) (Ev.pos (by rw [mapR_len]; omega) (Ev.pos a0 (Ev.pos (by rw [mapR_len]; omega) (ihd _ _ _ (by omega) (by omega) (by omega) (mn_le a3 s.1) (mn_le' a4) (mx_le' a5) (mx_le a6 s.2))))))
     ·exact last i lo hi a0 (by omega) a3 a4 a5 a6
   exact inner _ 0 m 0 (Int.le_refl _) (by omega) (Nat.le_refl _) p.2 (Int.le_refl _) (Int.le_refl _) (by omega)
  ·exact fin k (by omega)
theorem each_ev : ∀ (d i : Nat), (i : Int) + d = m → Ev (fun q => cl6_HangSpreads.l1 q m n (mapR (plc m n) (n.toNat + 1)) (mapR (tieAt m m) m.toNat) m (i : Int)) true := by
 intro d
 induction d with
 | zero =>
  intro i hi
  refine Ev.step (fun _ => rfl) (Ev.neg (by omega) ?_)
  exact rounds_ev h1 h2 h3 h4 _ 1 (by omega) (by omega) (Nat.le_refl _)
 | succ d ih =>
  intro i hi
  refine Ev.step (fun _ => rfl) (Ev.pos (by omega) (Ev.pos (by omega) (Ev.pos (by rw [mapR_len]; omega) (Ev.pos ?_ ?_))))
  ·rw [rd_mapR _ _ (by omega) (by omega)]
   unfold tieAt
   rw [Int.mul_ediv_cancel _ (by omega), Int.mul_ediv_cancel _ (by omega)]; omega
  ·rw [wrap_id (by omega) (by omega)]
   exact ih (i + 1) (by omega)
theorem sums_ev : ∀ (d i : Nat), (i : Int) + d = n → Ev (fun q => cl6_HangSpreads.l0 q m n (mapR (tieAt m m) m.toNat) (mapR (plc m n) (i + 1)) (mapR (tieAt m n) n.toNat) n (i : Int)) true := by
 intro d
 induction d with
 | zero =>
  intro i hi
  refine Ev.step (fun _ => rfl) (Ev.neg (by omega) ?_)
  have e : i = n.toNat := by omega
  rw [mapR_len, e, show ((m.toNat : Nat) : Int) = m by omega]
  exact each_ev h1 h2 h3 h4 m.toNat 0 (by omega)
 | succ d ih =>
  intro i hi
  have t := tie_bd h1 h2 h3 h4 (by omega : (0 : Int) ≤ (i : Int)) (by omega)
  have p := plc_bd h1 h2 h3 h4 (by omega : (0 : Int) ≤ (i : Int)) (by omega)
  have p1 := plc_bd h1 h2 h3 h4 (by omega : (0 : Int) ≤ (i : Int) + 1) (by omega)
  have e0 : wrap64 (((mapR (plc m n) (i + 1)).length : Int) - 1) = i := by rw [mapR_len, wrap_id (by omega) (by omega)]; omega
  refine Ev.step (fun _ => rfl) (Ev.pos (by omega) (Ev.pos (by omega) (Ev.pos (by rw [mapR_len]; omega) ?_)))
  rw [e0, rd_mapR _ _ (by omega) (by omega), rd_mapR _ _ (by omega) (by omega), t.2.2, wrap_id (x := plc m n ((i : Int) + 1)) (by omega) (by omega), wrap_id (x := (i : Int) + 1) (by omega) (by omega)]
  refine Ev.neg (by omega) (Ev.neg (by omega) (Ev.pos (by omega) (Ev.pos (by rw [mapR_len]; omega) (Ev.pos (by rw [mapR_len]; omega) ?_))))
  have e : mapR (plc m n) (i + 1) ++ [plc m n ((i : Int) + 1)] = mapR (plc m n) (i + 1 + 1) := by
   rw [mapR_succ (plc m n) (i + 1)]; rfl
  rw [e]
  exact ih (i + 1) (by omega)
end
theorem pure_HangSpreads (a b : Int) (ha : okB a) (hb : okB b) : ∃ k, cl6_HangSpreads.f k a b = some true := by
 obtain ⟨ha0, ha1⟩ := ha
 obtain ⟨hb0, hb1⟩ := hb
 refine Ev.rounds (g := fun k => cl6_HangSpreads.f k a b) ?_
 unfold cl6_HangSpreads.f
 have em : wrap64 (1 + (Int.tmod (wrap64 (a)) 60)) = 1 + a % 60 := by
  rw [wrap_id (x := a) (by omega) (by omega), Int.tmod_eq_emod_of_nonneg ha0, wrap_id (by omega) (by omega)]
 have m1 : 1 ≤ 1 + a % 60 := by omega
 have m2 : 1 + a % 60 ≤ 60 := by omega
 rw [em]
 generalize 1 + a % 60 = m at m1 m2
 have en : wrap64 (1 + (Int.tmod (wrap64 (b)) m)) = 1 + b % m := by
  have q1 := Int.emod_nonneg b (by omega : m ≠ 0)
  have q2 := Int.emod_lt_of_pos b (by omega : 0 < m)
  rw [wrap_id (x := b) (by omega) (by omega), Int.tmod_eq_emod_of_nonneg hb0, wrap_id (by omega) (by omega)]
 have n1 : 1 ≤ 1 + b % m := by have := Int.emod_nonneg b (by omega : m ≠ 0); omega
 have n2 : 1 + b % m ≤ m := by have := Int.emod_lt_of_pos b (by omega : 0 < m); omega
 rw [en]
 generalize 1 + b % m = n at n1 n2
 have t1 : tieE m n = 0 := by
  unfold tieE; rw [firstE_two]; unfold rangeE
  repeat' split
  all_goals first | rfl | omega
 have t2 : tieE m m = 0 := by
  unfold tieE; rw [firstE_two]; unfold rangeE
  repeat' split
  all_goals first | rfl | omega
 have T1 := hang_Ties_ev m n
 have T2 := hang_Ties_ev m m
 rw [if_pos t1] at T1
 rw [if_pos t2] at T2
 refine Ev.neg (by omega) (T1.bind (T2.bind (Ev.pos rfl (Ev.pos rfl (Ev.pos (by simp only [mapR_len]; omega) (Ev.pos (by simp only [mapR_len]; omega) ?_))))))
 simp only [mapR_len]
 rw [show ((n.toNat : Nat) : Int) = n by omega]
 have e0 : ([0] : List Int) = mapR (plc m n) (0 + 1) := by unfold mapR plc; simp
 rw [e0]
 exact sums_ev m1 m2 n1 n2 n.toNat 0 (by omega)
end Go.Proofs.YtppighiaffppkaaDoor.Pure
end
section
namespace Go.Proofs.YtppighiaffppkaaDoor.hangSpreads
open Go.ChangeShapes Go.WideShapes Go.ChangeAt Go.RowKit Go.Proofs.YtppighiaffppkaaDoor.R
set_option linter.unusedVariables false
set_option maxRecDepth 100000 in
theorem lifted (os : Os) (started : os.Started) (Hd : Type) (enc : TypeId × Value → Hd) :
  ReturnsInHanded {} Tryd.checked os 12 .any (fun w args => (Rows.hangSpreadsSpec.pre enc Tryd.prog Tryd.f12 [] false w args ∧ laidMetH Tryd.prog laid w) ∧ sizedMet enc Tryd.prog Tryd.f12 (OpenSpec.ofChange Rows.hangSpreadsSpec) false w args)
   (Rows.hangSpreadsSpec.post enc Tryd.prog Tryd.f12 false true false false) := by
 refine returnsInHanded_of_change_and (C := Tryd.checked) (X := fun w _ => laidMetH Tryd.prog laid w) (fun _ _ _ hh h => h.of_heap hh) own started (by kernel_rfl) Tryd.func12
  (ChangeSpec.witness_shaped (enc := enc) (C := Tryd.checked) (os := os) (X := fun w _ => laidMetH Tryd.prog laid w) false (World.doorLaid Tryd.prog 400 os) #[.int .u8 0, .int .u8 0] 8 rfl (World.shaped_of_RefB (by kernel_rfl) (by kernel_rfl)) (by kernel_rfl) (by kernel_rfl) (by kernel_rfl) (door_met os _)) ?_
 intro W base args ds gs before hval0 hW hcnd hsz0 hL _
 have hval : ∀ (j : Nat) t v, Tryd.f12.params[j]? = some t → args[j]? = some v → Value.okWide Tryd.prog W .any base t v := hval0
 have hW' := hW
 obtain ⟨p, q, hA0, hV, rfl, hfz, hnd⟩ := hW
 have hA : DataW.TrodAll enc Tryd.prog W 0 (fun _ => true) true Tryd.f12.params.toList args.toList ds p := hA0
 rw [Tryd.params12] at hA hval
 obtain ⟨v0, vs0, d0, ds0, p0, q0, hargs, rfl, rfl, h0, r0⟩ := trodAll_cons hA
 obtain ⟨v1, vs1, d1, ds1, p1, q1, rfl, rfl, rfl, h1, r1⟩ := trodAll_cons r0
 obtain ⟨rfl, rfl, rfl⟩ := trodAll_nil r1
 obtain rfl : args = #[v0, v1] := by cases args; simp_all
 obtain ⟨rfl, rfl⟩ := trodVars_none hV
 have k0 := h0
 have lt0 : ∀ x ∈ p0, x.block < W.heap.size := by obtain ⟨m, hm⟩ := k0; exact DataW.trod_lt m _ _ _ hm
 obtain ⟨a0, rfl, w0⟩ : ∃ a : Int, v0 = .int .u8 a ∧ okB a := by
  obtain ⟨a, rfl, _, _, _⟩ := open_int Tryd.underlying5 (hval 0 5 v0 rfl rfl) h0
  obtain ⟨fuel, hf⟩ := h0
  obtain ⟨b, e, w⟩ := cs5 (cs := [.int .u8 a]) hf
  cases e; exact ⟨a, rfl, w⟩
 have k1 := h1
 have lt1 : ∀ x ∈ p1, x.block < W.heap.size := by obtain ⟨m, hm⟩ := k1; exact DataW.trod_lt m _ _ _ hm
 obtain ⟨a1, rfl, w1⟩ : ∃ a : Int, v1 = .int .u8 a ∧ okB a := by
  obtain ⟨a, rfl, _, _, _⟩ := open_int Tryd.underlying5 (hval 1 5 v1 rfl rfl) h1
  obtain ⟨fuel, hf⟩ := h1
  obtain ⟨b, e, w⟩ := cs5 (cs := [.int .u8 a]) hf
  cases e; exact ⟨a, rfl, w⟩
 have hG : H.GH W := gh_of_laid hL
 clear hA0 hval0 hsz0 hL hcnd
 obtain ⟨k, hk⟩ := Pure.pure_HangSpreads a0 a1 w0 w1
 refine (H.cl6_HangSpreads.calls k a0 a1 true W hG  hk).mono fun e W' ⟨he, bel⟩ => ?_
 subst he
 exact ⟨_, rfl, _, _, _, [], _, [], hW', trodAll_mk1 (shut_bool Tryd.underlying4 _), (trodAll_cons_mk (Below.trod laidOut (by kernel_rfl) (of_decide_eq_true (by kernel_rfl)) k0 bel lt0) (trodAll_cons_mk (Below.trod laidOut (by kernel_rfl) (of_decide_eq_true (by kernel_rfl)) k1 bel lt1) trodAll_mk0)), rfl, bel.frame _, fun h => by cases h⟩
theorem over : Rows.hangSpreadsRow.holds Tryd.pinned (OpenSpec.ofChange Rows.hangSpreadsSpec) :=
 OpenClaim.holds_of_wide 12 Tryd.f12 rfl rfl rfl rfl rfl rfl rfl ⟨rfl, rfl, rfl, rfl, rfl⟩ rfl rfl rfl rfl rfl (by kernel_rfl) Tryd.func12 (by kernel_rfl)
  (of_decide_eq_true (by kernel_rfl)) (by unfold Func.isWrapper; first | (rw [if_pos (by decide +kernel)]; kernel_rfl) | (rw [if_neg (by decide +kernel)]; exact ⟨rfl, rfl⟩))
  (fun os started Hd enc _ => lifted os started Hd enc)
theorem fits : ∀ t : TypeId, t ∈ Tryd.f12.params → Tryd.prog.wantsStandIn t = false := by
 rw [Tryd.params12]
 intro t ht
 simp only [List.mem_toArray, List.mem_cons, List.not_mem_nil, or_false] at ht
 rcases ht with rfl | rfl
 ·exact (show Tryd.prog.wantsStandIn 5 = false by kernel_rfl)
 ·exact (show Tryd.prog.wantsStandIn 5 = false by kernel_rfl)
theorem card : Rows.HangSpreadsCardSaid :=
 Claim7.holds_tied_plain_at .later [] [.data] true (true, "bb9c8a1f3b87a99a73053614bf73ec5a74d01f458fba8a9eee33de806b476934") false
  over (fun _ h => by cases h) (by kernel_rfl) (fun _ h => by cases h) hangSpreads_row_tie rfl ⟨rfl, rfl⟩ (by kernel_rfl) rfl
  (fun f fn hf hfn => by
   obtain rfl : f = 12 := Option.some.inj ((show Tryd.prog.funcNamed "codend/codendlaw06.HangSpreads" = some 12 by kernel_rfl).symm.trans hf) |>.symm
   obtain rfl : fn = Tryd.f12 := (Option.some.inj (Tryd.func12.symm.trans hfn)).symm
   exact ⟨by kernel_rfl, fun j t ht => fits t (Array.mem_of_getElem? ht)⟩)
  (by kernel_rfl)
#print axioms card
end Go.Proofs.YtppighiaffppkaaDoor.hangSpreads
namespace Go.Proofs.YtppighiaffppkaaDoor
theorem hangSpreads_holds : Rows.HangSpreadsCardSaid := hangSpreads.card
end Go.Proofs.YtppighiaffppkaaDoor
end
