/- What the statement HangBills needs beyond the common part: walks of the functions that it calls, the plain law, the row and its card, part 1. Condition: the laid table hang.tens, as the card ties it. -/
import Derived.Test.YtppighiaffppkaaDoorZHangBills0
section
namespace Go.Proofs.YtppighiaffppkaaDoor.H
open Go.RowKit Go.Proofs.YtppighiaffppkaaDoorW.PrintWords Go.Proofs.YtppighiaffppkaaDoorW.PrintLast Go.Proofs.YtppighiaffppkaaDoorW.PrintMore
attribute [local go_sem] max2_int min2_int max_two min_two max_three min_three max_four min_four
set_option linter.unusedVariables false
set_option linter.unusedSimpArgs false
mutual
def cr6_CheckLines.l0 : Nat → List (S121) → List (S119) → Int → Option (Int)
 | 0, _, _, _ => none
 | k + 1, x0, x1, x5 => if x5 < (x1.length : Int) then (if 0 ≤ x5 then ((cr1_CheckRange.f ((rd_T119 x1 x5).f0) 0 100000).bind fun t547 => ((cr1_CheckRange.f ((rd_T119 x1 x5).f1) 0 100000).bind fun t549 => ((cr1_CheckRange.f ((rd_T119 x1 x5).f2) 1 100).bind fun t551 => ((cr1_First.f k (([t547, t549, t551] : List Int))).bind fun t555 => (if t555 = 0 then ((cr6_TwineAt.f k x0 ((rd_T119 x1 x5).f3)).bind fun t557 => (cr6_CheckLines.j1 k x0 x1 x5 t555 (decide (t557 < 0)))) else (cr6_CheckLines.j1 k x0 x1 x5 t555 false)))))) else (none)) else (some 0)
def cr6_CheckLines.j1 : Nat → List (S121) → List (S119) → Int → Int → Bool → Option (Int)
 | 0, _, _, _, _, _ => none
 | k + 1, x0, x1, x5, x6, x47 => if x47 = true then (some 10) else (if x6 = 0 then (cr6_CheckLines.l0 k x0 x1 (wrap64 (x5 + 1))) else (some x6))
end
def cr6_CheckLines.f (k : Nat) (l0 : List (S121)) (l1 : List (S119)) : Option (Int) := if (l1.length : Int) > 64 then (some 5) else (cr6_CheckLines.l0 k l0 l1 0)
def cr6_CheckLines.T6 : Bool × List (List Nat × List Nat) := (true, [([], []), ([], []), ([0, 1], [0, 1]), ([2], [2]), ([3], [3]), ([4], [4]), ([], []), ([], []), ([6, 7], [6, 7]), ([8], [8]), ([9], [9]), ([10, 5], [10]), ([], []), ([], []), ([12, 13], [12, 13]), ([14], [14]), ([15], [15]), ([16, 11], [16]), ([5, 11, 17], [5, 11, 17]), ([18, 17], [18]), ([19, 19, 0, 1, 2, 3, 4, 5, 6, 7, 8, 9, 10, 11, 12, 13, 14, 15, 16, 17, 18, 19], [19])])
def cr6_CheckLines.B6 : List Nat := [0, 0, 3, 7, 15, 31, 0, 0, 192, 448, 960, 2047, 0, 0, 12288, 28672, 61440, 131071, 262143, 524287, 1048575]
theorem cr6_CheckLines.tab6 : rtab .any (opsOf Tryd.f63 6) = cr6_CheckLines.T6 := by kernel_rfl
theorem cr6_CheckLines.bits6 : waitsOk cr6_CheckLines.T6.2 cr6_CheckLines.B6 = true := by kernel_rfl
set_option maxHeartbeats 8000000 in
set_option maxRecDepth 100000 in
theorem cr6_CheckLines.calls (k : Nat) (A0 : Option Addr) (c0 : Nat) (l0 : List (S121)) (A1 : Option Addr) (c1 : Nat) (l1 : List (S119)) (r : Int) (w : World) (hr0 : Kd.C k121 w A0 l0.length l0) (hc0 : l0.length ≤ c0) (hr1 : Kd.C k119 w A1 l1.length l1) (hc1 : l1.length ≤ c1) (h : cr6_CheckLines.f k l0 l1 = some r) :
  Calls Tryd.prog 63 #[.slice A0 l0.length c0, .slice A1 l1.length c1] w fun e w' => e = .returned (.int .i64 r) ∧ Below w.heap.size w w' := by
 have HR0 := Z0.mk hr0
 have HC0 := Z0.mk hc0
 clear hr0 hc0
 have HR1 := Z0.mk hr1
 have HC1 := Z0.mk hc1
 clear hr1 hc1
 have HB := Z0.mk (Below.refl w.heap.size w)
 have H : (if (l1.length : Int) > 64 then (some 5) else (cr6_CheckLines.l0 k l0 l1 0)) = some r := h
 clear h
 by_cases c3 : (l1.length : Int) > 64
 ·rw [if_pos c3] at H;have c3b0 : decide (64 < (l1.length : Int)) = true := decide_eq_true c3;have c3b1 : decide (64 < l1.length) = true := decide_eq_true (by omega);clear c3;obtain rfl := Option.some.inj H;go_enter Tryd.func63, Tryd.ntmps63;go_wp2
  go_ret
  exact ⟨by first | rfl | (simp [errW_none, errW_some] <;> rfl) | (simp [*, errW_none, errW_some] <;> rfl), by repeat (first | (with_reducible first | exact HB.out | apply bwA | apply bwN | apply bw1) | exact HB.out)⟩
 ·rw [if_neg c3] at H;have c3b0 : decide (64 < (l1.length : Int)) = false := decide_eq_false c3;have c3b1 : decide (64 < l1.length) = false := decide_eq_false (by omega);clear c3;have H' := Z0.mk H;clear H;go_enter Tryd.func63, Tryd.ntmps63;go_wp2
  go_loopg [5] k (fun kq v5 w' => ∃ (x5_1 : Int), v5 = .int .i64 x5_1 ∧ Z0 (cr6_CheckLines.l0 kq l0 l1 x5_1 = some r) ∧ Z0 (kq ≤ k) ∧ Z0 (Below w.heap.size w w'))
  case atStart => exact ⟨(0), (by first | rfl | (simp; done) | (simp [*]; done)), H', ⟨Nat.le_refl _⟩, ⟨by repeat (first | (with_reducible first | exact HB.out | apply bwA | apply bwN | apply bw1) | exact HB.out)⟩⟩
  case round =>
   clear H';try clear c1
   try clear p2
   try clear c3
   try clear c3b0
   try clear c3b1
   obtain ⟨x5_1, rfl, HA, HK1, HB⟩ := hrel;cases gk with
   | zero => exact absurd HA.out (by simp [cr6_CheckLines.l0])
   | succ k1 =>
    have H := HA.out;clear HA;simp only [cr6_CheckLines.l0] at H;by_cases c4 : x5_1 < (l1.length : Int)
    ·rw [if_pos c4] at H;have c4b0 : decide (x5_1 < (l1.length : Int)) = true := decide_eq_true c4;clear c4;by_cases c5 : 0 ≤ x5_1
     ·rw [if_pos c5] at H;have c5b0 : decide (0 ≤ x5_1) = true := decide_eq_true c5;clear c5;replace H := Option.bind_eq_some_iff.mp H
      obtain ⟨t547, A60, H⟩ := H;try dsimp only at H
      have A6 := Z0.mk A60;clear A60;replace H := Option.bind_eq_some_iff.mp H
      obtain ⟨t549, A70, H⟩ := H;try dsimp only at H
      have A7 := Z0.mk A70;clear A70;replace H := Option.bind_eq_some_iff.mp H
      obtain ⟨t551, A80, H⟩ := H;try dsimp only at H
      have A8 := Z0.mk A80;clear A80;obtain ⟨y552, hy552⟩ : ∃ y_ : List Int, y_ = (([t547, t549, t551] : List Int)) := ⟨_, rfl⟩;replace H : ((cr1_First.f k1 y552).bind fun t555 => (if t555 = 0 then ((cr6_TwineAt.f k1 l0 ((rd_T119 l1 x5_1).f3)).bind fun t557 => (cr6_CheckLines.j1 k1 l0 l1 x5_1 t555 (decide (t557 < 0)))) else (cr6_CheckLines.j1 k1 l0 l1 x5_1 t555 false))) = some r := by first | (rw [hy552]; with_reducible exact H) | (have H2_ := (Option.bind_some _ _).symm.trans H; rw [hy552]; with_reducible exact H2_) | (have H2_ := (Option.bind_some _ _).symm.trans H; with_reducible exact H2_) | with_reducible exact H | (rw [hy552]; exact H) | exact H
      have Ny552 := Z0.mk hy552;clear hy552;replace H := Option.bind_eq_some_iff.mp H
      obtain ⟨t555, A90, H⟩ := H;try dsimp only at H
      have A9 := Z0.mk A90;clear A90;have HC10 := Z0.mk H;clear H;try go_wp2
      have n0_ := Z0.mk (bw1 HB.out);clear HB;have HB := n0_;clear n0_;have p546 : 0 ≤ (x5_1 : Int) := of_decide_eq_true (by first | (with_reducible assumption) | assumption);have q546 : x5_1 < (l1.length : Int) := of_decide_eq_true (by first | (with_reducible assumption) | assumption);obtain ⟨ad546, e546, hx546_0, hx546_1, hx546_2, hx546_3⟩ := at_T119 HR1.out x5_1 p546 q546;have hw546_3 := hx546_3;have hw546_2 := hx546_2;have hw546_1 := hx546_1;have hw546_0 := hx546_0;cases e546;replace hx546_0 := (HB.out.cell (World.block_lt_of_cell? w _ hx546_0)).trans hx546_0
      replace hx546_1 := (HB.out.cell (World.block_lt_of_cell? w _ hx546_1)).trans hx546_1
      replace hx546_2 := (HB.out.cell (World.block_lt_of_cell? w _ hx546_2)).trans hx546_2
      replace hx546_3 := (HB.out.cell (World.block_lt_of_cell? w _ hx546_3)).trans hx546_3
      replace p546 := eq_true p546
      replace q546 := eq_true q546
      have p548 : 0 ≤ (x5_1 : Int) := of_decide_eq_true (by first | (with_reducible assumption) | assumption);have q548 : x5_1 < (l1.length : Int) := of_decide_eq_true (by first | (with_reducible assumption) | assumption);obtain ⟨ad548, e548, hx548_0, hx548_1, hx548_2, hx548_3⟩ := at_T119 HR1.out x5_1 p548 q548;have hw548_3 := hx548_3;have hw548_2 := hx548_2;have hw548_1 := hx548_1;have hw548_0 := hx548_0;obtain rfl : ad546 = ad548 := (by injection e548);replace hx548_0 := (HB.out.cell (World.block_lt_of_cell? w _ hx548_0)).trans hx548_0
      replace hx548_1 := (HB.out.cell (World.block_lt_of_cell? w _ hx548_1)).trans hx548_1
      replace hx548_2 := (HB.out.cell (World.block_lt_of_cell? w _ hx548_2)).trans hx548_2
      replace hx548_3 := (HB.out.cell (World.block_lt_of_cell? w _ hx548_3)).trans hx548_3
      replace p548 := eq_true p548
      replace q548 := eq_true q548
      have p550 : 0 ≤ (x5_1 : Int) := of_decide_eq_true (by first | (with_reducible assumption) | assumption);have q550 : x5_1 < (l1.length : Int) := of_decide_eq_true (by first | (with_reducible assumption) | assumption);obtain ⟨ad550, e550, hx550_0, hx550_1, hx550_2, hx550_3⟩ := at_T119 HR1.out x5_1 p550 q550;have hw550_3 := hx550_3;have hw550_2 := hx550_2;have hw550_1 := hx550_1;have hw550_0 := hx550_0;obtain rfl : ad546 = ad550 := (by injection e550);replace hx550_0 := (HB.out.cell (World.block_lt_of_cell? w _ hx550_0)).trans hx550_0
      replace hx550_1 := (HB.out.cell (World.block_lt_of_cell? w _ hx550_1)).trans hx550_1
      replace hx550_2 := (HB.out.cell (World.block_lt_of_cell? w _ hx550_2)).trans hx550_2
      replace hx550_3 := (HB.out.cell (World.block_lt_of_cell? w _ hx550_3)).trans hx550_3
      replace p550 := eq_true p550
      replace q550 := eq_true q550
      refine start_ (n := 21) (S := fun w' => w'.cell? (ad546.add ((x5_1).toNat * 4)) = some (.int .i64 ((rd_T119 l1 x5_1).f0)) ∧ w'.cell? ⟨(ad546.add ((x5_1).toNat * 4)).block, (ad546.add ((x5_1).toNat * 4)).off + 1, none⟩ = some (.int .i64 ((rd_T119 l1 x5_1).f1)) ∧ w'.cell? ⟨(ad546.add ((x5_1).toNat * 4)).block, (ad546.add ((x5_1).toNat * 4)).off + 2, none⟩ = some (.int .i64 ((rd_T119 l1 x5_1).f2)) ∧ w'.cell? ⟨(ad546.add ((x5_1).toNat * 4)).block, (ad546.add ((x5_1).toNat * 4)).off + 3, none⟩ = some (.string ((rd_T119 l1 x5_1).f3)) ∧ w'.cell? (ad546.add ((x5_1).toNat * 4)) = some (.int .i64 ((rd_T119 l1 x5_1).f0)) ∧ w'.cell? ⟨(ad546.add ((x5_1).toNat * 4)).block, (ad546.add ((x5_1).toNat * 4)).off + 1, none⟩ = some (.int .i64 ((rd_T119 l1 x5_1).f1)) ∧ w'.cell? ⟨(ad546.add ((x5_1).toNat * 4)).block, (ad546.add ((x5_1).toNat * 4)).off + 2, none⟩ = some (.int .i64 ((rd_T119 l1 x5_1).f2)) ∧ w'.cell? ⟨(ad546.add ((x5_1).toNat * 4)).block, (ad546.add ((x5_1).toNat * 4)).off + 3, none⟩ = some (.string ((rd_T119 l1 x5_1).f3)) ∧ w'.cell? (ad546.add ((x5_1).toNat * 4)) = some (.int .i64 ((rd_T119 l1 x5_1).f0)) ∧ w'.cell? ⟨(ad546.add ((x5_1).toNat * 4)).block, (ad546.add ((x5_1).toNat * 4)).off + 1, none⟩ = some (.int .i64 ((rd_T119 l1 x5_1).f1)) ∧ w'.cell? ⟨(ad546.add ((x5_1).toNat * 4)).block, (ad546.add ((x5_1).toNat * 4)).off + 2, none⟩ = some (.int .i64 ((rd_T119 l1 x5_1).f2)) ∧ w'.cell? ⟨(ad546.add ((x5_1).toNat * 4)).block, (ad546.add ((x5_1).toNat * 4)).off + 3, none⟩ = some (.string ((rd_T119 l1 x5_1).f3))) (ds := []) #[false, false, false, false, false, false, false, false, false, false, false, false, false, false, false, false, false, false, false, false, false] (by kernel_rfl) rfl rfl ⟨((HB.out.cell (World.block_lt_of_cell? w _ hw546_0)).trans hw546_0), ((HB.out.cell (World.block_lt_of_cell? w _ hw546_1)).trans hw546_1), ((HB.out.cell (World.block_lt_of_cell? w _ hw546_2)).trans hw546_2), ((HB.out.cell (World.block_lt_of_cell? w _ hw546_3)).trans hw546_3), ((HB.out.cell (World.block_lt_of_cell? w _ hw548_0)).trans hw548_0), ((HB.out.cell (World.block_lt_of_cell? w _ hw548_1)).trans hw548_1), ((HB.out.cell (World.block_lt_of_cell? w _ hw548_2)).trans hw548_2), ((HB.out.cell (World.block_lt_of_cell? w _ hw548_3)).trans hw548_3), ((HB.out.cell (World.block_lt_of_cell? w _ hw550_0)).trans hw550_0), ((HB.out.cell (World.block_lt_of_cell? w _ hw550_1)).trans hw550_1), ((HB.out.cell (World.block_lt_of_cell? w _ hw550_2)).trans hw550_2), ((HB.out.cell (World.block_lt_of_cell? w _ hw550_3)).trans hw550_3)⟩ (fun hHd => ?_); refine with_tabW cr6_CheckLines.tab6 cr6_CheckLines.bits6 (fun HT_ HW_ => ?_);generalize wr.drew = w11 at HB hx546_0 hx546_1 hx546_2 hx546_3 hx548_0 hx548_1 hx548_2 hx548_3 hx550_0 hx550_1 hx550_2 hx550_3 hHd ⊢;refine pure_ (i := 0) (N := some 16) (v := ?_) (a' := ?_) #[true, false, false, false, false, false, false, false, false, false, false, false, false, false, false, false, false, false, false, false, false] rfl rfl (any_of HT_.out (by kernel_rfl)) (fun _ _ _ h => h) (Or.inl ⟨by rfl, ?_⟩) ?_ ?_;rotate_left; (intro w'; go_simp; with_reducible rfl); rotate_left; (simp only [Act.put, List.setIfInBounds_toArray, List.set_cons_zero, List.set_cons_succ, i64_w, i32_w]; rfl);refine pure_ (i := 1) (N := some 17) (v := ?_) (a' := ?_) #[true, true, false, false, false, false, false, false, false, false, false, false, false, false, false, false, false, false, false, false, false] rfl rfl (any_of HT_.out (by kernel_rfl)) (fun _ _ _ h => h) (Or.inl ⟨by rfl, ?_⟩) ?_ ?_;rotate_left; (intro w'; go_simp; with_reducible rfl); rotate_left; (simp only [Act.put, List.setIfInBounds_toArray, List.set_cons_zero, List.set_cons_succ, i64_w, i32_w]; rfl);refine pure_ (i := 2) (N := some 18) (v := ?_) (a' := ?_) #[true, true, true, false, false, false, false, false, false, false, false, false, false, false, false, false, false, false, false, false, false] rfl rfl (any_of HT_.out (by kernel_rfl)) (fun _ _ _ h => h) (Or.inl ⟨by rfl, ?_⟩) ?_ ?_;rotate_left; (intro w'; go_simp; with_reducible rfl); rotate_left; (simp only [Act.put, List.setIfInBounds_toArray, List.set_cons_zero, List.set_cons_succ, i64_w, i32_w]; rfl);refine pure_ (i := 3) (N := some 19) (v := ?_) (a' := ?_) #[true, true, true, true, false, false, false, false, false, false, false, false, false, false, false, false, false, false, false, false, false] rfl rfl (any_of HT_.out (by kernel_rfl)) (fun _ _ _ h => h) (Or.inl ⟨by rfl, ?_⟩) ?_ ?_;rotate_left; (intro w'; go_simp; with_reducible rfl); rotate_left; (simp only [Act.put, List.setIfInBounds_toArray, List.set_cons_zero, List.set_cons_succ, i64_w, i32_w]; rfl);refine pure_ (i := 6) (N := some 22) (v := ?_) (a' := ?_) #[true, true, true, true, false, false, true, false, false, false, false, false, false, false, false, false, false, false, false, false, false] rfl rfl (any_of HT_.out (by kernel_rfl)) (fun _ _ _ h => h) (Or.inl ⟨by rfl, ?_⟩) ?_ ?_;rotate_left; (intro w'; go_simp; with_reducible rfl); rotate_left; (simp only [Act.put, List.setIfInBounds_toArray, List.set_cons_zero, List.set_cons_succ, i64_w, i32_w]; rfl);refine pure_ (i := 7) (N := some 23) (v := ?_) (a' := ?_) #[true, true, true, true, false, false, true, true, false, false, false, false, false, false, false, false, false, false, false, false, false] rfl rfl (any_of HT_.out (by kernel_rfl)) (fun _ _ _ h => h) (Or.inl ⟨by rfl, ?_⟩) ?_ ?_;rotate_left; (intro w'; go_simp; with_reducible rfl); rotate_left; (simp only [Act.put, List.setIfInBounds_toArray, List.set_cons_zero, List.set_cons_succ, i64_w, i32_w]; rfl);refine pure_ (i := 8) (N := some 24) (v := ?_) (a' := ?_) #[true, true, true, true, false, false, true, true, true, false, false, false, false, false, false, false, false, false, false, false, false] rfl rfl (any_of HT_.out (by kernel_rfl)) (fun _ _ _ h => h) (Or.inl ⟨by rfl, ?_⟩) ?_ ?_;rotate_left; (intro w'; go_simp; with_reducible rfl); rotate_left; (simp only [Act.put, List.setIfInBounds_toArray, List.set_cons_zero, List.set_cons_succ, i64_w, i32_w]; rfl)
      refine pure_ (i := 9) (N := some 25) (v := ?_) (a' := ?_) #[true, true, true, true, false, false, true, true, true, true, false, false, false, false, false, false, false, false, false, false, false] rfl rfl (any_of HT_.out (by kernel_rfl)) (fun _ _ _ h => h) (Or.inl ⟨by rfl, ?_⟩) ?_ ?_;rotate_left; (intro w'; go_simp; with_reducible rfl); rotate_left; (simp only [Act.put, List.setIfInBounds_toArray, List.set_cons_zero, List.set_cons_succ, i64_w, i32_w]; rfl);refine pure_ (i := 12) (N := some 28) (v := ?_) (a' := ?_) #[true, true, true, true, false, false, true, true, true, true, false, false, true, false, false, false, false, false, false, false, false] rfl rfl (any_of HT_.out (by kernel_rfl)) (fun _ _ _ h => h) (Or.inl ⟨by rfl, ?_⟩) ?_ ?_;rotate_left; (intro w'; go_simp; with_reducible rfl); rotate_left; (simp only [Act.put, List.setIfInBounds_toArray, List.set_cons_zero, List.set_cons_succ, i64_w, i32_w]; rfl);refine pure_ (i := 13) (N := some 29) (v := ?_) (a' := ?_) #[true, true, true, true, false, false, true, true, true, true, false, false, true, true, false, false, false, false, false, false, false] rfl rfl (any_of HT_.out (by kernel_rfl)) (fun _ _ _ h => h) (Or.inl ⟨by rfl, ?_⟩) ?_ ?_;rotate_left; (intro w'; go_simp; with_reducible rfl); rotate_left; (simp only [Act.put, List.setIfInBounds_toArray, List.set_cons_zero, List.set_cons_succ, i64_w, i32_w]; rfl);refine pure_ (i := 14) (N := some 30) (v := ?_) (a' := ?_) #[true, true, true, true, false, false, true, true, true, true, false, false, true, true, true, false, false, false, false, false, false] rfl rfl (any_of HT_.out (by kernel_rfl)) (fun _ _ _ h => h) (Or.inl ⟨by rfl, ?_⟩) ?_ ?_;rotate_left; (intro w'; go_simp; with_reducible rfl); rotate_left; (simp only [Act.put, List.setIfInBounds_toArray, List.set_cons_zero, List.set_cons_succ, i64_w, i32_w]; rfl);refine pure_ (i := 15) (N := some 31) (v := ?_) (a' := ?_) #[true, true, true, true, false, false, true, true, true, true, false, false, true, true, true, true, false, false, false, false, false] rfl rfl (any_of HT_.out (by kernel_rfl)) (fun _ _ _ h => h) (Or.inl ⟨by rfl, ?_⟩) ?_ ?_;rotate_left; (intro w'; go_simp; with_reducible rfl); rotate_left; (simp only [Act.put, List.setIfInBounds_toArray, List.set_cons_zero, List.set_cons_succ, i64_w, i32_w]; rfl);refine take_ (i := 4) (N := some 20) (v := ?_) (a' := ?_) #[true, true, true, true, true, false, true, true, true, true, false, false, true, true, true, true, false, false, false, false, false] rfl rfl (take_ofW HT_.out HW_.out (by kernel_rfl)) (fun _ _ _ h => h) (Or.inl ⟨by rfl, ?_⟩) hHd ?_ ?_;rotate_left
      ·rintro w' ⟨s0, s1, s2, s3, s4, s5, s6, s7, s8, s9, s10, s11⟩;go_simp
       with_reducible rfl
      rotate_left
      ·simp only [Act.put, List.setIfInBounds_toArray, List.set_cons_zero, List.set_cons_succ, i64_w, i32_w];rfl
      refine take_ (i := 10) (N := some 26) (v := ?_) (a' := ?_) #[true, true, true, true, true, false, true, true, true, true, true, false, true, true, true, true, false, false, false, false, false] rfl rfl (take_ofW HT_.out HW_.out (by kernel_rfl)) (fun _ _ _ h => h) (Or.inl ⟨by rfl, ?_⟩) hHd ?_ ?_;rotate_left
      ·rintro w' ⟨s0, s1, s2, s3, s4, s5, s6, s7, s8, s9, s10, s11⟩;go_simp
       with_reducible rfl
      rotate_left
      ·simp only [Act.put, List.setIfInBounds_toArray, List.set_cons_zero, List.set_cons_succ, i64_w, i32_w];rfl
      refine take_ (i := 16) (N := some 32) (v := ?_) (a' := ?_) #[true, true, true, true, true, false, true, true, true, true, true, false, true, true, true, true, true, false, false, false, false] rfl rfl (take_ofW HT_.out HW_.out (by kernel_rfl)) (fun _ _ _ h => h) (Or.inl ⟨by rfl, ?_⟩) hHd ?_ ?_;rotate_left
      ·rintro w' ⟨s0, s1, s2, s3, s4, s5, s6, s7, s8, s9, s10, s11⟩;go_simp
       with_reducible rfl
      rotate_left
      ·simp only [Act.put, List.setIfInBounds_toArray, List.set_cons_zero, List.set_cons_succ, i64_w, i32_w];rfl
      refine one_ (i := 5) (N := some 21) #[true, true, true, true, true, true, true, true, true, true, true, false, true, true, true, true, true, false, false, false, false] rfl rfl (one_of HT_.out (by kernel_rfl)) (by decide) (fun K hK => ?_);refine goes_ Tryd.func27 (by kernel_rfl) rfl #[.int .i64 ((rd_T119 l1 x5_1).f0), .int .i64 0, .int .i64 100000] (by rfl) rfl rfl (by (try simp only [List.map_toArray, List.map_cons, List.map_nil]) <;> rfl) ?_;with_reducible refine (cr1_CheckRange.calls ((rd_T119 l1 x5_1).f0) 0 100000 t547 _ A6.out).mono ?_
      rintro e w' ⟨rfl, ⟨nd, rfl⟩⟩;refine ⟨_, rfl, ?_⟩;refine hK.out _ _ ⟨((HB.out.cell (World.block_lt_of_cell? w _ hw546_0)).trans hw546_0), ((HB.out.cell (World.block_lt_of_cell? w _ hw546_1)).trans hw546_1), ((HB.out.cell (World.block_lt_of_cell? w _ hw546_2)).trans hw546_2), ((HB.out.cell (World.block_lt_of_cell? w _ hw546_3)).trans hw546_3), ((HB.out.cell (World.block_lt_of_cell? w _ hw548_0)).trans hw548_0), ((HB.out.cell (World.block_lt_of_cell? w _ hw548_1)).trans hw548_1), ((HB.out.cell (World.block_lt_of_cell? w _ hw548_2)).trans hw548_2), ((HB.out.cell (World.block_lt_of_cell? w _ hw548_3)).trans hw548_3), ((HB.out.cell (World.block_lt_of_cell? w _ hw550_0)).trans hw550_0), ((HB.out.cell (World.block_lt_of_cell? w _ hw550_1)).trans hw550_1), ((HB.out.cell (World.block_lt_of_cell? w _ hw550_2)).trans hw550_2), ((HB.out.cell (World.block_lt_of_cell? w _ hw550_3)).trans hw550_3)⟩ (fun hHd => ?_);clear hK K;refine norm_ (a' := ?_) ?_ ?_;rotate_left
      ·show Act.put _ (some 21) _ = _
       simp only [Act.put, List.setIfInBounds_toArray, List.set_cons_zero, List.set_cons_succ, i64_w, i32_w];rfl
      refine one_ (i := 11) (N := some 27) #[true, true, true, true, true, true, true, true, true, true, true, true, true, true, true, true, true, false, false, false, false] rfl rfl (one_of HT_.out (by kernel_rfl)) (by decide) (fun K hK => ?_);refine goes_ Tryd.func27 (by kernel_rfl) rfl #[.int .i64 ((rd_T119 l1 x5_1).f1), .int .i64 0, .int .i64 100000] (by rfl) rfl rfl (by (try simp only [List.map_toArray, List.map_cons, List.map_nil]) <;> rfl) ?_;with_reducible refine (cr1_CheckRange.calls ((rd_T119 l1 x5_1).f1) 0 100000 t549 _ A7.out).mono ?_
      rintro e w' ⟨rfl, ⟨nd, rfl⟩⟩;refine ⟨_, rfl, ?_⟩;refine hK.out _ _ ⟨((HB.out.cell (World.block_lt_of_cell? w _ hw546_0)).trans hw546_0), ((HB.out.cell (World.block_lt_of_cell? w _ hw546_1)).trans hw546_1), ((HB.out.cell (World.block_lt_of_cell? w _ hw546_2)).trans hw546_2), ((HB.out.cell (World.block_lt_of_cell? w _ hw546_3)).trans hw546_3), ((HB.out.cell (World.block_lt_of_cell? w _ hw548_0)).trans hw548_0), ((HB.out.cell (World.block_lt_of_cell? w _ hw548_1)).trans hw548_1), ((HB.out.cell (World.block_lt_of_cell? w _ hw548_2)).trans hw548_2), ((HB.out.cell (World.block_lt_of_cell? w _ hw548_3)).trans hw548_3), ((HB.out.cell (World.block_lt_of_cell? w _ hw550_0)).trans hw550_0), ((HB.out.cell (World.block_lt_of_cell? w _ hw550_1)).trans hw550_1), ((HB.out.cell (World.block_lt_of_cell? w _ hw550_2)).trans hw550_2), ((HB.out.cell (World.block_lt_of_cell? w _ hw550_3)).trans hw550_3)⟩ (fun hHd => ?_);clear hK K;refine norm_ (a' := ?_) ?_ ?_;rotate_left
      ·show Act.put _ (some 27) _ = _
       simp only [Act.put, List.setIfInBounds_toArray, List.set_cons_zero, List.set_cons_succ, i64_w, i32_w];rfl
      refine one_ (i := 17) (N := some 33) #[true, true, true, true, true, true, true, true, true, true, true, true, true, true, true, true, true, true, false, false, false] rfl rfl (one_of HT_.out (by kernel_rfl)) (by decide) (fun K hK => ?_);refine goes_ Tryd.func27 (by kernel_rfl) rfl #[.int .i64 ((rd_T119 l1 x5_1).f2), .int .i64 1, .int .i64 100] (by rfl) rfl rfl (by (try simp only [List.map_toArray, List.map_cons, List.map_nil]) <;> rfl) ?_;with_reducible refine (cr1_CheckRange.calls ((rd_T119 l1 x5_1).f2) 1 100 t551 _ A8.out).mono ?_
      rintro e w' ⟨rfl, ⟨nd, rfl⟩⟩;refine ⟨_, rfl, ?_⟩;refine hK.out _ _ ⟨((HB.out.cell (World.block_lt_of_cell? w _ hw546_0)).trans hw546_0), ((HB.out.cell (World.block_lt_of_cell? w _ hw546_1)).trans hw546_1), ((HB.out.cell (World.block_lt_of_cell? w _ hw546_2)).trans hw546_2), ((HB.out.cell (World.block_lt_of_cell? w _ hw546_3)).trans hw546_3), ((HB.out.cell (World.block_lt_of_cell? w _ hw548_0)).trans hw548_0), ((HB.out.cell (World.block_lt_of_cell? w _ hw548_1)).trans hw548_1), ((HB.out.cell (World.block_lt_of_cell? w _ hw548_2)).trans hw548_2), ((HB.out.cell (World.block_lt_of_cell? w _ hw548_3)).trans hw548_3), ((HB.out.cell (World.block_lt_of_cell? w _ hw550_0)).trans hw550_0), ((HB.out.cell (World.block_lt_of_cell? w _ hw550_1)).trans hw550_1), ((HB.out.cell (World.block_lt_of_cell? w _ hw550_2)).trans hw550_2), ((HB.out.cell (World.block_lt_of_cell? w _ hw550_3)).trans hw550_3)⟩ (fun hHd => ?_);clear hK K;refine norm_ (a' := ?_) ?_ ?_;rotate_left
      ·show Act.put _ (some 33) _ = _
       simp only [Act.put, List.setIfInBounds_toArray, List.set_cons_zero, List.set_cons_succ, i64_w, i32_w];rfl
      refine one_ (i := 18) (N := some 34) #[true, true, true, true, true, true, true, true, true, true, true, true, true, true, true, true, true, true, true, false, false] rfl rfl (one_of HT_.out (by kernel_rfl)) (by decide) (fun K hK => ?_);refine Kd.R_lit_step (Kd.int .i64) _ 3 ?hg (N := 34) ?hd (xs := ([t547, t549, t551] : List Int)) (inner := [.int .i64 t547, .int .i64 t549, .int .i64 t551]) (ok := fun _ => True) (okp := fun _ => True) ?hr ?hp (fun _ hk => hk) trivial (Below.refl _ _) (Nat.le_refl _) (by simp) ?_; (case hd => rfl); (case hg => rfl); (case hr => first | (go_simp; done) | (go_simp; rfl)); (case hp => exact (Reps.one (show Kd.M (Kd.int .i64) _ _ _ t547 [.int .i64 t547] from rfl) (Reps.one (show Kd.M (Kd.int .i64) _ _ _ t549 [.int .i64 t549] from rfl) (Reps.one (show Kd.M (Kd.int .i64) _ _ _ t551 [.int .i64 t551] from rfl) (Reps.none _ _)))));intro v553 w12 ho13 hb hg_ hnew_;clear hg_ hnew_;(first | rw [← Ny552.out] at ho13 | (simp only [Int.reduceToNat] at ho13; rw [← Ny552.out] at ho13))
      have n0_ := Z0.mk (Kd.R_lower ho13 (bwZ (by repeat (first | (with_reducible first | exact HB.out | apply bwA | apply bwN | apply bw1) | exact HB.out))));have n1_ := Z0.mk (bwT (by repeat (first | (with_reducible first | exact HB.out | apply bwA | apply bwN | apply bw1) | exact HB.out)) hb);clear HB;have HO554 := n0_;have HB := n1_;clear n0_ n1_;clear hb ho13;obtain ⟨Ao14, co14, eo14⟩ := Kd.R_slice HO554.out;(first | subst eo14 | (injection eo14 with f1_ f2_ f3_; have f4_ := f1_.symm; have f5_ := f3_.symm; clear f1_ f2_ f3_; subst f4_; subst f5_))
      refine hK.out _ _ ⟨((HB.out.cell (World.block_lt_of_cell? w _ hw546_0)).trans hw546_0), ((HB.out.cell (World.block_lt_of_cell? w _ hw546_1)).trans hw546_1), ((HB.out.cell (World.block_lt_of_cell? w _ hw546_2)).trans hw546_2), ((HB.out.cell (World.block_lt_of_cell? w _ hw546_3)).trans hw546_3), ((HB.out.cell (World.block_lt_of_cell? w _ hw548_0)).trans hw548_0), ((HB.out.cell (World.block_lt_of_cell? w _ hw548_1)).trans hw548_1), ((HB.out.cell (World.block_lt_of_cell? w _ hw548_2)).trans hw548_2), ((HB.out.cell (World.block_lt_of_cell? w _ hw548_3)).trans hw548_3), ((HB.out.cell (World.block_lt_of_cell? w _ hw550_0)).trans hw550_0), ((HB.out.cell (World.block_lt_of_cell? w _ hw550_1)).trans hw550_1), ((HB.out.cell (World.block_lt_of_cell? w _ hw550_2)).trans hw550_2), ((HB.out.cell (World.block_lt_of_cell? w _ hw550_3)).trans hw550_3)⟩ (fun hHd => ?_);clear hK K;refine norm_ (a' := ?_) ?_ ?_;rotate_left
      ·show Act.put _ (some 34) _ = _
       simp only [Act.put, List.setIfInBounds_toArray, List.set_cons_zero, List.set_cons_succ, i64_w, i32_w];rfl
      refine one_ (i := 19) (N := some 35) #[true, true, true, true, true, true, true, true, true, true, true, true, true, true, true, true, true, true, true, true, false] rfl rfl (one_of HT_.out (by kernel_rfl)) (by decide) (fun K hK => ?_);refine goes_ Tryd.func26 (by kernel_rfl) rfl #[.slice Ao14 y552.length co14] (by rfl) rfl rfl (by (try simp only [List.map_toArray, List.map_cons, List.map_nil]) <;> rfl) ?_;with_reducible refine (cr1_First.calls k1 _ _ y552 t555 _ ?side1 ?side2 A9.out).mono ?_
      (case side1 => repeat (first | exact (Kd.R_reads' HO554.out).2.2 | (with_reducible refine Kd.C_alloc ?_ _) | (with_reducible refine Kd.C_drewN ?_ _) | (with_reducible refine Kd.C_drew ?_)))
      (case side2 => exact (Kd.R_reads' HO554.out).2.1)
      rintro e w' ⟨rfl, ⟨nd, rfl⟩⟩;refine ⟨_, rfl, ?_⟩;refine hK.out _ _ ⟨((HB.out.cell (World.block_lt_of_cell? w _ hw546_0)).trans hw546_0), ((HB.out.cell (World.block_lt_of_cell? w _ hw546_1)).trans hw546_1), ((HB.out.cell (World.block_lt_of_cell? w _ hw546_2)).trans hw546_2), ((HB.out.cell (World.block_lt_of_cell? w _ hw546_3)).trans hw546_3), ((HB.out.cell (World.block_lt_of_cell? w _ hw548_0)).trans hw548_0), ((HB.out.cell (World.block_lt_of_cell? w _ hw548_1)).trans hw548_1), ((HB.out.cell (World.block_lt_of_cell? w _ hw548_2)).trans hw548_2), ((HB.out.cell (World.block_lt_of_cell? w _ hw548_3)).trans hw548_3), ((HB.out.cell (World.block_lt_of_cell? w _ hw550_0)).trans hw550_0), ((HB.out.cell (World.block_lt_of_cell? w _ hw550_1)).trans hw550_1), ((HB.out.cell (World.block_lt_of_cell? w _ hw550_2)).trans hw550_2), ((HB.out.cell (World.block_lt_of_cell? w _ hw550_3)).trans hw550_3)⟩ (fun hHd => ?_);clear hK K;refine norm_ (a' := ?_) ?_ ?_;rotate_left
      ·show Act.put _ (some 35) _ = _
       simp only [Act.put, List.setIfInBounds_toArray, List.set_cons_zero, List.set_cons_succ, i64_w, i32_w];rfl
      refine pure_ (i := 20) (N := some 6) (v := ?_) (a' := ?_) #[true, true, true, true, true, true, true, true, true, true, true, true, true, true, true, true, true, true, true, true, true] rfl rfl (any_of HT_.out (by kernel_rfl)) (fun _ _ _ h => h) (Or.inl ⟨by rfl, ?_⟩) ?_ ?_;rotate_left; (intro w'; go_simp; with_reducible rfl); rotate_left; (simp only [Act.put, List.setIfInBounds_toArray, List.set_cons_zero, List.set_cons_succ, i64_w, i32_w]; rfl);refine done_ (done_of HT_.out (by kernel_rfl)) ?_;go_upto_region 7 with (fail)
      go_cut [47] (fun v47 wc => ∃ (kq : Nat) (x47_9 : Bool), v47 = .bool x47_9 ∧ Z0 (cr6_CheckLines.j1 kq l0 l1 x5_1 t555 x47_9 = some r) ∧ Z0 (kq ≤ k1) ∧ Z0 (Below w.heap.size w wc))
      case first =>
       have H := HC10.out;clear HC10;by_cases c15 : t555 = 0
       ·rw [if_pos c15] at H;have c15b0 : (t555 == 0) = true := beq_iff_eq.mpr c15;have c15b1 : (t555 != 0) = false := bne_eq_false_iff_eq.mpr c15;clear c15;(first | rw [c15b0] | (simp only [i64_w, i32_w]; rw [c15b0]) | skip)
        replace H := Option.bind_eq_some_iff.mp H
        obtain ⟨t557, A160, H⟩ := H;try dsimp only at H
        have A16 := Z0.mk A160;clear A160;have H' := Z0.mk H;clear H;have p556 : 0 ≤ (x5_1 : Int) := of_decide_eq_true (by first | (with_reducible assumption) | assumption);have q556 : x5_1 < (l1.length : Int) := of_decide_eq_true (by first | (with_reducible assumption) | assumption);obtain ⟨ad556, e556, hx556_0, hx556_1, hx556_2, hx556_3⟩ := at_T119 HR1.out x5_1 p556 q556;obtain rfl : ad546 = ad556 := (by injection e556);replace hx556_0 := (HB.out.cell (World.block_lt_of_cell? w _ hx556_0)).trans hx556_0
        replace hx556_1 := (HB.out.cell (World.block_lt_of_cell? w _ hx556_1)).trans hx556_1
        replace hx556_2 := (HB.out.cell (World.block_lt_of_cell? w _ hx556_2)).trans hx556_2
        replace hx556_3 := (HB.out.cell (World.block_lt_of_cell? w _ hx556_3)).trans hx556_3
        replace p556 := eq_true p556
        replace q556 := eq_true q556
        go_wp2_with (first | (go_at_call 88; (with_reducible refine (cr6_TwineAt.calls k1 _ _ l0 ((rd_T119 l1 x5_1).f3) t557 _ ?side1 ?side2 A16.out).mono ?_); (case side1 => repeat (first | exact (Kd.C_below HR0.out HB.out) | (with_reducible refine Kd.C_alloc ?_ _) | (with_reducible refine Kd.C_drewN ?_ _) | (with_reducible refine Kd.C_drew ?_))); (case side2 => exact HC0.out); rintro e w' ⟨rfl, ⟨nd, rfl⟩⟩))
        go_meet
        case rel => exact ⟨_, (decide (t557 < 0)), (by first | rfl | (simp; done) | (simp [*]; done)), H', ⟨by have := HK1.out; first | omega | exact Nat.le_refl _⟩, ⟨by repeat (first | (with_reducible first | exact HB.out | apply bwA | apply bwN | apply bw1) | exact HB.out)⟩⟩
       ·rw [if_neg c15] at H;have c15b0 : (t555 == 0) = false := beq_eq_false_iff_ne.mpr c15;have c15b1 : (t555 != 0) = true := bne_iff_ne.mpr c15;(first | rw [c15b0] | (simp only [i64_w, i32_w]; rw [c15b0]) | skip)
        have H' := Z0.mk H;clear H;go_wp2
        go_meet
        case rel => exact ⟨_, (false), (by first | rfl | (simp; done) | (simp [*]; done)), H', ⟨by have := HK1.out; first | omega | exact Nat.le_refl _⟩, ⟨by repeat (first | (with_reducible first | exact HB.out | apply bwA | apply bwN | apply bw1) | exact HB.out)⟩⟩
      case rest =>
       clear HC10;try clear c1
       try clear c2
       try clear p2
       try clear c3
       try clear c3b0
       try clear c3b1
       try clear c4
       try clear c4b0
       try clear c5
       try clear c5b0
       try clear p5
       try clear q5
       try clear hx5
       try clear c6
       try clear c15
       try clear c15b0
       try clear c15b1
       try clear hx546_0
       try clear hx546_1
       try clear hx546_2
       try clear hx546_3
       try clear hx548_0
       try clear hx548_1
       try clear hx548_2
       try clear hx548_3
       try clear hx550_0
       try clear hx550_1
       try clear hx550_2
       try clear hx550_3
       try clear hx556_0
       try clear hx556_1
       try clear hx556_2
       try clear hx556_3
       try clear p2
       try clear p546
       try clear p548
       try clear p550
       try clear p556
       try clear q546
       try clear q548
       try clear q550
       try clear q556
       obtain ⟨kq, x47_9, rfl, HA, HJ9, HB⟩ := hcut;cases kq with
       | zero => exact absurd HA.out (by simp [cr6_CheckLines.j1])
       | succ kj9 =>
        have H := HA.out;clear HA;simp only [cr6_CheckLines.j1] at H;by_cases c17 : x47_9 = true
        ·subst c17;have H1 : (some 10) = some r := by rw [if_pos rfl] at H; exact H
         clear H;have H := H1;clear H1;obtain rfl := Option.some.inj H;go_wp2
         go_ret
         exact ⟨by first | rfl | (simp [errW_none, errW_some] <;> rfl) | (simp [*, errW_none, errW_some] <;> rfl), by repeat (first | (with_reducible first | exact HB.out | apply bwA | apply bwN | apply bw1) | exact HB.out)⟩
        ·replace c17 := Bool.eq_false_iff.mpr c17
         subst c17;have H1 : (if t555 = 0 then (cr6_CheckLines.l0 kj9 l0 l1 (wrap64 (x5_1 + 1))) else (some t555)) = some r := by rw [if_neg (show ¬ (false = true) by decide)] at H; exact H
         clear H;have H := H1;clear H1;by_cases c18 : t555 = 0
         ·rw [if_pos c18] at H;have c18b0 : (t555 == 0) = true := beq_iff_eq.mpr c18;have c18b1 : (t555 != 0) = false := bne_eq_false_iff_eq.mpr c18;clear c18;have H' := Z0.mk H;clear H;go_wp2
          go_roundg kj9
          case measure => have := HK1.out; have := HJ9.out; omega
          case rel => exact ⟨(wrap64 (x5_1 + 1)), (by first | rfl | (simp; done) | (simp [*]; done)), H', ⟨by have := HK1.out; have := HJ9.out; omega⟩, ⟨by repeat (first | (with_reducible first | exact HB.out | apply bwA | apply bwN | apply bw1) | exact HB.out)⟩⟩
         ·rw [if_neg c18] at H;have c18b0 : (t555 == 0) = false := beq_eq_false_iff_ne.mpr c18;have c18b1 : (t555 != 0) = true := bne_iff_ne.mpr c18;obtain rfl := Option.some.inj H;go_wp2
          go_ret
          exact ⟨by first | rfl | (simp [errW_none, errW_some] <;> rfl) | (simp [*, errW_none, errW_some] <;> rfl), by repeat (first | (with_reducible first | exact HB.out | apply bwA | apply bwN | apply bw1) | exact HB.out)⟩
     ·rw [if_neg c5] at H;exact absurd H (by simp)
    ·rw [if_neg c4] at H;have c4b0 : decide (x5_1 < (l1.length : Int)) = false := decide_eq_false c4;clear c4;obtain rfl := Option.some.inj H;go_wp2
     go_ret
     exact ⟨by first | rfl | (simp [errW_none, errW_some] <;> rfl) | (simp [*, errW_none, errW_some] <;> rfl), by repeat (first | (with_reducible first | exact HB.out | apply bwA | apply bwN | apply bw1) | exact HB.out)⟩
end Go.Proofs.YtppighiaffppkaaDoor.H
end
section
namespace Go.Proofs.YtppighiaffppkaaDoor.H
open Go.RowKit Go.Proofs.YtppighiaffppkaaDoorW.PrintWords Go.Proofs.YtppighiaffppkaaDoorW.PrintLast Go.Proofs.YtppighiaffppkaaDoorW.PrintMore
attribute [local go_sem] max2_int min2_int max_two min_two max_three min_three max_four min_four
set_option linter.unusedSimpArgs false
set_option linter.unusedVariables false
def cr6_Length.f (a0 : Int) (a1 : Int) (a2 : Int) (a3 : Int) : Option (Int) := some (wrap64 ((wrap64 (a0 * a2)) + (wrap64 (a1 * a3))))
set_option maxHeartbeats 8000000 in
set_option maxRecDepth 100000 in
theorem cr6_Length.calls (a0 : Int) (a1 : Int) (a2 : Int) (a3 : Int) (r : Int) (w : World) (h : cr6_Length.f a0 a1 a2 a3 = some r) :
  Calls Tryd.prog 58 #[.int .i64 a0, .int .i64 a1, .int .i64 a2, .int .i64 a3] w fun e w' => e = .returned (.int .i64 r) ∧ Drawn0 w w' := by
 have H : (some (wrap64 ((wrap64 (a0 * a2)) + (wrap64 (a1 * a3))))) = some r := h
 clear h
 obtain rfl := Option.some.inj H
 go_enter Tryd.func58, Tryd.ntmps58
 go_wp2
 go_ret
 exact ⟨by first | rfl | (simp; done) | (simp [*]; done), by repeat (first | exact Drawn0.refl _ | apply Drawn0.step)⟩
end Go.Proofs.YtppighiaffppkaaDoor.H
end
